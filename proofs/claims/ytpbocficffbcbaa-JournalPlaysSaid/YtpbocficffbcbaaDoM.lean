import Derived.Test.YtpbocficffbcbaaDoC
import Derived.Test.YtpbocficffbcbaaList2
namespace Go.Proofs.Ytpbocficffbcbaa
open Go Go.RowKit
set_option linter.unusedVariables false

theorem insAny (w : World) (a : Option Addr) (n cap : Nat) (zs : List Int) (h : SlAt w 1 a n cap (zs.map (.int .i64))) (hn : n < 1000000) (i : Nat) (x : Int) :
    Calls Try.prog 18 #[.slice a n cap, .int .i64 i, .int .i64 x] w (fun e w' => ∃ a' c', e = .returned (.tuple #[.slice a' (if i ≤ n then n + 1 else 0) c', errV 32 (if i ≤ n then 0 else 1)]) ∧ (i ≤ n → RowAt w' 3 1 a' (n + 1) c' ((insAt zs i x).map (.int .i64)) ∧ Fresh w.heap.size a') ∧ Below w.heap.size w w') := by
  by_cases hi : i ≤ n
  · rw [if_pos hi, if_pos hi]
    exact (insOk w a n cap zs h hn i hi x).mono fun e w' ⟨a', c', h1, h2, h3, h4⟩ => ⟨a', c', h1, fun _ => ⟨h2, h3⟩, h4⟩
  · rw [if_neg hi, if_neg hi]
    exact (insBad w a n cap i x (.inr (by omega))).mono fun e w' ⟨h1, h2⟩ => ⟨none, 0, h1, fun h => absurd h hi, by subst h2; exact Below.refl _ _⟩
theorem below_cell2 {w w' : World} (h : Below w.heap.size w w') {p : Addr} {v : Value} (hc : w.cell? p = some v) : w'.cell? p = some v := (h.cell (World.block_lt_of_cell? w p hc)).trans hc
theorem set_self (s : St) (k : Nat) (hk : k < s.l.length) (y : List Int) : lenOf ⟨s.o, s.l.set k y, s.p⟩ (1 + k) = y.length ∧ rowOf ⟨s.o, s.l.set k y, s.p⟩ (1 + k) = y.map (.int .i64) := by
  unfold lenOf rowOf
  rw [if_neg (by omega), if_neg (by omega), Nat.add_sub_cancel_left, getD_set, if_pos ⟨rfl, hk⟩]
  exact ⟨rfl, rfl⟩
theorem set_other' (s : St) (k : Nat) (y : List Int) (j : Nat) (hj : j ≠ 1 + k) : lenOf ⟨s.o, s.l.set k y, s.p⟩ j = lenOf s j ∧ rowOf ⟨s.o, s.l.set k y, s.p⟩ j = rowOf s j := set_other s k y j (by omega)
theorem StO.lt' {B : Nat} {w : World} {cs : Array Value} {s : St} (h : StO B w cs s) {j : Nat} {b : Option Addr} {m d : Nat} (hj : j < 12) (he : cs[j]? = some (.slice b m d)) : ∀ y, b = some y → y.block < w.heap.size := fun y hy => by
  obtain ⟨a, c, h1, h2, _⟩ := h.sl j hj
  rw [he] at h1
  simp at h1
  exact h2.lt y (h1.1 ▸ hy)
theorem ty_sz (k : Nat) : tyOf (1 + k) = 3 ∧ szOf (1 + k) = 1 := by
  unfold tyOf szOf
  rw [if_neg (by omega), if_neg (by omega)]
  exact ⟨rfl, rfl⟩
theorem EvCells.six {w : World} {k : Nat} {e : Ev} {x0 x1 x2 x3 x4 x5 : Int} (h : EvCells w k e) (he : e = ⟨x0, x1, x2, x3, x4, x5⟩) : w.cell? ⟨k, 0, none⟩ = some (.int .i64 x0) ∧ w.cell? ⟨k, 1, none⟩ = some (.int .i64 x1) ∧ w.cell? ⟨k, 2, none⟩ = some (.int .i64 x2) ∧ w.cell? ⟨k, 3, none⟩ = some (.int .i64 x3) ∧ w.cell? ⟨k, 4, none⟩ = some (.int .i64 x4) ∧ w.cell? ⟨k, 5, none⟩ = some (.int .i64 x5) := by
  subst he
  exact h

set_option maxRecDepth 100000 in
set_option maxHeartbeats 1600000 in
theorem moveAny (w : World) (B g : Nat) (cs : Array Value) (s : St) (h : StAt w B g s cs) (ok : StOk s) (hB : B ≤ w.heap.size) (ea eb ec ed ef : Nat) (hb11 : eb < 11) (hd11 : ed < 11) (fits : Fits s 100000) (e : Ev) (he : e = ⟨1, ea, eb, ec, ed, ef⟩) (r : Int) (hr : r = if (s.o.length : Int) ≤ e.a then 4 else if mvB s e then (if ((mvTo s e).length : Int) < e.e then 1 else 0) else 20) :
    Calls Try.prog 97 #[.pointer (some ⟨g, 0, none⟩), evV e] w (DoTo w B g s (mvS s e) r) := by
  have b0 : Below w.heap.size w (w.alloc (.cells (evA e) 64)) := ((Below.refl _ w).alloc (Nat.le_refl _) _)
  have hst := h.all b0
  obtain ⟨a0, c0, h0, r0, f0⟩ := hst.own.sz0
  have hn0 := r0.le
  have hm0 := r0.max
  unfold maxLen at hm0
  have k0 := (obj_cell hst.obj 0).trans h0
  have hg := obj_lt h.obj
  have hgz : g < (w.alloc (.cells (evA e) 64)).heap.size := by simp; omega
  have oe := alloc_new w (.cells (evA e) 64)
  have hz0 : (w.alloc (.cells (evA e) 64)).heap.size = w.heap.size + 1 := by simp
  have hgw : g ≠ w.heap.size := by omega
  obtain ⟨n, hn⟩ : ∃ n, n = s.o.length := ⟨_, rfl⟩
  rw [← hn] at k0 hn0
  obtain ⟨ab, cb, h1, r1, f1⟩ := hst.own.szl eb hb11
  have hlb := fits.l eb
  obtain ⟨lb, hlb2⟩ : ∃ lb, lb = s.l.getD eb [] := ⟨_, rfl⟩
  rw [← hlb2] at h1 r1 hlb
  have k1 := (obj_cell hst.obj (1 + eb)).trans h1
  obtain ⟨nb, hnb⟩ : ∃ nb, nb = lb.length := ⟨_, rfl⟩
  rw [← hnb] at k1 hlb r1
  have hmv : mvB s e = (decide (ec < nb) && decide (lb.getD ec 0 = (ea : Int))) := by rw [he, hnb, hlb2]; simp [mvB, lst]
  have Hmv := Lib.hid hmv
  clear hmv
  have Hst := Lib.hid hst
  have R1 := Lib.hid r1
  have F1 := Lib.hid f1
  have B0 := Lib.hid b0
  have Ok := Lib.hid ok
  have Hr := Lib.hid hr
  have Hz0 := Lib.hid hz0
  have Oe := Lib.hid oe
  have Hn := Lib.hid hn
  have Hlb := Lib.hid hlb2
  have Hnb := Lib.hid hnb
  have He := Lib.hid he
  have Fi := Lib.hid fits
  clear h0 r0 f0 h1 r1 f1 h hst b0 ok hr hz0 oe hn hlb2 hnb fits he
  go_enter Try.func97, Try.ntmps97
  go_wp2_with fail
  generalize (w.alloc (.cells (evA e) 64)) = wa at *
  have hx : Below wa.heap.size wa wa := Below.refl _ _
  have HE := Lib.hid (fun (x : World) (hb : Below wa.heap.size wa x) => (EvCells.of (below_obj hb Oe.out (by have := Hz0.out; omega))).six He.out)
  obtain ⟨x0, x1, x2, x3, x4, x5⟩ := HE.out wa hx
  clear x0 x2 x3 x4 x5
  have hbi : (eb : Int) < 11 := by omega
  have hdi : (ed : Int) < 11 := by omega
  by_cases hlen : n ≤ ea
  · have hr4 : r = 4 := by rw [Hr.out, if_pos (by rw [← Hn.out, He.out]; simpa using hlen)]
    have Hr4 := Lib.hid hr4
    clear hr4
    go_quiet (fail)
    go_wp2_with fail
    go_ret
    exact ⟨ret_err (a := 4) Hr4.out.symm, (Upd.of_below B0.out).trans (Upd.of_below (S := fun k => k = g) (((Q.refl _).drewN _).below _)) (fun _ _ h => h), _, by rw [Hr4.out, if_neg (by decide)]; exact Hst.out.all (((Q.refl _).drewN _).below _)⟩
  have hlen' : ea < n := by omega
  clear hlen
  have hai : (ea : Int) < (n : Int) := by omega
  go_quiet (fail)
  go_wp2_with fail
  replace hx : Below wa.heap.size wa (wa.drewN nq).drew := (((Q.refl wa).drewN _).below _).drew
  clear x1 k0
  have HT := Lib.hid (fun (x : World) (hb : Below wa.heap.size wa x) => (⟨(hb.cell (p := ⟨g, 1 + eb, none⟩) hgz).trans k1, HE.out x hb⟩ : x.cell? ⟨g, 1 + eb, none⟩ = some (.slice ab nb cb) ∧ x.cell? ⟨w.heap.size, 0, none⟩ = some (.int .i64 1) ∧ x.cell? ⟨w.heap.size, 1, none⟩ = some (.int .i64 (ea : Int)) ∧ x.cell? ⟨w.heap.size, 2, none⟩ = some (.int .i64 (eb : Int)) ∧ x.cell? ⟨w.heap.size, 3, none⟩ = some (.int .i64 (ec : Int)) ∧ x.cell? ⟨w.heap.size, 4, none⟩ = some (.int .i64 (ed : Int)) ∧ x.cell? ⟨w.heap.size, 5, none⟩ = some (.int .i64 (ef : Int))))
  clear k1
  obtain ⟨z, hz⟩ : ∃ z, z = lb.getD ec 0 := ⟨_, rfl⟩
  rw [← hz] at Hmv
  have Hz := Lib.hid hz
  clear hz
  by_cases hcn : ec < nb
  rotate_left
  · have Hr2 := Lib.hid (show r = 20 by rw [Hr.out, if_neg (by have := Hn.out; rw [He.out]; simp; omega), Hmv.out, if_neg (by simp [hcn])])
    refine wp_region_held_drew (S := fun x => x.cell? ⟨g, 1 + eb, none⟩ = some (.slice ab nb cb) ∧ x.cell? ⟨w.heap.size, 0, none⟩ = some (.int .i64 1) ∧ x.cell? ⟨w.heap.size, 1, none⟩ = some (.int .i64 (ea : Int)) ∧ x.cell? ⟨w.heap.size, 2, none⟩ = some (.int .i64 (eb : Int)) ∧ x.cell? ⟨w.heap.size, 3, none⟩ = some (.int .i64 (ec : Int)) ∧ x.cell? ⟨w.heap.size, 4, none⟩ = some (.int .i64 (ed : Int)) ∧ x.cell? ⟨w.heap.size, 5, none⟩ = some (.int .i64 (ef : Int))) (by kernel_rfl) (HT.out _ hx) (fun hHeld => ?_)
    refine wpAnyH_take (i := 0) (oi := ⟨some 20, _, _, _, _, _⟩) (v := ?_) rfl (by kernel_rfl) (by kernel_rfl) (by kernel_rfl) (fun _ _ _ h => h) (Or.inl ⟨by rfl, ?_⟩) hHeld ?_
    rotate_left
    · intro w' hS'
      (try dsimp only at hS')
      go_simp
      try with_reducible rfl
    try simp only [Act.put, List.setIfInBounds_toArray, List.set_cons_zero, List.set_cons_succ]
    refine wpAnyH_take (i := 1) (oi := ⟨some 21, _, _, _, _, _⟩) (v := ?_) rfl (by kernel_rfl) (by kernel_rfl) (by kernel_rfl) (fun _ _ _ h => h) (Or.inl ⟨by rfl, ?_⟩) hHeld ?_
    rotate_left
    · intro w' hS'
      (try dsimp only at hS')
      go_simp
      try with_reducible rfl
    try simp only [Act.put, List.setIfInBounds_toArray, List.set_cons_zero, List.set_cons_succ]
    refine wpAnyH_take (i := 2) (oi := ⟨some 22, _, _, _, _, _⟩) (v := ?_) rfl (by kernel_rfl) (by kernel_rfl) (by kernel_rfl) (fun _ _ _ h => h) (Or.inl ⟨by rfl, ?_⟩) hHeld ?_
    rotate_left
    · intro w' hS'
      (try dsimp only at hS')
      go_simp
      try with_reducible rfl
    try simp only [Act.put, List.setIfInBounds_toArray, List.set_cons_zero, List.set_cons_succ]
    refine wpAnyH_take (i := 3) (oi := ⟨some 23, _, _, _, _, _⟩) (v := ?_) rfl (by kernel_rfl) (by kernel_rfl) (by kernel_rfl) (fun _ _ _ h => h) (Or.inl ⟨by rfl, ?_⟩) hHeld ?_
    rotate_left
    · intro w' hS'
      (try dsimp only at hS')
      go_simp
      try with_reducible rfl
    try simp only [Act.put, List.setIfInBounds_toArray, List.set_cons_zero, List.set_cons_succ]
    refine wpAnyH_take (i := 4) (oi := ⟨some 24, _, _, _, _, _⟩) (v := ?_) rfl (by kernel_rfl) (by kernel_rfl) (by kernel_rfl) (fun _ _ _ h => h) (Or.inl ⟨by rfl, ?_⟩) hHeld ?_
    rotate_left
    · intro w' hS'
      (try dsimp only at hS')
      go_simp
      try with_reducible rfl
    try simp only [Act.put, List.setIfInBounds_toArray, List.set_cons_zero, List.set_cons_succ]
    refine wpAnyH_take (i := 5) (oi := ⟨some 25, _, _, _, _, _⟩) (v := ?_) rfl (by kernel_rfl) (by kernel_rfl) (by kernel_rfl) (fun _ _ _ h => h) (Or.inl ⟨by rfl, ?_⟩) hHeld ?_
    rotate_left
    · intro w' hS'
      (try dsimp only at hS')
      go_simp
      try with_reducible rfl
    try simp only [Act.put, List.setIfInBounds_toArray, List.set_cons_zero, List.set_cons_succ]
    refine wpAnyH_take (i := 6) (oi := ⟨some 26, _, _, _, _, _⟩) (v := ?_) rfl (by kernel_rfl) (by kernel_rfl) (by kernel_rfl) (fun _ _ _ h => h) (Or.inl ⟨by rfl, ?_⟩) hHeld ?_
    rotate_left
    · intro w' hS'
      (try dsimp only at hS')
      go_simp
      try with_reducible rfl
    try simp only [Act.put, List.setIfInBounds_toArray, List.set_cons_zero, List.set_cons_succ]
    refine wpAnyH_take (i := 7) (oi := ⟨some 27, _, _, _, _, _⟩) (v := ?_) rfl (by kernel_rfl) (by kernel_rfl) (by kernel_rfl) (fun _ _ _ h => h) (Or.inl ⟨by rfl, ?_⟩) hHeld ?_
    rotate_left
    · intro w' hS'
      (try dsimp only at hS')
      go_simp
      try with_reducible rfl
    try simp only [Act.put, List.setIfInBounds_toArray, List.set_cons_zero, List.set_cons_succ]
    refine wpAnyH_take (i := 8) (oi := ⟨some 28, _, _, _, _, _⟩) (v := ?_) rfl (by kernel_rfl) (by kernel_rfl) (by kernel_rfl) (fun _ _ _ h => h) (Or.inl ⟨by rfl, ?_⟩) hHeld ?_
    rotate_left
    · intro w' hS'
      (try dsimp only at hS')
      go_simp
      try with_reducible rfl
    try simp only [Act.put, List.setIfInBounds_toArray, List.set_cons_zero, List.set_cons_succ]
    refine wpAnyH_all (rs := [9]) (by kernel_rfl) (by simp) ?_
    intro ix hix
    obtain rfl : ix = 9 := by simpa using hix
    clear hix
    refine wpOp_step (o := ⟨some 29, _, _, _, _, _⟩) rfl (fun K hK => ?_)
    have HK := Lib.hid hK
    clear hK
    go_simp
    refine (remBad _ ab nb cb _ (.inr (by omega))).mono ?_
    rintro x w1 ⟨rfl, rfl⟩
    rw [errV_pos _ _ (by decide : (1 : Int) ≠ 0)]
    go_wp2_with fail
    refine HK.out _ _ ⟨(HT.out _ hx), ?_⟩
    clear HK
    try clear hHeld
    have hHeld := (HT.out _ hx)
    try simp only [Act.put, List.setIfInBounds_toArray, List.set_cons_zero, List.set_cons_succ]
    refine wpAnyH_take (i := 10) (oi := ⟨some 19, _, _, _, _, _⟩) (v := ?_) rfl (by kernel_rfl) (by kernel_rfl) (by kernel_rfl) (fun _ _ _ h => h) (Or.inl ⟨by rfl, ?_⟩) hHeld ?_
    rotate_left
    · intro w' hS'
      (try dsimp only at hS')
      go_simp
      try with_reducible rfl
    try simp only [Act.put, List.setIfInBounds_toArray, List.set_cons_zero, List.set_cons_succ]
    refine wpAnyH_take (i := 11) (oi := ⟨some 30, _, _, _, _, _⟩) (v := ?_) rfl (by kernel_rfl) (by kernel_rfl) (by kernel_rfl) (fun _ _ _ h => h) (Or.inl ⟨by rfl, ?_⟩) hHeld ?_
    rotate_left
    · intro w' hS'
      (try dsimp only at hS')
      go_simp
      try with_reducible rfl
    try simp only [Act.put, List.setIfInBounds_toArray, List.set_cons_zero, List.set_cons_succ]
    refine wpAnyH_take (i := 12) (oi := ⟨some 31, _, _, _, _, _⟩) (v := ?_) rfl (by kernel_rfl) (by kernel_rfl) (by kernel_rfl) (fun _ _ _ h => h) (Or.inl ⟨by rfl, ?_⟩) hHeld ?_
    rotate_left
    · intro w' hS'
      (try dsimp only at hS')
      go_simp
      try with_reducible rfl
    try simp only [Act.put, List.setIfInBounds_toArray, List.set_cons_zero, List.set_cons_succ]
    refine wpAnyH_take (i := 13) (oi := ⟨some 32, _, _, _, _, _⟩) (v := ?_) rfl (by kernel_rfl) (by kernel_rfl) (by kernel_rfl) (fun _ _ _ h => h) (Or.inl ⟨by rfl, ?_⟩) hHeld ?_
    rotate_left
    · intro w' hS'
      (try dsimp only at hS')
      go_simp
      try with_reducible rfl
    try simp only [Act.put, List.setIfInBounds_toArray, List.set_cons_zero, List.set_cons_succ]
    refine wpAnyH_take (i := 14) (oi := ⟨some 5, _, _, _, _, _⟩) (v := ?_) rfl (by kernel_rfl) (by kernel_rfl) (by kernel_rfl) (fun _ _ _ h => h) (Or.inl ⟨by rfl, ?_⟩) hHeld ?_
    rotate_left
    · intro w' hS'
      (try dsimp only at hS')
      go_simp
      try with_reducible rfl
    try simp only [Act.put, List.setIfInBounds_toArray, List.set_cons_zero, List.set_cons_succ]
    refine wpAnyH_take (i := 15) (oi := ⟨some 6, _, _, _, _, _⟩) (v := ?_) rfl (by kernel_rfl) (by kernel_rfl) (by kernel_rfl) (fun _ _ _ h => h) (Or.inl ⟨by rfl, ?_⟩) hHeld ?_
    rotate_left
    · intro w' hS'
      (try dsimp only at hS')
      go_simp
      try with_reducible rfl
    try simp only [Act.put, List.setIfInBounds_toArray, List.set_cons_zero, List.set_cons_succ]
    refine wpAnyH_take (i := 16) (oi := ⟨some 7, _, _, _, _, _⟩) (v := ?_) rfl (by kernel_rfl) (by kernel_rfl) (by kernel_rfl) (fun _ _ _ h => h) (Or.inl ⟨by rfl, ?_⟩) hHeld ?_
    rotate_left
    · intro w' hS'
      (try dsimp only at hS')
      go_simp
      try with_reducible rfl
    try simp only [Act.put, List.setIfInBounds_toArray, List.set_cons_zero, List.set_cons_succ]
    refine wpAnyH_done (by kernel_rfl) ?_ _
    go_wp2_with fail
    go_ret
    exact ⟨ret_err (a := 20) Hr2.out.symm, (Upd.of_below B0.out).trans (Upd.of_below (S := fun k => k = g) hx) (fun _ _ h => h), _, by rw [Hr2.out, if_neg (by decide)]; exact Hst.out.all hx⟩
  refine wp_region_held_drew (S := fun x => x.cell? ⟨g, 1 + eb, none⟩ = some (.slice ab nb cb) ∧ x.cell? ⟨w.heap.size, 0, none⟩ = some (.int .i64 1) ∧ x.cell? ⟨w.heap.size, 1, none⟩ = some (.int .i64 (ea : Int)) ∧ x.cell? ⟨w.heap.size, 2, none⟩ = some (.int .i64 (eb : Int)) ∧ x.cell? ⟨w.heap.size, 3, none⟩ = some (.int .i64 (ec : Int)) ∧ x.cell? ⟨w.heap.size, 4, none⟩ = some (.int .i64 (ed : Int)) ∧ x.cell? ⟨w.heap.size, 5, none⟩ = some (.int .i64 (ef : Int))) (by kernel_rfl) (HT.out _ hx) (fun hHeld => ?_)
  refine wpAnyH_take (i := 0) (oi := ⟨some 20, _, _, _, _, _⟩) (v := ?_) rfl (by kernel_rfl) (by kernel_rfl) (by kernel_rfl) (fun _ _ _ h => h) (Or.inl ⟨by rfl, ?_⟩) hHeld ?_
  rotate_left
  · intro w' hS'
    (try dsimp only at hS')
    go_simp
    try with_reducible rfl
  try simp only [Act.put, List.setIfInBounds_toArray, List.set_cons_zero, List.set_cons_succ]
  refine wpAnyH_take (i := 1) (oi := ⟨some 21, _, _, _, _, _⟩) (v := ?_) rfl (by kernel_rfl) (by kernel_rfl) (by kernel_rfl) (fun _ _ _ h => h) (Or.inl ⟨by rfl, ?_⟩) hHeld ?_
  rotate_left
  · intro w' hS'
    (try dsimp only at hS')
    go_simp
    try with_reducible rfl
  try simp only [Act.put, List.setIfInBounds_toArray, List.set_cons_zero, List.set_cons_succ]
  refine wpAnyH_take (i := 2) (oi := ⟨some 22, _, _, _, _, _⟩) (v := ?_) rfl (by kernel_rfl) (by kernel_rfl) (by kernel_rfl) (fun _ _ _ h => h) (Or.inl ⟨by rfl, ?_⟩) hHeld ?_
  rotate_left
  · intro w' hS'
    (try dsimp only at hS')
    go_simp
    try with_reducible rfl
  try simp only [Act.put, List.setIfInBounds_toArray, List.set_cons_zero, List.set_cons_succ]
  refine wpAnyH_take (i := 3) (oi := ⟨some 23, _, _, _, _, _⟩) (v := ?_) rfl (by kernel_rfl) (by kernel_rfl) (by kernel_rfl) (fun _ _ _ h => h) (Or.inl ⟨by rfl, ?_⟩) hHeld ?_
  rotate_left
  · intro w' hS'
    (try dsimp only at hS')
    go_simp
    try with_reducible rfl
  try simp only [Act.put, List.setIfInBounds_toArray, List.set_cons_zero, List.set_cons_succ]
  refine wpAnyH_take (i := 4) (oi := ⟨some 24, _, _, _, _, _⟩) (v := ?_) rfl (by kernel_rfl) (by kernel_rfl) (by kernel_rfl) (fun _ _ _ h => h) (Or.inl ⟨by rfl, ?_⟩) hHeld ?_
  rotate_left
  · intro w' hS'
    (try dsimp only at hS')
    go_simp
    try with_reducible rfl
  try simp only [Act.put, List.setIfInBounds_toArray, List.set_cons_zero, List.set_cons_succ]
  refine wpAnyH_take (i := 5) (oi := ⟨some 25, _, _, _, _, _⟩) (v := ?_) rfl (by kernel_rfl) (by kernel_rfl) (by kernel_rfl) (fun _ _ _ h => h) (Or.inl ⟨by rfl, ?_⟩) hHeld ?_
  rotate_left
  · intro w' hS'
    (try dsimp only at hS')
    go_simp
    try with_reducible rfl
  try simp only [Act.put, List.setIfInBounds_toArray, List.set_cons_zero, List.set_cons_succ]
  refine wpAnyH_take (i := 6) (oi := ⟨some 26, _, _, _, _, _⟩) (v := ?_) rfl (by kernel_rfl) (by kernel_rfl) (by kernel_rfl) (fun _ _ _ h => h) (Or.inl ⟨by rfl, ?_⟩) hHeld ?_
  rotate_left
  · intro w' hS'
    (try dsimp only at hS')
    go_simp
    try with_reducible rfl
  try simp only [Act.put, List.setIfInBounds_toArray, List.set_cons_zero, List.set_cons_succ]
  refine wpAnyH_take (i := 7) (oi := ⟨some 27, _, _, _, _, _⟩) (v := ?_) rfl (by kernel_rfl) (by kernel_rfl) (by kernel_rfl) (fun _ _ _ h => h) (Or.inl ⟨by rfl, ?_⟩) hHeld ?_
  rotate_left
  · intro w' hS'
    (try dsimp only at hS')
    go_simp
    try with_reducible rfl
  try simp only [Act.put, List.setIfInBounds_toArray, List.set_cons_zero, List.set_cons_succ]
  refine wpAnyH_take (i := 8) (oi := ⟨some 28, _, _, _, _, _⟩) (v := ?_) rfl (by kernel_rfl) (by kernel_rfl) (by kernel_rfl) (fun _ _ _ h => h) (Or.inl ⟨by rfl, ?_⟩) hHeld ?_
  rotate_left
  · intro w' hS'
    (try dsimp only at hS')
    go_simp
    try with_reducible rfl
  try simp only [Act.put, List.setIfInBounds_toArray, List.set_cons_zero, List.set_cons_succ]
  refine wpAnyH_all (rs := [9]) (by kernel_rfl) (by simp) ?_
  intro ix hix
  obtain rfl : ix = 9 := by simpa using hix
  clear hix
  refine wpOp_step (o := ⟨some 29, _, _, _, _, _⟩) rfl (fun K hK => ?_)
  have HK := Lib.hid hK
  clear hK
  go_simp
  refine (remOk _ ab nb cb lb (R1.out.sl.all hx) (by omega) ec hcn).mono ?_
  rintro x w1 ⟨a2, c2, rfl, hr2, hf2, hb2⟩
  rw [← Hz.out]
  have Hrr2 := Lib.hid hr2
  have Hf2 := Lib.hid (hf2.mono hx.size)
  replace hx := hx.trans (hb2.mono hx.size)
  have hlt2 := hr2.lt
  clear hr2 hf2 hb2
  go_wp2_with fail
  refine HK.out _ _ ⟨(HT.out _ hx), ?_⟩
  clear HK
  try clear hHeld
  have hHeld := (HT.out _ hx)
  try simp only [Act.put, List.setIfInBounds_toArray, List.set_cons_zero, List.set_cons_succ]
  refine wpAnyH_take (i := 10) (oi := ⟨some 19, _, _, _, _, _⟩) (v := ?_) rfl (by kernel_rfl) (by kernel_rfl) (by kernel_rfl) (fun _ _ _ h => h) (Or.inl ⟨by rfl, ?_⟩) hHeld ?_
  rotate_left
  · intro w' hS'
    (try dsimp only at hS')
    go_simp
    try with_reducible rfl
  try simp only [Act.put, List.setIfInBounds_toArray, List.set_cons_zero, List.set_cons_succ]
  refine wpAnyH_take (i := 11) (oi := ⟨some 30, _, _, _, _, _⟩) (v := ?_) rfl (by kernel_rfl) (by kernel_rfl) (by kernel_rfl) (fun _ _ _ h => h) (Or.inl ⟨by rfl, ?_⟩) hHeld ?_
  rotate_left
  · intro w' hS'
    (try dsimp only at hS')
    go_simp
    try with_reducible rfl
  try simp only [Act.put, List.setIfInBounds_toArray, List.set_cons_zero, List.set_cons_succ]
  refine wpAnyH_take (i := 12) (oi := ⟨some 31, _, _, _, _, _⟩) (v := ?_) rfl (by kernel_rfl) (by kernel_rfl) (by kernel_rfl) (fun _ _ _ h => h) (Or.inl ⟨by rfl, ?_⟩) hHeld ?_
  rotate_left
  · intro w' hS'
    (try dsimp only at hS')
    go_simp
    try with_reducible rfl
  try simp only [Act.put, List.setIfInBounds_toArray, List.set_cons_zero, List.set_cons_succ]
  refine wpAnyH_take (i := 13) (oi := ⟨some 32, _, _, _, _, _⟩) (v := ?_) rfl (by kernel_rfl) (by kernel_rfl) (by kernel_rfl) (fun _ _ _ h => h) (Or.inl ⟨by rfl, ?_⟩) hHeld ?_
  rotate_left
  · intro w' hS'
    (try dsimp only at hS')
    go_simp
    try with_reducible rfl
  try simp only [Act.put, List.setIfInBounds_toArray, List.set_cons_zero, List.set_cons_succ]
  refine wpAnyH_take (i := 14) (oi := ⟨some 5, _, _, _, _, _⟩) (v := ?_) rfl (by kernel_rfl) (by kernel_rfl) (by kernel_rfl) (fun _ _ _ h => h) (Or.inl ⟨by rfl, ?_⟩) hHeld ?_
  rotate_left
  · intro w' hS'
    (try dsimp only at hS')
    go_simp
    try with_reducible rfl
  try simp only [Act.put, List.setIfInBounds_toArray, List.set_cons_zero, List.set_cons_succ]
  refine wpAnyH_take (i := 15) (oi := ⟨some 6, _, _, _, _, _⟩) (v := ?_) rfl (by kernel_rfl) (by kernel_rfl) (by kernel_rfl) (fun _ _ _ h => h) (Or.inl ⟨by rfl, ?_⟩) hHeld ?_
  rotate_left
  · intro w' hS'
    (try dsimp only at hS')
    go_simp
    try with_reducible rfl
  try simp only [Act.put, List.setIfInBounds_toArray, List.set_cons_zero, List.set_cons_succ]
  refine wpAnyH_take (i := 16) (oi := ⟨some 7, _, _, _, _, _⟩) (v := ?_) rfl (by kernel_rfl) (by kernel_rfl) (by kernel_rfl) (fun _ _ _ h => h) (Or.inl ⟨by rfl, ?_⟩) hHeld ?_
  rotate_left
  · intro w' hS'
    (try dsimp only at hS')
    go_simp
    try with_reducible rfl
  try simp only [Act.put, List.setIfInBounds_toArray, List.set_cons_zero, List.set_cons_succ]
  refine wpAnyH_done (by kernel_rfl) ?_ _
  obtain ⟨y0, y1, y2, y3, y4, y5⟩ := HE.out _ hx
  clear hHeld y0 y2 y3 y4 y5
  by_cases hza : z = (ea : Int)
  rotate_left
  · have hza' : (z != (ea : Int)) = true := by simp [hza]
    have Hr2 := Lib.hid (show r = 20 by rw [Hr.out, if_neg (by have := Hn.out; rw [He.out]; simp; omega), Hmv.out, if_neg (by simp [hza])])
    clear hza
    go_wp2_with fail
    go_ret
    exact ⟨ret_err (a := 20) Hr2.out.symm, (Upd.of_below B0.out).trans (Upd.of_below (S := fun k => k = g) hx) (fun _ _ h => h), _, by rw [Hr2.out, if_neg (by decide)]; exact Hst.out.all hx⟩
  subst hza
  have hr3 : r = if ((mvTo s e).length : Int) < ef then 1 else 0 := by rw [Hr.out, if_neg (by have := Hn.out; rw [He.out]; simp; omega), Hmv.out, if_pos (by simp [hcn]), He.out]
  have Hr3 := Lib.hid hr3
  clear hr3
  have hst1 := Hst.out.all hx
  obtain ⟨ad, cd, h4, r4, f4⟩ := hst1.own.szl ed hd11
  have k4 := (obj_cell hst1.obj (1 + ed)).trans h4
  have hld := Fi.out.l ed
  have hlt4 := r4.lt
  have R4 := Lib.hid r4
  have Hst1 := Lib.hid hst1
  obtain ⟨ld, hld2⟩ : ∃ ld, ld = s.l.getD ed [] := ⟨_, rfl⟩
  rw [← hld2] at k4 R4 hld
  have Hld := Lib.hid hld2
  clear hst1 h4 r4 f4 hld2
  go_wp2_with fail
  obtain ⟨y0, y1, y2, y3, y4, y5⟩ := HE.out _ hx
  clear y0 y1 y2 y3 y5
  go_quiet (fail)
  replace hx : Below wa.heap.size wa (w1.drewN nq) := hx.trans (((Q.refl w1).drewN nq).below _)
  clear k4 y4 y1
  obtain ⟨y0, y1, y2, y3, y4, y5⟩ := HE.out _ hx
  clear y0 y3
  have Hst2 := Lib.hid (Hst.out.all hx)
  have hwz : (w1.drewN nq).heap.size = w1.heap.size := rfl
  have Hr5 := Lib.hid (Hrr2.out.all (((Q.refl w1).drewN nq).below _))
  have Hr6 := Lib.hid (R4.out.all (((Q.refl w1).drewN nq).below _))
  have hx1s := hx.size
  generalize w1.drewN nq = wb at *
  obtain ⟨toL, htoL⟩ : ∃ toL, toL = mvTo s e := ⟨_, rfl⟩
  rw [← htoL] at Hr3
  have HtoL := Lib.hid htoL
  clear htoL
  have hmt : mvTo s e = if ed = eb then remAt lb ec else ld := by rw [He.out, Hlb.out, Hld.out]; simp only [mvTo, mvOut, lst, Int.toNat_natCast, Int.natCast_inj]
  have Hmt := Lib.hid hmt
  clear hmt
  have hrl := remAt_len lb ec (by have := Hnb.out; omega)
  have Hrl := Lib.hid hrl
  clear hrl
  by_cases hde : ed = eb
  · have Hto : Hid (toL = remAt lb ec) := Lib.hid (by rw [HtoL.out, Hmt.out, if_pos hde])
    subst hde
    have Ht : Hid (SlAt wb 1 a2 (nb - 1) c2 (toL.map (.int .i64))) := Lib.hid (by rw [Hto.out]; exact Hr5.out.sl)
    have hdis : ∀ ad', a2 = some ad' → ad'.block < wb.heap.size := fun ad' h => hwz ▸ hlt2 ad' h
    have Hdis := Lib.hid hdis
    clear hdis
    have htn : nb - 1 < 1000000 := by omega
    have Htl := Lib.hid (show toL.length = nb - 1 by rw [Hto.out, Hrl.out, Hnb.out])
    go_wp2_with fail
    refine (insAny _ a2 (nb - 1) c2 toL Ht.out htn ef (ea : Int)).mono ?_
    rintro x w3 ⟨a7, c7, rfl, hr7, hb7⟩
    by_cases hf : ef ≤ nb - 1
    rotate_left
    · rw [if_neg hf, if_neg hf]
      rw [errV_pos _ _ (by decide : (1 : Int) ≠ 0)]
      have Hr2 := Lib.hid (show r = 1 by rw [Hr3.out, if_pos (by have := Htl.out; omega)])
      replace hx := hx.trans (hb7.mono hx.size)
      clear y1 y2 y4 y5 hf hr7 hb7
      go_wp2_with fail
      go_ret
      exact ⟨ret_err (a := 1) Hr2.out.symm, (Upd.of_below B0.out).trans (Upd.of_below (S := fun k => k = g) hx) (fun _ _ h => h), _, by rw [Hr2.out, if_neg (by decide)]; exact Hst.out.all hx⟩
    obtain ⟨hr7, hf7⟩ := hr7 hf
    rw [if_pos hf, if_pos hf]
    rw [errV_zero]
    have Hr9 := Lib.hid (show r = 0 by rw [Hr3.out, if_neg (by have := Htl.out; omega)])
    have hb3 := hb7.size
    have Hr7 := Lib.hid hr7
    have Hf7 := Lib.hid hf7
    have Hr8 := Lib.hid (Hr5.out.all hb7)
    have hx3 := hx.trans (hb7.mono hx.size)
    have Hst3 := Lib.hid (Hst.out.all hx3)
    have Hlt7 := Lib.hid hr7.lt
    have Hlt2 := Lib.hid hlt2
    clear hb7 hr7 hf7 y1 y2 y4 y5 Hr3 hlt2
    obtain ⟨y0, y1, y2, y3, y4, y5⟩ := HE.out _ hx3
    have Y1 := Lib.hid y1
    have Y4 := Lib.hid y4
    clear y0 y1 y3 y4 y5
    have kf := obj_free Hst3.out.obj (1 + ed)
    obtain ⟨ab', cb', h1', _⟩ := Hst3.out.own.szl ed (by omega)
    have kc := (obj_cell Hst3.out.obj (1 + ed)).trans h1'
    clear h1'
    go_wp2_with fail
    have hHeld0 : w3.drew.cell? ⟨w.heap.size, 2, none⟩ = _ := y2
    clear y2
    refine wp_region_T 7 (fun x => x.cell? ⟨w.heap.size, 2, none⟩ = some (.int .i64 (ed : Int))) (by kernel_rfl) hHeld0 (fun hHeld => ?_)
    refine wpAnyT_takeU (i := 0) (oi := ⟨some 67, _, _, _, _, _⟩) (v := ?_) rfl (by kernel_rfl) (by kernel_rfl) (by kernel_rfl) (by kernel_rfl) (fun _ _ _ h => h) (Or.inl ⟨by rfl, ?_⟩) (fun _ => hHeld) ?_
    rotate_left
    · intro w' hS'
      (try dsimp only at hS')
      go_simp
      try with_reducible rfl
    try simp only [Act.put, List.setIfInBounds_toArray, List.set_cons_zero, List.set_cons_succ]
    refine wpAnyT_takeU (i := 1) (oi := ⟨some 68, _, _, _, _, _⟩) (v := ?_) rfl (by kernel_rfl) (by kernel_rfl) (by kernel_rfl) (by kernel_rfl) (fun _ _ _ h => h) (Or.inl ⟨by rfl, ?_⟩) (fun _ => hHeld) ?_
    rotate_left
    · intro w' hS'
      (try dsimp only at hS')
      go_simp
      try with_reducible rfl
    try simp only [Act.put, List.setIfInBounds_toArray, List.set_cons_zero, List.set_cons_succ]
    refine wpAnyT_take (i := 2) (oi := ⟨some 69, _, _, _, _, _⟩) (v := ?_) rfl (by kernel_rfl) (by kernel_rfl) (by kernel_rfl) (by kernel_rfl) (fun _ _ _ h => h) (Or.inl ⟨by rfl, ?_⟩) hHeld ?_
    rotate_left
    · intro w' hS'
      (try dsimp only at hS')
      go_simp
      try with_reducible rfl
    try simp only [Act.put, List.setIfInBounds_toArray, List.set_cons_zero, List.set_cons_succ]
    refine wpAnyT_takeU (i := 3) (oi := ⟨some 70, _, _, _, _, _⟩) (v := ?_) rfl (by kernel_rfl) (by kernel_rfl) (by kernel_rfl) (by kernel_rfl) (fun _ _ _ h => h) (Or.inl ⟨by rfl, ?_⟩) (fun _ => hHeld) ?_
    rotate_left
    · intro w' hS'
      (try dsimp only at hS')
      go_simp
      try with_reducible rfl
    try simp only [Act.put, List.setIfInBounds_toArray, List.set_cons_zero, List.set_cons_succ]
    refine wpAnyT_takeU (i := 4) (oi := ⟨some 71, _, _, _, _, _⟩) (v := ?_) rfl (by kernel_rfl) (by kernel_rfl) (by kernel_rfl) (by kernel_rfl) (fun _ _ _ h => h) (Or.inl ⟨by rfl, ?_⟩) (fun _ => hHeld) ?_
    rotate_left
    · intro w' hS'
      (try dsimp only at hS')
      go_simp
      try with_reducible rfl
    try simp only [Act.put, List.setIfInBounds_toArray, List.set_cons_zero, List.set_cons_succ]
    refine wpAnyT_takeU (i := 5) (oi := ⟨some 72, _, _, _, _, _⟩) (v := ?_) rfl (by kernel_rfl) (by kernel_rfl) (by kernel_rfl) (by kernel_rfl) (fun _ _ _ h => h) (Or.inl ⟨by rfl, ?_⟩) (fun _ => hHeld) ?_
    rotate_left
    · intro w' hS'
      (try dsimp only at hS')
      go_simp
      try with_reducible rfl
    try simp only [Act.put, List.setIfInBounds_toArray, List.set_cons_zero, List.set_cons_succ]
    refine wpAnyT_takeU (i := 6) (oi := ⟨some 73, _, _, _, _, _⟩) (v := ?_) rfl (by kernel_rfl) (by kernel_rfl) (by kernel_rfl) (by kernel_rfl) (fun _ _ _ h => h) (Or.inl ⟨by rfl, ?_⟩) (fun _ => hHeld) ?_
    rotate_left
    · intro w' hS'
      (try dsimp only at hS')
      go_simp
      try with_reducible rfl
    try simp only [Act.put, List.setIfInBounds_toArray, List.set_cons_zero, List.set_cons_succ]
    refine wpAnyT_all (rs := [7]) (by kernel_rfl) (by simp) ?_
    intro ix hix
    obtain rfl : ix = 7 := by simpa using hix
    clear hix
    refine wpOp_step (o := ⟨none, _, _, _, _, _⟩) rfl (fun K hK => ?_)
    have HK := Lib.hid hK
    clear hK
    go_simp
    go_wp2_with fail
    refine HK.out _ _ ⟨tl (by kernel_rfl), ?_⟩
    clear HK
    try clear hHeld
    try simp only [Act.put, List.setIfInBounds_toArray, List.set_cons_zero, List.set_cons_succ]
    refine wpAnyT_done (by kernel_rfl) ?_ _
    have hs1 := (Hst3.out.setSlG (s' := ⟨s.o, s.l.set ed (remAt lb ec), s.p⟩) (1 + ed) (by omega) (a := a2) (n := nb - 1) (c := c2) (by rw [(set_self s _ (by rw [Ok.out.l]; omega) _).1, Hrl.out, Hnb.out]) (by rw [(set_self s _ (by rw [Ok.out.l]; omega) _).2, (ty_sz _).1, (ty_sz _).2]; exact Hr8.out) (fun ad he => by have := Hf2.out ad he; have := Hz0.out; exact ⟨by omega, by omega⟩) (fun j b m d hj hji he x y hx hy => by have := Hf2.out x hx; have := Hst.out.own.lt' hj he y hy; omega) (fun j hj hji => set_other' s _ _ j hji) rfl).all ((Below.refl _ _).drew)
    have Y1b : Hid ((w3.setCell ⟨g, 1 + ed, none⟩ (.slice a2 (nb - 1) c2)).drew.cell? ⟨w.heap.size, 1, none⟩ = some (.int .i64 (ea : Int))) := Lib.hid (cell_set_other (w := w3) Y1.out (Ne.symm hgw))
    have Y4b : Hid ((w3.setCell ⟨g, 1 + ed, none⟩ (.slice a2 (nb - 1) c2)).drew.cell? ⟨w.heap.size, 4, none⟩ = some (.int .i64 (ed : Int))) := Lib.hid (cell_set_other (w := w3) Y4.out (Ne.symm hgw))
    have Hr7b := Lib.hid ((Hr7.out.setCell ⟨g, 1 + ed, none⟩ (fun ad he => by have := Hf7.out ad he; have := hx.size; show ad.block ≠ g; omega) (.slice a2 (nb - 1) c2)).drew)
    have Hu1 := Lib.hid (((((Upd.of_below B0.out).trans (Upd.of_below (S := fun k => k = g) hx3) (fun _ _ h => h))).setCell ⟨g, 1 + ed, none⟩ (fun _ => rfl) (.slice a2 (nb - 1) c2)).drew)
    have hW1 : (w3.setCell ⟨g, 1 + ed, none⟩ (.slice a2 (nb - 1) c2)).drew.heap.size = w3.heap.size := by simp
    generalize (w3.setCell ⟨g, 1 + ed, none⟩ (.slice a2 (nb - 1) c2)).drew = W1 at *
    have Hs1 := Lib.hid hs1
    clear hs1 kf kc hHeld0
    have kf := obj_free Hs1.out.obj (1 + ed)
    obtain ⟨ab'', cb'', h1', _⟩ := Hs1.out.own.szl ed hd11
    have kc := (obj_cell Hs1.out.obj (1 + ed)).trans h1'
    clear h1'
    go_wp2_with fail
    have hHeld0 : W1.drew.cell? ⟨w.heap.size, 4, none⟩ = _ := Y4b.out
    refine wp_region_T 7 (fun x => x.cell? ⟨w.heap.size, 4, none⟩ = some (.int .i64 (ed : Int))) (by kernel_rfl) hHeld0 (fun hHeld => ?_)
    refine wpAnyT_takeU (i := 0) (oi := ⟨some 74, _, _, _, _, _⟩) (v := ?_) rfl (by kernel_rfl) (by kernel_rfl) (by kernel_rfl) (by kernel_rfl) (fun _ _ _ h => h) (Or.inl ⟨by rfl, ?_⟩) (fun _ => hHeld) ?_
    rotate_left
    · intro w' hS'
      (try dsimp only at hS')
      go_simp
      try with_reducible rfl
    try simp only [Act.put, List.setIfInBounds_toArray, List.set_cons_zero, List.set_cons_succ]
    refine wpAnyT_takeU (i := 1) (oi := ⟨some 75, _, _, _, _, _⟩) (v := ?_) rfl (by kernel_rfl) (by kernel_rfl) (by kernel_rfl) (by kernel_rfl) (fun _ _ _ h => h) (Or.inl ⟨by rfl, ?_⟩) (fun _ => hHeld) ?_
    rotate_left
    · intro w' hS'
      (try dsimp only at hS')
      go_simp
      try with_reducible rfl
    try simp only [Act.put, List.setIfInBounds_toArray, List.set_cons_zero, List.set_cons_succ]
    refine wpAnyT_take (i := 2) (oi := ⟨some 76, _, _, _, _, _⟩) (v := ?_) rfl (by kernel_rfl) (by kernel_rfl) (by kernel_rfl) (by kernel_rfl) (fun _ _ _ h => h) (Or.inl ⟨by rfl, ?_⟩) hHeld ?_
    rotate_left
    · intro w' hS'
      (try dsimp only at hS')
      go_simp
      try with_reducible rfl
    try simp only [Act.put, List.setIfInBounds_toArray, List.set_cons_zero, List.set_cons_succ]
    refine wpAnyT_takeU (i := 3) (oi := ⟨some 77, _, _, _, _, _⟩) (v := ?_) rfl (by kernel_rfl) (by kernel_rfl) (by kernel_rfl) (by kernel_rfl) (fun _ _ _ h => h) (Or.inl ⟨by rfl, ?_⟩) (fun _ => hHeld) ?_
    rotate_left
    · intro w' hS'
      (try dsimp only at hS')
      go_simp
      try with_reducible rfl
    try simp only [Act.put, List.setIfInBounds_toArray, List.set_cons_zero, List.set_cons_succ]
    refine wpAnyT_takeU (i := 4) (oi := ⟨some 78, _, _, _, _, _⟩) (v := ?_) rfl (by kernel_rfl) (by kernel_rfl) (by kernel_rfl) (by kernel_rfl) (fun _ _ _ h => h) (Or.inl ⟨by rfl, ?_⟩) (fun _ => hHeld) ?_
    rotate_left
    · intro w' hS'
      (try dsimp only at hS')
      go_simp
      try with_reducible rfl
    try simp only [Act.put, List.setIfInBounds_toArray, List.set_cons_zero, List.set_cons_succ]
    refine wpAnyT_takeU (i := 5) (oi := ⟨some 79, _, _, _, _, _⟩) (v := ?_) rfl (by kernel_rfl) (by kernel_rfl) (by kernel_rfl) (by kernel_rfl) (fun _ _ _ h => h) (Or.inl ⟨by rfl, ?_⟩) (fun _ => hHeld) ?_
    rotate_left
    · intro w' hS'
      (try dsimp only at hS')
      go_simp
      try with_reducible rfl
    try simp only [Act.put, List.setIfInBounds_toArray, List.set_cons_zero, List.set_cons_succ]
    refine wpAnyT_takeU (i := 6) (oi := ⟨some 80, _, _, _, _, _⟩) (v := ?_) rfl (by kernel_rfl) (by kernel_rfl) (by kernel_rfl) (by kernel_rfl) (fun _ _ _ h => h) (Or.inl ⟨by rfl, ?_⟩) (fun _ => hHeld) ?_
    rotate_left
    · intro w' hS'
      (try dsimp only at hS')
      go_simp
      try with_reducible rfl
    try simp only [Act.put, List.setIfInBounds_toArray, List.set_cons_zero, List.set_cons_succ]
    refine wpAnyT_all (rs := [7]) (by kernel_rfl) (by simp) ?_
    intro ix hix
    obtain rfl : ix = 7 := by simpa using hix
    clear hix
    refine wpOp_step (o := ⟨none, _, _, _, _, _⟩) rfl (fun K hK => ?_)
    have HK := Lib.hid hK
    clear hK
    go_simp
    go_wp2_with fail
    refine HK.out _ _ ⟨tl (by kernel_rfl), ?_⟩
    clear HK
    try clear hHeld
    try simp only [Act.put, List.setIfInBounds_toArray, List.set_cons_zero, List.set_cons_succ]
    refine wpAnyT_done (by kernel_rfl) ?_ _
    have hs2 := (Hs1.out.setSlG (s' := ⟨s.o, (s.l.set ed (remAt lb ec)).set ed (insAt toL ef (ea : Int)), s.p⟩) (1 + ed) (by omega) (a := a7) (n := nb - 1 + 1) (c := c7) (by rw [(set_self ⟨s.o, s.l.set ed (remAt lb ec), s.p⟩ _ (by simp [Ok.out.l]; omega) _).1, insAt_len, Htl.out]) (by rw [(set_self ⟨s.o, s.l.set ed (remAt lb ec), s.p⟩ _ (by simp [Ok.out.l]; omega) _).2, (ty_sz _).1, (ty_sz _).2]; exact Hr7b.out) (fun ad he => by have := Hf7.out ad he; have := hx.size; have := Hz0.out; exact ⟨by omega, by omega⟩) (fun j b m d hj hji he x y hx' hy => by
        have h7 := Hf7.out x hx'
        by_cases hj1 : j = 1 + ed
        · subst hj1
          rw [Array.getElem?_setIfInBounds_self_of_lt (by rw [Hst.out.own.size]; omega)] at he
          simp at he
          have := Hlt2.out y (he.1.trans hy)
          omega
        · rw [Array.getElem?_setIfInBounds_ne (Ne.symm hj1)] at he
          have := Hst.out.own.lt' hj he y hy
          have := hx.size
          omega) (fun j hj hji => set_other' ⟨s.o, s.l.set ed (remAt lb ec), s.p⟩ _ _ j hji) rfl).all ((Below.refl _ _).drew)
    have Hs2 := Lib.hid hs2
    have Hu2 := Lib.hid ((Hu1.out.setCell ⟨g, 1 + ed, none⟩ (fun _ => rfl) (.slice a7 (nb - 1 + 1) c7)).drew)
    have Y1c : Hid ((W1.setCell ⟨g, 1 + ed, none⟩ (.slice a7 (nb - 1 + 1) c7)).drew.cell? ⟨w.heap.size, 1, none⟩ = some (.int .i64 (ea : Int))) := Lib.hid (cell_set_other (w := W1) Y1b.out (Ne.symm hgw))
    have Y4c : Hid ((W1.setCell ⟨g, 1 + ed, none⟩ (.slice a7 (nb - 1 + 1) c7)).drew.cell? ⟨w.heap.size, 4, none⟩ = some (.int .i64 (ed : Int))) := Lib.hid (cell_set_other (w := W1) Y4b.out (Ne.symm hgw))
    have hW2 : (W1.setCell ⟨g, 1 + ed, none⟩ (.slice a7 (nb - 1 + 1) c7)).drew.heap.size = W1.heap.size := by simp
    generalize (W1.setCell ⟨g, 1 + ed, none⟩ (.slice a7 (nb - 1 + 1) c7)).drew = W2 at *
    clear hs2 kf kc hHeld0
    obtain ⟨a9, c9, h9, r9, f9⟩ := Hs2.out.own.sz0
    have k9 := (obj_cell Hs2.out.obj 0).trans h9
    change W2.cell? _ = some (.slice a9 s.o.length c9) at k9
    change RowAt W2 _ 18 a9 s.o.length c9 (objs s.o) at r9
    rw [← Hn.out] at k9 r9
    have hn3 : n ≤ 100000 := by have := Hn.out; have := Fi.out.o; omega
    have R9 := Lib.hid r9
    clear r9 f9 h9
    go_wp2_with fail
    refine (cloneObjs _ a9 n c9 _ R9.out.sl (by omega)).mono ?_
    rintro x w5 ⟨a10, c10, rfl, hr10, hf10, hb10, hn10⟩
    have hs2c := Hs2.out.all hb10
    have hs3 := Hs2.out.setSl (s' := ⟨s.o, (s.l.set ed (remAt lb ec)).set ed (insAt toL ef (ea : Int)), s.p⟩) hb10 (by have := Hu2.out.size; omega) 0 (by decide) (a := a10) (n := n) (c := c10) (by rw [Hn.out]; rfl) hr10 (fun ad he => .inl (hf10 ad he)) (fun j hj hji => ⟨rfl, rfl⟩) rfl
    have kf := obj_free hs2c.obj 0
    have kc := (obj_cell hs2c.obj 0).trans (show _ = _ from (obj_cell Hs2.out.obj 0).symm.trans k9)
    have hgW2 := obj_lt Hs2.out.obj
    have hy1 := (below_cell2 hb10 Y1c.out)
    have hy4 := (below_cell2 hb10 Y4c.out)
    have Hu3 := Lib.hid ((Hu2.out.trans (Upd.of_below (S := fun k => k = g) hb10) (fun _ _ h => h)).setCell ⟨g, 0, none⟩ (fun _ => rfl) (.slice a10 n c10))
    have Y1d := Lib.hid (cell_set_other (q := ⟨g, 0, none⟩) (u := .slice a10 n c10) hy1 (Ne.symm hgw))
    have Y4d := Lib.hid (cell_set_other (q := ⟨g, 0, none⟩) (u := .slice a10 n c10) hy4 (Ne.symm hgw))
    have Hf10 := Lib.hid hf10
    have hb10s := hb10.size
    have Hs3 := Lib.hid hs3
    clear hs3 hs2c hr10 hf10 hb10 hn10 hy1 hy4 k9
    go_wp2_with fail
    clear kf kc
    have hW3 : (w5.setCell ⟨g, 0, none⟩ (.slice a10 n c10)).heap.size = w5.heap.size := by simp
    generalize w5.setCell ⟨g, 0, none⟩ (.slice a10 n c10) = W3 at *
    obtain ⟨a11, c11, h11, r11, f11⟩ := Hs3.out.own.sz0
    have k11 := (obj_cell Hs3.out.obj 0).trans h11
    change W3.cell? _ = some (.slice a11 s.o.length c11) at k11
    change RowAt W3 _ 18 a11 s.o.length c11 (objs s.o) at r11
    rw [← Hn.out] at k11
    have e11 := h11.symm.trans (Array.getElem?_setIfInBounds_self_of_lt (by rw [Hs2.out.own.size]; omega))
    simp at e11
    obtain ⟨rfl, _, _⟩ := e11
    rw [← Hn.out] at r11
    obtain ⟨ob, oo, rfl, hob, hoc⟩ := r11.sl.nonempty (by omega)
    have hkc := hoc (ea * 18 + 3) _ (objs_get s.o Ok.out.o ea 3 (by have := Hn.out; omega) (by decide))
    obtain ⟨_, cur, hcur, _, _⟩ := r11.row _ rfl
    have kf := obj_free hcur (oo + ea * 18 + 3)
    rw [← Nat.add_assoc] at hkc
    have hobw : W2.heap.size ≤ ob := Hf10.out _ rfl
    have HT3 := Lib.hid (show W3.drew.cell? ⟨g, 0, none⟩ = some (.slice (some ⟨ob, oo, none⟩) n c11) ∧ W3.drew.cell? ⟨w.heap.size, 1, none⟩ = some (.int .i64 (ea : Int)) ∧ W3.drew.cell? ⟨w.heap.size, 4, none⟩ = some (.int .i64 (ed : Int)) from ⟨k11, Y1d.out, Y4d.out⟩)
    have Hs4 := Lib.hid (Hs3.out.setObj Ok.out.o h11 ea 3 (by have := Hn.out; show ea < s.o.length; omega) (by decide) (ed : Int)).1
    have Hu4 := Lib.hid ((Hu3.out.setCell ⟨ob, oo + ea * 18 + 3, none⟩ (fun hlt => absurd hlt (by have := Hu2.out.size; show ¬ ob < w.heap.size; omega)) (.int .i64 (ed : Int))).drew)
    clear k11 r11 h11 f11 hoc hcur
    refine wp_region_T 10 (fun x => x.cell? ⟨g, 0, none⟩ = some (.slice (some ⟨ob, oo, none⟩) n c11) ∧ x.cell? ⟨w.heap.size, 1, none⟩ = some (.int .i64 (ea : Int)) ∧ x.cell? ⟨w.heap.size, 4, none⟩ = some (.int .i64 (ed : Int))) (by kernel_rfl) HT3.out (fun hHeld => ?_)
    refine wpAnyT_takeU (i := 0) (oi := ⟨some 89, _, _, _, _, _⟩) (v := ?_) rfl (by kernel_rfl) (by kernel_rfl) (by kernel_rfl) (by kernel_rfl) (fun _ _ _ h => h) (Or.inl ⟨by rfl, ?_⟩) (fun _ => hHeld) ?_
    rotate_left
    · intro w' hS'
      (try dsimp only at hS')
      go_simp
      try with_reducible rfl
    try simp only [Act.put, List.setIfInBounds_toArray, List.set_cons_zero, List.set_cons_succ]
    refine wpAnyT_takeU (i := 1) (oi := ⟨some 90, _, _, _, _, _⟩) (v := ?_) rfl (by kernel_rfl) (by kernel_rfl) (by kernel_rfl) (by kernel_rfl) (fun _ _ _ h => h) (Or.inl ⟨by rfl, ?_⟩) (fun _ => hHeld) ?_
    rotate_left
    · intro w' hS'
      (try dsimp only at hS')
      go_simp
      try with_reducible rfl
    try simp only [Act.put, List.setIfInBounds_toArray, List.set_cons_zero, List.set_cons_succ]
    refine wpAnyT_takeU (i := 2) (oi := ⟨some 91, _, _, _, _, _⟩) (v := ?_) rfl (by kernel_rfl) (by kernel_rfl) (by kernel_rfl) (by kernel_rfl) (fun _ _ _ h => h) (Or.inl ⟨by rfl, ?_⟩) (fun _ => hHeld) ?_
    rotate_left
    · intro w' hS'
      (try dsimp only at hS')
      go_simp
      try with_reducible rfl
    try simp only [Act.put, List.setIfInBounds_toArray, List.set_cons_zero, List.set_cons_succ]
    refine wpAnyT_take (i := 3) (oi := ⟨some 92, _, _, _, _, _⟩) (v := ?_) rfl (by kernel_rfl) (by kernel_rfl) (by kernel_rfl) (by kernel_rfl) (fun _ _ _ h => h) (Or.inl ⟨by rfl, ?_⟩) hHeld ?_
    rotate_left
    · intro w' hS'
      (try dsimp only at hS')
      go_simp
      try with_reducible rfl
    try simp only [Act.put, List.setIfInBounds_toArray, List.set_cons_zero, List.set_cons_succ]
    refine wpAnyT_takeU (i := 4) (oi := ⟨some 93, _, _, _, _, _⟩) (v := ?_) rfl (by kernel_rfl) (by kernel_rfl) (by kernel_rfl) (by kernel_rfl) (fun _ _ _ h => h) (Or.inl ⟨by rfl, ?_⟩) (fun _ => hHeld) ?_
    rotate_left
    · intro w' hS'
      (try dsimp only at hS')
      go_simp
      try with_reducible rfl
    try simp only [Act.put, List.setIfInBounds_toArray, List.set_cons_zero, List.set_cons_succ]
    refine wpAnyT_take (i := 5) (oi := ⟨some 94, _, _, _, _, _⟩) (v := ?_) rfl (by kernel_rfl) (by kernel_rfl) (by kernel_rfl) (by kernel_rfl) (fun _ _ _ h => h) (Or.inl ⟨by rfl, ?_⟩) hHeld ?_
    rotate_left
    · intro w' hS'
      (try dsimp only at hS')
      go_simp
      try with_reducible rfl
    try simp only [Act.put, List.setIfInBounds_toArray, List.set_cons_zero, List.set_cons_succ]
    refine wpAnyT_takeU (i := 6) (oi := ⟨some 95, _, _, _, _, _⟩) (v := ?_) rfl (by kernel_rfl) (by kernel_rfl) (by kernel_rfl) (by kernel_rfl) (fun _ _ _ h => h) (Or.inl ⟨by rfl, ?_⟩) (fun _ => hHeld) ?_
    rotate_left
    · intro w' hS'
      (try dsimp only at hS')
      go_simp
      try with_reducible rfl
    try simp only [Act.put, List.setIfInBounds_toArray, List.set_cons_zero, List.set_cons_succ]
    refine wpAnyT_take (i := 7) (oi := ⟨some 96, _, _, _, _, _⟩) (v := ?_) rfl (by kernel_rfl) (by kernel_rfl) (by kernel_rfl) (by kernel_rfl) (fun _ _ _ h => h) (Or.inl ⟨by rfl, ?_⟩) hHeld ?_
    rotate_left
    · intro w' hS'
      (try dsimp only at hS')
      go_simp
      try with_reducible rfl
    try simp only [Act.put, List.setIfInBounds_toArray, List.set_cons_zero, List.set_cons_succ]
    refine wpAnyT_takeU (i := 8) (oi := ⟨some 97, _, _, _, _, _⟩) (v := ?_) rfl (by kernel_rfl) (by kernel_rfl) (by kernel_rfl) (by kernel_rfl) (fun _ _ _ h => h) (Or.inl ⟨by rfl, ?_⟩) (fun _ => hHeld) ?_
    rotate_left
    · intro w' hS'
      (try dsimp only at hS')
      go_simp
      try with_reducible rfl
    try simp only [Act.put, List.setIfInBounds_toArray, List.set_cons_zero, List.set_cons_succ]
    refine wpAnyT_takeU (i := 9) (oi := ⟨some 98, _, _, _, _, _⟩) (v := ?_) rfl (by kernel_rfl) (by kernel_rfl) (by kernel_rfl) (by kernel_rfl) (fun _ _ _ h => h) (Or.inl ⟨by rfl, ?_⟩) (fun _ => hHeld) ?_
    rotate_left
    · intro w' hS'
      (try dsimp only at hS')
      go_simp
      try with_reducible rfl
    try simp only [Act.put, List.setIfInBounds_toArray, List.set_cons_zero, List.set_cons_succ]
    refine wpAnyT_all (rs := [10]) (by kernel_rfl) (by simp) ?_
    intro ix hix
    obtain rfl : ix = 10 := by simpa using hix
    clear hix
    refine wpOp_step (o := ⟨none, _, _, _, _, _⟩) rfl (fun K hK => ?_)
    have HK := Lib.hid hK
    clear hK
    go_simp
    go_wp2_with fail
    refine HK.out _ _ ⟨tl (by kernel_rfl), ?_⟩
    clear HK
    try clear hHeld
    try simp only [Act.put, List.setIfInBounds_toArray, List.set_cons_zero, List.set_cons_succ]
    refine wpAnyT_done (by kernel_rfl) ?_ _
    clear kf hkc
    go_wp2_with fail
    go_ret
    have hs4 := Hs4.out
    rw [← Nat.add_assoc] at hs4
    have hs5 := hs4.all (w' := (W3.setCell ⟨ob, oo + ea * 18 + 3, none⟩ (.int .i64 (ed : Int))).drew) ((Below.refl _ _).drew)
    exact ⟨ret_err (a := 0) Hr9.out.symm, Hu4.out, _, by rw [Hr9.out, if_pos rfl, show mvS s e = ⟨s.o.set ea ((s.o.getD ea []).set 3 (ed : Int)), (s.l.set ed (remAt lb ec)).set ed (insAt toL ef (ea : Int)), s.p⟩ by rw [HtoL.out, He.out, Hlb.out]; rfl]; exact hs5⟩
  · have hne : ((ed : Int) == (eb : Int)) = false := by simp; omega
    have Hto : Hid (toL = ld) := Lib.hid (by rw [HtoL.out, Hmt.out, if_neg hde])
    have Ht : Hid (SlAt wb 1 ad ld.length cd (toL.map (.int .i64))) := Lib.hid (by rw [Hto.out]; exact Hr6.out.sl)
    have htn : ld.length < 1000000 := by omega
    have Htl := Lib.hid (show toL.length = ld.length by rw [Hto.out])
    go_wp2_with fail
    refine (insAny _ ad (ld.length) cd toL Ht.out htn ef (ea : Int)).mono ?_
    rintro x w3 ⟨a7, c7, rfl, hr7, hb7⟩
    by_cases hf : ef ≤ ld.length
    rotate_left
    · rw [if_neg hf, if_neg hf]
      rw [errV_pos _ _ (by decide : (1 : Int) ≠ 0)]
      have Hr2 := Lib.hid (show r = 1 by rw [Hr3.out, if_pos (by have := Htl.out; omega)])
      replace hx := hx.trans (hb7.mono hx.size)
      clear y1 y2 y4 y5 hf hr7 hb7
      go_wp2_with fail
      go_ret
      exact ⟨ret_err (a := 1) Hr2.out.symm, (Upd.of_below B0.out).trans (Upd.of_below (S := fun k => k = g) hx) (fun _ _ h => h), _, by rw [Hr2.out, if_neg (by decide)]; exact Hst.out.all hx⟩
    obtain ⟨hr7, hf7⟩ := hr7 hf
    rw [if_pos hf, if_pos hf]
    rw [errV_zero]
    have Hr9 := Lib.hid (show r = 0 by rw [Hr3.out, if_neg (by have := Htl.out; omega)])
    have hb3 := hb7.size
    have Hr7 := Lib.hid hr7
    have Hf7 := Lib.hid hf7
    have Hr8 := Lib.hid (Hr5.out.all hb7)
    have hx3 := hx.trans (hb7.mono hx.size)
    have Hst3 := Lib.hid (Hst.out.all hx3)
    have Hlt7 := Lib.hid hr7.lt
    have Hlt2 := Lib.hid hlt2
    clear hb7 hr7 hf7 y1 y2 y4 y5 Hr3 hlt2
    obtain ⟨y0, y1, y2, y3, y4, y5⟩ := HE.out _ hx3
    have Y1 := Lib.hid y1
    have Y4 := Lib.hid y4
    clear y0 y1 y3 y4 y5
    have kf := obj_free Hst3.out.obj (1 + eb)
    obtain ⟨ab', cb', h1', _⟩ := Hst3.out.own.szl eb (by omega)
    have kc := (obj_cell Hst3.out.obj (1 + eb)).trans h1'
    clear h1'
    go_wp2_with fail
    have hHeld0 : w3.drew.cell? ⟨w.heap.size, 2, none⟩ = _ := y2
    clear y2
    refine wp_region_T 7 (fun x => x.cell? ⟨w.heap.size, 2, none⟩ = some (.int .i64 (eb : Int))) (by kernel_rfl) hHeld0 (fun hHeld => ?_)
    refine wpAnyT_takeU (i := 0) (oi := ⟨some 67, _, _, _, _, _⟩) (v := ?_) rfl (by kernel_rfl) (by kernel_rfl) (by kernel_rfl) (by kernel_rfl) (fun _ _ _ h => h) (Or.inl ⟨by rfl, ?_⟩) (fun _ => hHeld) ?_
    rotate_left
    · intro w' hS'
      (try dsimp only at hS')
      go_simp
      try with_reducible rfl
    try simp only [Act.put, List.setIfInBounds_toArray, List.set_cons_zero, List.set_cons_succ]
    refine wpAnyT_takeU (i := 1) (oi := ⟨some 68, _, _, _, _, _⟩) (v := ?_) rfl (by kernel_rfl) (by kernel_rfl) (by kernel_rfl) (by kernel_rfl) (fun _ _ _ h => h) (Or.inl ⟨by rfl, ?_⟩) (fun _ => hHeld) ?_
    rotate_left
    · intro w' hS'
      (try dsimp only at hS')
      go_simp
      try with_reducible rfl
    try simp only [Act.put, List.setIfInBounds_toArray, List.set_cons_zero, List.set_cons_succ]
    refine wpAnyT_take (i := 2) (oi := ⟨some 69, _, _, _, _, _⟩) (v := ?_) rfl (by kernel_rfl) (by kernel_rfl) (by kernel_rfl) (by kernel_rfl) (fun _ _ _ h => h) (Or.inl ⟨by rfl, ?_⟩) hHeld ?_
    rotate_left
    · intro w' hS'
      (try dsimp only at hS')
      go_simp
      try with_reducible rfl
    try simp only [Act.put, List.setIfInBounds_toArray, List.set_cons_zero, List.set_cons_succ]
    refine wpAnyT_takeU (i := 3) (oi := ⟨some 70, _, _, _, _, _⟩) (v := ?_) rfl (by kernel_rfl) (by kernel_rfl) (by kernel_rfl) (by kernel_rfl) (fun _ _ _ h => h) (Or.inl ⟨by rfl, ?_⟩) (fun _ => hHeld) ?_
    rotate_left
    · intro w' hS'
      (try dsimp only at hS')
      go_simp
      try with_reducible rfl
    try simp only [Act.put, List.setIfInBounds_toArray, List.set_cons_zero, List.set_cons_succ]
    refine wpAnyT_takeU (i := 4) (oi := ⟨some 71, _, _, _, _, _⟩) (v := ?_) rfl (by kernel_rfl) (by kernel_rfl) (by kernel_rfl) (by kernel_rfl) (fun _ _ _ h => h) (Or.inl ⟨by rfl, ?_⟩) (fun _ => hHeld) ?_
    rotate_left
    · intro w' hS'
      (try dsimp only at hS')
      go_simp
      try with_reducible rfl
    try simp only [Act.put, List.setIfInBounds_toArray, List.set_cons_zero, List.set_cons_succ]
    refine wpAnyT_takeU (i := 5) (oi := ⟨some 72, _, _, _, _, _⟩) (v := ?_) rfl (by kernel_rfl) (by kernel_rfl) (by kernel_rfl) (by kernel_rfl) (fun _ _ _ h => h) (Or.inl ⟨by rfl, ?_⟩) (fun _ => hHeld) ?_
    rotate_left
    · intro w' hS'
      (try dsimp only at hS')
      go_simp
      try with_reducible rfl
    try simp only [Act.put, List.setIfInBounds_toArray, List.set_cons_zero, List.set_cons_succ]
    refine wpAnyT_takeU (i := 6) (oi := ⟨some 73, _, _, _, _, _⟩) (v := ?_) rfl (by kernel_rfl) (by kernel_rfl) (by kernel_rfl) (by kernel_rfl) (fun _ _ _ h => h) (Or.inl ⟨by rfl, ?_⟩) (fun _ => hHeld) ?_
    rotate_left
    · intro w' hS'
      (try dsimp only at hS')
      go_simp
      try with_reducible rfl
    try simp only [Act.put, List.setIfInBounds_toArray, List.set_cons_zero, List.set_cons_succ]
    refine wpAnyT_all (rs := [7]) (by kernel_rfl) (by simp) ?_
    intro ix hix
    obtain rfl : ix = 7 := by simpa using hix
    clear hix
    refine wpOp_step (o := ⟨none, _, _, _, _, _⟩) rfl (fun K hK => ?_)
    have HK := Lib.hid hK
    clear hK
    go_simp
    go_wp2_with fail
    refine HK.out _ _ ⟨tl (by kernel_rfl), ?_⟩
    clear HK
    try clear hHeld
    try simp only [Act.put, List.setIfInBounds_toArray, List.set_cons_zero, List.set_cons_succ]
    refine wpAnyT_done (by kernel_rfl) ?_ _
    have hs1 := (Hst3.out.setSlG (s' := ⟨s.o, s.l.set eb (remAt lb ec), s.p⟩) (1 + eb) (by omega) (a := a2) (n := nb - 1) (c := c2) (by rw [(set_self s _ (by rw [Ok.out.l]; omega) _).1, Hrl.out, Hnb.out]) (by rw [(set_self s _ (by rw [Ok.out.l]; omega) _).2, (ty_sz _).1, (ty_sz _).2]; exact Hr8.out) (fun ad he => by have := Hf2.out ad he; have := Hz0.out; exact ⟨by omega, by omega⟩) (fun j b m d hj hji he x y hx hy => by have := Hf2.out x hx; have := Hst.out.own.lt' hj he y hy; omega) (fun j hj hji => set_other' s _ _ j hji) rfl).all ((Below.refl _ _).drew)
    have Y1b : Hid ((w3.setCell ⟨g, 1 + eb, none⟩ (.slice a2 (nb - 1) c2)).drew.cell? ⟨w.heap.size, 1, none⟩ = some (.int .i64 (ea : Int))) := Lib.hid (cell_set_other (w := w3) Y1.out (Ne.symm hgw))
    have Y4b : Hid ((w3.setCell ⟨g, 1 + eb, none⟩ (.slice a2 (nb - 1) c2)).drew.cell? ⟨w.heap.size, 4, none⟩ = some (.int .i64 (ed : Int))) := Lib.hid (cell_set_other (w := w3) Y4.out (Ne.symm hgw))
    have Hr7b := Lib.hid ((Hr7.out.setCell ⟨g, 1 + eb, none⟩ (fun ad he => by have := Hf7.out ad he; have := hx.size; show ad.block ≠ g; omega) (.slice a2 (nb - 1) c2)).drew)
    have Hu1 := Lib.hid (((((Upd.of_below B0.out).trans (Upd.of_below (S := fun k => k = g) hx3) (fun _ _ h => h))).setCell ⟨g, 1 + eb, none⟩ (fun _ => rfl) (.slice a2 (nb - 1) c2)).drew)
    have hW1 : (w3.setCell ⟨g, 1 + eb, none⟩ (.slice a2 (nb - 1) c2)).drew.heap.size = w3.heap.size := by simp
    generalize (w3.setCell ⟨g, 1 + eb, none⟩ (.slice a2 (nb - 1) c2)).drew = W1 at *
    have Hs1 := Lib.hid hs1
    clear hs1 kf kc hHeld0
    have kf := obj_free Hs1.out.obj (1 + ed)
    obtain ⟨ab'', cb'', h1', _⟩ := Hs1.out.own.szl ed hd11
    have kc := (obj_cell Hs1.out.obj (1 + ed)).trans h1'
    clear h1'
    go_wp2_with fail
    have hHeld0 : W1.drew.cell? ⟨w.heap.size, 4, none⟩ = _ := Y4b.out
    refine wp_region_T 7 (fun x => x.cell? ⟨w.heap.size, 4, none⟩ = some (.int .i64 (ed : Int))) (by kernel_rfl) hHeld0 (fun hHeld => ?_)
    refine wpAnyT_takeU (i := 0) (oi := ⟨some 74, _, _, _, _, _⟩) (v := ?_) rfl (by kernel_rfl) (by kernel_rfl) (by kernel_rfl) (by kernel_rfl) (fun _ _ _ h => h) (Or.inl ⟨by rfl, ?_⟩) (fun _ => hHeld) ?_
    rotate_left
    · intro w' hS'
      (try dsimp only at hS')
      go_simp
      try with_reducible rfl
    try simp only [Act.put, List.setIfInBounds_toArray, List.set_cons_zero, List.set_cons_succ]
    refine wpAnyT_takeU (i := 1) (oi := ⟨some 75, _, _, _, _, _⟩) (v := ?_) rfl (by kernel_rfl) (by kernel_rfl) (by kernel_rfl) (by kernel_rfl) (fun _ _ _ h => h) (Or.inl ⟨by rfl, ?_⟩) (fun _ => hHeld) ?_
    rotate_left
    · intro w' hS'
      (try dsimp only at hS')
      go_simp
      try with_reducible rfl
    try simp only [Act.put, List.setIfInBounds_toArray, List.set_cons_zero, List.set_cons_succ]
    refine wpAnyT_take (i := 2) (oi := ⟨some 76, _, _, _, _, _⟩) (v := ?_) rfl (by kernel_rfl) (by kernel_rfl) (by kernel_rfl) (by kernel_rfl) (fun _ _ _ h => h) (Or.inl ⟨by rfl, ?_⟩) hHeld ?_
    rotate_left
    · intro w' hS'
      (try dsimp only at hS')
      go_simp
      try with_reducible rfl
    try simp only [Act.put, List.setIfInBounds_toArray, List.set_cons_zero, List.set_cons_succ]
    refine wpAnyT_takeU (i := 3) (oi := ⟨some 77, _, _, _, _, _⟩) (v := ?_) rfl (by kernel_rfl) (by kernel_rfl) (by kernel_rfl) (by kernel_rfl) (fun _ _ _ h => h) (Or.inl ⟨by rfl, ?_⟩) (fun _ => hHeld) ?_
    rotate_left
    · intro w' hS'
      (try dsimp only at hS')
      go_simp
      try with_reducible rfl
    try simp only [Act.put, List.setIfInBounds_toArray, List.set_cons_zero, List.set_cons_succ]
    refine wpAnyT_takeU (i := 4) (oi := ⟨some 78, _, _, _, _, _⟩) (v := ?_) rfl (by kernel_rfl) (by kernel_rfl) (by kernel_rfl) (by kernel_rfl) (fun _ _ _ h => h) (Or.inl ⟨by rfl, ?_⟩) (fun _ => hHeld) ?_
    rotate_left
    · intro w' hS'
      (try dsimp only at hS')
      go_simp
      try with_reducible rfl
    try simp only [Act.put, List.setIfInBounds_toArray, List.set_cons_zero, List.set_cons_succ]
    refine wpAnyT_takeU (i := 5) (oi := ⟨some 79, _, _, _, _, _⟩) (v := ?_) rfl (by kernel_rfl) (by kernel_rfl) (by kernel_rfl) (by kernel_rfl) (fun _ _ _ h => h) (Or.inl ⟨by rfl, ?_⟩) (fun _ => hHeld) ?_
    rotate_left
    · intro w' hS'
      (try dsimp only at hS')
      go_simp
      try with_reducible rfl
    try simp only [Act.put, List.setIfInBounds_toArray, List.set_cons_zero, List.set_cons_succ]
    refine wpAnyT_takeU (i := 6) (oi := ⟨some 80, _, _, _, _, _⟩) (v := ?_) rfl (by kernel_rfl) (by kernel_rfl) (by kernel_rfl) (by kernel_rfl) (fun _ _ _ h => h) (Or.inl ⟨by rfl, ?_⟩) (fun _ => hHeld) ?_
    rotate_left
    · intro w' hS'
      (try dsimp only at hS')
      go_simp
      try with_reducible rfl
    try simp only [Act.put, List.setIfInBounds_toArray, List.set_cons_zero, List.set_cons_succ]
    refine wpAnyT_all (rs := [7]) (by kernel_rfl) (by simp) ?_
    intro ix hix
    obtain rfl : ix = 7 := by simpa using hix
    clear hix
    refine wpOp_step (o := ⟨none, _, _, _, _, _⟩) rfl (fun K hK => ?_)
    have HK := Lib.hid hK
    clear hK
    go_simp
    go_wp2_with fail
    refine HK.out _ _ ⟨tl (by kernel_rfl), ?_⟩
    clear HK
    try clear hHeld
    try simp only [Act.put, List.setIfInBounds_toArray, List.set_cons_zero, List.set_cons_succ]
    refine wpAnyT_done (by kernel_rfl) ?_ _
    have hs2 := (Hs1.out.setSlG (s' := ⟨s.o, (s.l.set eb (remAt lb ec)).set ed (insAt toL ef (ea : Int)), s.p⟩) (1 + ed) (by omega) (a := a7) (n := ld.length + 1) (c := c7) (by rw [(set_self ⟨s.o, s.l.set eb (remAt lb ec), s.p⟩ _ (by simp [Ok.out.l]; omega) _).1, insAt_len, Htl.out]) (by rw [(set_self ⟨s.o, s.l.set eb (remAt lb ec), s.p⟩ _ (by simp [Ok.out.l]; omega) _).2, (ty_sz _).1, (ty_sz _).2]; exact Hr7b.out) (fun ad he => by have := Hf7.out ad he; have := hx.size; have := Hz0.out; exact ⟨by omega, by omega⟩) (fun j b m d hj hji he x y hx' hy => by
        have h7 := Hf7.out x hx'
        by_cases hj1 : j = 1 + eb
        · subst hj1
          rw [Array.getElem?_setIfInBounds_self_of_lt (by rw [Hst.out.own.size]; omega)] at he
          simp at he
          have := Hlt2.out y (he.1.trans hy)
          omega
        · rw [Array.getElem?_setIfInBounds_ne (Ne.symm hj1)] at he
          have := Hst.out.own.lt' hj he y hy
          have := hx.size
          omega) (fun j hj hji => set_other' ⟨s.o, s.l.set eb (remAt lb ec), s.p⟩ _ _ j hji) rfl).all ((Below.refl _ _).drew)
    have Hs2 := Lib.hid hs2
    have Hu2 := Lib.hid ((Hu1.out.setCell ⟨g, 1 + ed, none⟩ (fun _ => rfl) (.slice a7 (ld.length + 1) c7)).drew)
    have Y1c : Hid ((W1.setCell ⟨g, 1 + ed, none⟩ (.slice a7 (ld.length + 1) c7)).drew.cell? ⟨w.heap.size, 1, none⟩ = some (.int .i64 (ea : Int))) := Lib.hid (cell_set_other (w := W1) Y1b.out (Ne.symm hgw))
    have Y4c : Hid ((W1.setCell ⟨g, 1 + ed, none⟩ (.slice a7 (ld.length + 1) c7)).drew.cell? ⟨w.heap.size, 4, none⟩ = some (.int .i64 (ed : Int))) := Lib.hid (cell_set_other (w := W1) Y4b.out (Ne.symm hgw))
    have hW2 : (W1.setCell ⟨g, 1 + ed, none⟩ (.slice a7 (ld.length + 1) c7)).drew.heap.size = W1.heap.size := by simp
    generalize (W1.setCell ⟨g, 1 + ed, none⟩ (.slice a7 (ld.length + 1) c7)).drew = W2 at *
    clear hs2 kf kc hHeld0
    obtain ⟨a9, c9, h9, r9, f9⟩ := Hs2.out.own.sz0
    have k9 := (obj_cell Hs2.out.obj 0).trans h9
    change W2.cell? _ = some (.slice a9 s.o.length c9) at k9
    change RowAt W2 _ 18 a9 s.o.length c9 (objs s.o) at r9
    rw [← Hn.out] at k9 r9
    have hn3 : n ≤ 100000 := by have := Hn.out; have := Fi.out.o; omega
    have R9 := Lib.hid r9
    clear r9 f9 h9
    go_wp2_with fail
    refine (cloneObjs _ a9 n c9 _ R9.out.sl (by omega)).mono ?_
    rintro x w5 ⟨a10, c10, rfl, hr10, hf10, hb10, hn10⟩
    have hs2c := Hs2.out.all hb10
    have hs3 := Hs2.out.setSl (s' := ⟨s.o, (s.l.set eb (remAt lb ec)).set ed (insAt toL ef (ea : Int)), s.p⟩) hb10 (by have := Hu2.out.size; omega) 0 (by decide) (a := a10) (n := n) (c := c10) (by rw [Hn.out]; rfl) hr10 (fun ad he => .inl (hf10 ad he)) (fun j hj hji => ⟨rfl, rfl⟩) rfl
    have kf := obj_free hs2c.obj 0
    have kc := (obj_cell hs2c.obj 0).trans (show _ = _ from (obj_cell Hs2.out.obj 0).symm.trans k9)
    have hgW2 := obj_lt Hs2.out.obj
    have hy1 := (below_cell2 hb10 Y1c.out)
    have hy4 := (below_cell2 hb10 Y4c.out)
    have Hu3 := Lib.hid ((Hu2.out.trans (Upd.of_below (S := fun k => k = g) hb10) (fun _ _ h => h)).setCell ⟨g, 0, none⟩ (fun _ => rfl) (.slice a10 n c10))
    have Y1d := Lib.hid (cell_set_other (q := ⟨g, 0, none⟩) (u := .slice a10 n c10) hy1 (Ne.symm hgw))
    have Y4d := Lib.hid (cell_set_other (q := ⟨g, 0, none⟩) (u := .slice a10 n c10) hy4 (Ne.symm hgw))
    have Hf10 := Lib.hid hf10
    have hb10s := hb10.size
    have Hs3 := Lib.hid hs3
    clear hs3 hs2c hr10 hf10 hb10 hn10 hy1 hy4 k9
    go_wp2_with fail
    clear kf kc
    have hW3 : (w5.setCell ⟨g, 0, none⟩ (.slice a10 n c10)).heap.size = w5.heap.size := by simp
    generalize w5.setCell ⟨g, 0, none⟩ (.slice a10 n c10) = W3 at *
    obtain ⟨a11, c11, h11, r11, f11⟩ := Hs3.out.own.sz0
    have k11 := (obj_cell Hs3.out.obj 0).trans h11
    change W3.cell? _ = some (.slice a11 s.o.length c11) at k11
    change RowAt W3 _ 18 a11 s.o.length c11 (objs s.o) at r11
    rw [← Hn.out] at k11
    have e11 := h11.symm.trans (Array.getElem?_setIfInBounds_self_of_lt (by rw [Hs2.out.own.size]; omega))
    simp at e11
    obtain ⟨rfl, _, _⟩ := e11
    rw [← Hn.out] at r11
    obtain ⟨ob, oo, rfl, hob, hoc⟩ := r11.sl.nonempty (by omega)
    have hkc := hoc (ea * 18 + 3) _ (objs_get s.o Ok.out.o ea 3 (by have := Hn.out; omega) (by decide))
    obtain ⟨_, cur, hcur, _, _⟩ := r11.row _ rfl
    have kf := obj_free hcur (oo + ea * 18 + 3)
    rw [← Nat.add_assoc] at hkc
    have hobw : W2.heap.size ≤ ob := Hf10.out _ rfl
    have HT3 := Lib.hid (show W3.drew.cell? ⟨g, 0, none⟩ = some (.slice (some ⟨ob, oo, none⟩) n c11) ∧ W3.drew.cell? ⟨w.heap.size, 1, none⟩ = some (.int .i64 (ea : Int)) ∧ W3.drew.cell? ⟨w.heap.size, 4, none⟩ = some (.int .i64 (ed : Int)) from ⟨k11, Y1d.out, Y4d.out⟩)
    have Hs4 := Lib.hid (Hs3.out.setObj Ok.out.o h11 ea 3 (by have := Hn.out; show ea < s.o.length; omega) (by decide) (ed : Int)).1
    have Hu4 := Lib.hid ((Hu3.out.setCell ⟨ob, oo + ea * 18 + 3, none⟩ (fun hlt => absurd hlt (by have := Hu2.out.size; show ¬ ob < w.heap.size; omega)) (.int .i64 (ed : Int))).drew)
    clear k11 r11 h11 f11 hoc hcur
    refine wp_region_T 10 (fun x => x.cell? ⟨g, 0, none⟩ = some (.slice (some ⟨ob, oo, none⟩) n c11) ∧ x.cell? ⟨w.heap.size, 1, none⟩ = some (.int .i64 (ea : Int)) ∧ x.cell? ⟨w.heap.size, 4, none⟩ = some (.int .i64 (ed : Int))) (by kernel_rfl) HT3.out (fun hHeld => ?_)
    refine wpAnyT_takeU (i := 0) (oi := ⟨some 89, _, _, _, _, _⟩) (v := ?_) rfl (by kernel_rfl) (by kernel_rfl) (by kernel_rfl) (by kernel_rfl) (fun _ _ _ h => h) (Or.inl ⟨by rfl, ?_⟩) (fun _ => hHeld) ?_
    rotate_left
    · intro w' hS'
      (try dsimp only at hS')
      go_simp
      try with_reducible rfl
    try simp only [Act.put, List.setIfInBounds_toArray, List.set_cons_zero, List.set_cons_succ]
    refine wpAnyT_takeU (i := 1) (oi := ⟨some 90, _, _, _, _, _⟩) (v := ?_) rfl (by kernel_rfl) (by kernel_rfl) (by kernel_rfl) (by kernel_rfl) (fun _ _ _ h => h) (Or.inl ⟨by rfl, ?_⟩) (fun _ => hHeld) ?_
    rotate_left
    · intro w' hS'
      (try dsimp only at hS')
      go_simp
      try with_reducible rfl
    try simp only [Act.put, List.setIfInBounds_toArray, List.set_cons_zero, List.set_cons_succ]
    refine wpAnyT_takeU (i := 2) (oi := ⟨some 91, _, _, _, _, _⟩) (v := ?_) rfl (by kernel_rfl) (by kernel_rfl) (by kernel_rfl) (by kernel_rfl) (fun _ _ _ h => h) (Or.inl ⟨by rfl, ?_⟩) (fun _ => hHeld) ?_
    rotate_left
    · intro w' hS'
      (try dsimp only at hS')
      go_simp
      try with_reducible rfl
    try simp only [Act.put, List.setIfInBounds_toArray, List.set_cons_zero, List.set_cons_succ]
    refine wpAnyT_take (i := 3) (oi := ⟨some 92, _, _, _, _, _⟩) (v := ?_) rfl (by kernel_rfl) (by kernel_rfl) (by kernel_rfl) (by kernel_rfl) (fun _ _ _ h => h) (Or.inl ⟨by rfl, ?_⟩) hHeld ?_
    rotate_left
    · intro w' hS'
      (try dsimp only at hS')
      go_simp
      try with_reducible rfl
    try simp only [Act.put, List.setIfInBounds_toArray, List.set_cons_zero, List.set_cons_succ]
    refine wpAnyT_takeU (i := 4) (oi := ⟨some 93, _, _, _, _, _⟩) (v := ?_) rfl (by kernel_rfl) (by kernel_rfl) (by kernel_rfl) (by kernel_rfl) (fun _ _ _ h => h) (Or.inl ⟨by rfl, ?_⟩) (fun _ => hHeld) ?_
    rotate_left
    · intro w' hS'
      (try dsimp only at hS')
      go_simp
      try with_reducible rfl
    try simp only [Act.put, List.setIfInBounds_toArray, List.set_cons_zero, List.set_cons_succ]
    refine wpAnyT_take (i := 5) (oi := ⟨some 94, _, _, _, _, _⟩) (v := ?_) rfl (by kernel_rfl) (by kernel_rfl) (by kernel_rfl) (by kernel_rfl) (fun _ _ _ h => h) (Or.inl ⟨by rfl, ?_⟩) hHeld ?_
    rotate_left
    · intro w' hS'
      (try dsimp only at hS')
      go_simp
      try with_reducible rfl
    try simp only [Act.put, List.setIfInBounds_toArray, List.set_cons_zero, List.set_cons_succ]
    refine wpAnyT_takeU (i := 6) (oi := ⟨some 95, _, _, _, _, _⟩) (v := ?_) rfl (by kernel_rfl) (by kernel_rfl) (by kernel_rfl) (by kernel_rfl) (fun _ _ _ h => h) (Or.inl ⟨by rfl, ?_⟩) (fun _ => hHeld) ?_
    rotate_left
    · intro w' hS'
      (try dsimp only at hS')
      go_simp
      try with_reducible rfl
    try simp only [Act.put, List.setIfInBounds_toArray, List.set_cons_zero, List.set_cons_succ]
    refine wpAnyT_take (i := 7) (oi := ⟨some 96, _, _, _, _, _⟩) (v := ?_) rfl (by kernel_rfl) (by kernel_rfl) (by kernel_rfl) (by kernel_rfl) (fun _ _ _ h => h) (Or.inl ⟨by rfl, ?_⟩) hHeld ?_
    rotate_left
    · intro w' hS'
      (try dsimp only at hS')
      go_simp
      try with_reducible rfl
    try simp only [Act.put, List.setIfInBounds_toArray, List.set_cons_zero, List.set_cons_succ]
    refine wpAnyT_takeU (i := 8) (oi := ⟨some 97, _, _, _, _, _⟩) (v := ?_) rfl (by kernel_rfl) (by kernel_rfl) (by kernel_rfl) (by kernel_rfl) (fun _ _ _ h => h) (Or.inl ⟨by rfl, ?_⟩) (fun _ => hHeld) ?_
    rotate_left
    · intro w' hS'
      (try dsimp only at hS')
      go_simp
      try with_reducible rfl
    try simp only [Act.put, List.setIfInBounds_toArray, List.set_cons_zero, List.set_cons_succ]
    refine wpAnyT_takeU (i := 9) (oi := ⟨some 98, _, _, _, _, _⟩) (v := ?_) rfl (by kernel_rfl) (by kernel_rfl) (by kernel_rfl) (by kernel_rfl) (fun _ _ _ h => h) (Or.inl ⟨by rfl, ?_⟩) (fun _ => hHeld) ?_
    rotate_left
    · intro w' hS'
      (try dsimp only at hS')
      go_simp
      try with_reducible rfl
    try simp only [Act.put, List.setIfInBounds_toArray, List.set_cons_zero, List.set_cons_succ]
    refine wpAnyT_all (rs := [10]) (by kernel_rfl) (by simp) ?_
    intro ix hix
    obtain rfl : ix = 10 := by simpa using hix
    clear hix
    refine wpOp_step (o := ⟨none, _, _, _, _, _⟩) rfl (fun K hK => ?_)
    have HK := Lib.hid hK
    clear hK
    go_simp
    go_wp2_with fail
    refine HK.out _ _ ⟨tl (by kernel_rfl), ?_⟩
    clear HK
    try clear hHeld
    try simp only [Act.put, List.setIfInBounds_toArray, List.set_cons_zero, List.set_cons_succ]
    refine wpAnyT_done (by kernel_rfl) ?_ _
    clear kf hkc
    go_wp2_with fail
    go_ret
    have hs4 := Hs4.out
    rw [← Nat.add_assoc] at hs4
    have hs5 := hs4.all (w' := (W3.setCell ⟨ob, oo + ea * 18 + 3, none⟩ (.int .i64 (ed : Int))).drew) ((Below.refl _ _).drew)
    exact ⟨ret_err (a := 0) Hr9.out.symm, Hu4.out, _, by rw [Hr9.out, if_pos rfl, show mvS s e = ⟨s.o.set ea ((s.o.getD ea []).set 3 (ed : Int)), (s.l.set eb (remAt lb ec)).set ed (insAt toL ef (ea : Int)), s.p⟩ by rw [HtoL.out, He.out, Hlb.out]; rfl]; exact hs5⟩
end Go.Proofs.Ytpbocficffbcbaa
