import Derived.Test.YtpbocficffbcbaaDoS
import Derived.Test.YtpbocficffbcbaaHeldT
namespace Go.Proofs.Ytpbocficffbcbaa
open Go Go.RowKit
set_option linter.unusedVariables false

theorem StO.sz0 {B : Nat} {w : World} {cs : Array Value} {s : St} (h : StO B w cs s) : ∃ a c, cs[0]? = some (.slice a s.o.length c) ∧ RowAt w 108 18 a s.o.length c (objs s.o) ∧ Fresh B a := h.sl 0 (by decide)
theorem StO.szl {B : Nat} {w : World} {cs : Array Value} {s : St} (h : StO B w cs s) (i : Nat) (hi : i < 11) : ∃ a c, cs[1 + i]? = some (.slice a (s.l.getD i []).length c) ∧ RowAt w 3 1 a (s.l.getD i []).length c ((s.l.getD i []).map (.int .i64)) ∧ Fresh B a := by
  obtain ⟨a, c, h1, h2, h3⟩ := h.sl (1 + i) (by omega)
  simp only [lenOf, rowOf, tyOf, szOf, if_neg (show 1 + i ≠ 0 by omega), Nat.add_sub_cancel_left] at h1 h2
  exact ⟨a, c, h1, h2, h3⟩

theorem rowOf_mk (s : St) (e : Ev) : rowOf (mkS s e) 0 = objs s.o ++ (madeA e).toList := by simp [rowOf, mkS, objs]; rfl
/-- Another list: the others stay. -/
theorem set_other (s : St) (k : Nat) (y : List Int) (j : Nat) (hj : j ≠ k + 1) : lenOf ⟨s.o, s.l.set k y, s.p⟩ j = lenOf s j ∧ rowOf ⟨s.o, s.l.set k y, s.p⟩ j = rowOf s j := by
  unfold lenOf rowOf
  by_cases h0 : j = 0
  · simp [h0]
  · rw [if_neg h0, if_neg h0, if_neg h0, if_neg h0, getD_set, if_neg (by omega)]
    exact ⟨rfl, rfl⟩

set_option maxRecDepth 100000 in
set_option maxHeartbeats 400000 in
theorem createFull (w : World) (B g : Nat) (cs : Array Value) (s : St) (h : StAt w B g s cs) (e : Ev) (hf : 400 ≤ s.o.length) :
    Calls Try.prog 95 #[.pointer (some ⟨g, 0, none⟩), evV e] w (DoTo w B g s (mkS s e) 5) := by
  have b0 : Below w.heap.size w (w.alloc (.cells (evA e) 64)) := ((Below.refl _ w).alloc (Nat.le_refl _) _)
  have hst := h.all b0
  obtain ⟨a0, c0, h0, r0, f0⟩ := h.own.sz0
  have k0 := (obj_cell hst.obj 0).trans h0
  have Hst := Lib.hid hst
  have B0 := Lib.hid b0
  have hn := r0.le
  have hm := r0.max
  unfold maxLen at hm
  clear h hst h0 r0 f0 b0
  generalize s.o.length = n at *
  go_enter Try.func95, Try.ntmps95
  go_wp2_with fail
  go_ret
  exact ⟨rfl, Upd.of_below B0.out, cs, Hst.out⟩

set_option maxRecDepth 100000 in
set_option maxHeartbeats 800000 in
theorem createOk (w : World) (B g : Nat) (cs : Array Value) (s : St) (h : StAt w B g s cs) (ok : StOk s) (hB : B ≤ w.heap.size) (e : Ev) (hf : s.o.length < 400) (hs : Fits s 100000) :
    Calls Try.prog 95 #[.pointer (some ⟨g, 0, none⟩), evV e] w (DoTo w B g s (mkS s e) 0) := by
  have b0 : Below w.heap.size w (w.alloc (.cells (evA e) 64)) := ((Below.refl _ w).alloc (Nat.le_refl _) _)
  have hst := h.all b0
  obtain ⟨a0, c0, h0, r0, f0⟩ := hst.own.sz0
  obtain ⟨a1, c1, h1, r1, f1⟩ := hst.own.szl 10 (by decide)
  have hl10 := hs.l 10
  have k0 : (w.alloc (.cells (evA e) 64)).cell? ⟨g, 0, none⟩ = _ := (obj_cell hst.obj 0).trans h0
  have k1 : (w.alloc (.cells (evA e) 64)).cell? ⟨g, 11, none⟩ = _ := (obj_cell hst.obj 11).trans h1
  have hg := obj_lt h.obj
  have hBa : B ≤ w.heap.size + 1 := by omega
  obtain ⟨n, hn⟩ : ∃ n, n = s.o.length := ⟨_, rfl⟩
  obtain ⟨l, hl⟩ : ∃ l, l = s.l.getD 10 [] := ⟨_, rfl⟩
  obtain ⟨m, hm⟩ : ∃ m, m = l.length := ⟨_, rfl⟩
  rw [← hn] at h0 r0 k0 hf
  rw [← hl, ← hm] at h1 r1 k1 hl10
  have H0 := Lib.hid h0
  have H1 := Lib.hid h1
  have R0 := Lib.hid r0
  have R1 := Lib.hid r1
  have F0 := Lib.hid f0
  have F1 := Lib.hid f1
  have Hst := Lib.hid hst
  have Hn := Lib.hid hn
  have Hl := Lib.hid hl
  have Hm := Lib.hid hm
  have B0 := Lib.hid b0
  have Ok := Lib.hid ok
  have Hs := Lib.hid hs
  clear h0 h1 r0 r1 f0 f1 h hst hn hl hm b0 ok hs
  go_enter Try.func95, Try.ntmps95
  go_wp2_with fail
  -- REGION 3
  have hz0 : (w.alloc (.cells (evA e) 64)).heap.size = w.heap.size + 1 := by simp
  have hgz : g < (w.alloc (.cells (evA e) 64)).heap.size := by omega
  have oe := alloc_new w (.cells (evA e) 64)
  generalize (w.alloc (.cells (evA e) 64)) = wa at *
  have hx : Below wa.heap.size wa wa.drew := (Below.refl _ _).drew
  have HT := Lib.hid (fun (x : World) (hb : Below wa.heap.size wa x) => (⟨(hb.cell (p := ⟨g, 0, none⟩) hgz).trans k0, (hb.cell (p := ⟨g, 11, none⟩) hgz).trans k1⟩ : x.cell? ⟨g, 0, none⟩ = some (.slice a0 n c0) ∧ x.cell? ⟨g, 11, none⟩ = some (.slice a1 m c1)))
  have HF := Lib.hid (fun (x : World) (hb : Below wa.heap.size wa x) (j : Nat) => (hb.frozen (p := ⟨g, j, none⟩) hgz).trans (obj_free Hst.out.obj j))
  have HE := Lib.hid (fun (x : World) (hb : Below wa.heap.size wa x) => below_obj hb oe (by omega))
  have Hz0 := Lib.hid hz0
  clear k0 k1 oe hz0
  refine wp_region_T 17 (fun x => x.cell? ⟨g, 0, none⟩ = some (.slice a0 n c0) ∧ x.cell? ⟨g, 11, none⟩ = some (.slice a1 m c1)) (by kernel_rfl) (HT.out _ hx) (fun hHeld => ?_)
  refine wpAnyT_takeU (i := 0) (oi := ⟨some 12, _, _, _, _, _⟩) (v := ?_) rfl (by kernel_rfl) (by kernel_rfl) (by kernel_rfl) (by kernel_rfl) (fun _ _ _ h => h) (Or.inl ⟨by rfl, ?_⟩) (fun _ => hHeld) ?_
  rotate_left
  · intro w' hS'
    (try dsimp only at hS')
    go_simp
    try with_reducible rfl
  try simp only [Act.put, List.setIfInBounds_toArray, List.set_cons_zero, List.set_cons_succ]
  refine wpAnyT_takeU (i := 1) (oi := ⟨some 13, _, _, _, _, _⟩) (v := ?_) rfl (by kernel_rfl) (by kernel_rfl) (by kernel_rfl) (by kernel_rfl) (fun _ _ _ h => h) (Or.inl ⟨by rfl, ?_⟩) (fun _ => hHeld) ?_
  rotate_left
  · intro w' hS'
    (try dsimp only at hS')
    go_simp
    try with_reducible rfl
  try simp only [Act.put, List.setIfInBounds_toArray, List.set_cons_zero, List.set_cons_succ]
  refine wpAnyT_takeU (i := 2) (oi := ⟨some 14, _, _, _, _, _⟩) (v := ?_) rfl (by kernel_rfl) (by kernel_rfl) (by kernel_rfl) (by kernel_rfl) (fun _ _ _ h => h) (Or.inl ⟨by rfl, ?_⟩) (fun _ => hHeld) ?_
  rotate_left
  · intro w' hS'
    (try dsimp only at hS')
    go_simp
    try with_reducible rfl
  try simp only [Act.put, List.setIfInBounds_toArray, List.set_cons_zero, List.set_cons_succ]
  refine wpAnyT_takeU (i := 3) (oi := ⟨some 15, _, _, _, _, _⟩) (v := ?_) rfl (by kernel_rfl) (by kernel_rfl) (by kernel_rfl) (by kernel_rfl) (fun _ _ _ h => h) (Or.inl ⟨by rfl, ?_⟩) (fun _ => hHeld) ?_
  rotate_left
  · intro w' hS'
    (try dsimp only at hS')
    go_simp
    try with_reducible rfl
  try simp only [Act.put, List.setIfInBounds_toArray, List.set_cons_zero, List.set_cons_succ]
  refine wpAnyT_takeU (i := 4) (oi := ⟨some 16, _, _, _, _, _⟩) (v := ?_) rfl (by kernel_rfl) (by kernel_rfl) (by kernel_rfl) (by kernel_rfl) (fun _ _ _ h => h) (Or.inl ⟨by rfl, ?_⟩) (fun _ => hHeld) ?_
  rotate_left
  · intro w' hS'
    (try dsimp only at hS')
    go_simp
    try with_reducible rfl
  try simp only [Act.put, List.setIfInBounds_toArray, List.set_cons_zero, List.set_cons_succ]
  refine wpAnyT_take (i := 5) (oi := ⟨some 17, _, _, _, _, _⟩) (v := ?_) rfl (by kernel_rfl) (by kernel_rfl) (by kernel_rfl) (by kernel_rfl) (fun _ _ _ h => h) (Or.inl ⟨by rfl, ?_⟩) hHeld ?_
  rotate_left
  · intro w' hS'
    (try dsimp only at hS')
    go_simp
    try with_reducible rfl
  try simp only [Act.put, List.setIfInBounds_toArray, List.set_cons_zero, List.set_cons_succ]
  refine wpAnyT_takeU (i := 7) (oi := ⟨some 19, _, _, _, _, _⟩) (v := ?_) rfl (by kernel_rfl) (by kernel_rfl) (by kernel_rfl) (by kernel_rfl) (fun _ _ _ h => h) (Or.inl ⟨by rfl, ?_⟩) (fun _ => hHeld) ?_
  rotate_left
  · intro w' hS'
    (try dsimp only at hS')
    go_simp
    try with_reducible rfl
  try simp only [Act.put, List.setIfInBounds_toArray, List.set_cons_zero, List.set_cons_succ]
  refine wpAnyT_takeU (i := 8) (oi := ⟨some 20, _, _, _, _, _⟩) (v := ?_) rfl (by kernel_rfl) (by kernel_rfl) (by kernel_rfl) (by kernel_rfl) (fun _ _ _ h => h) (Or.inl ⟨by rfl, ?_⟩) (fun _ => hHeld) ?_
  rotate_left
  · intro w' hS'
    (try dsimp only at hS')
    go_simp
    try with_reducible rfl
  try simp only [Act.put, List.setIfInBounds_toArray, List.set_cons_zero, List.set_cons_succ]
  refine wpAnyT_takeU (i := 9) (oi := ⟨some 21, _, _, _, _, _⟩) (v := ?_) rfl (by kernel_rfl) (by kernel_rfl) (by kernel_rfl) (by kernel_rfl) (fun _ _ _ h => h) (Or.inl ⟨by rfl, ?_⟩) (fun _ => hHeld) ?_
  rotate_left
  · intro w' hS'
    (try dsimp only at hS')
    go_simp
    try with_reducible rfl
  try simp only [Act.put, List.setIfInBounds_toArray, List.set_cons_zero, List.set_cons_succ]
  refine wpAnyT_take (i := 10) (oi := ⟨some 22, _, _, _, _, _⟩) (v := ?_) rfl (by kernel_rfl) (by kernel_rfl) (by kernel_rfl) (by kernel_rfl) (fun _ _ _ h => h) (Or.inl ⟨by rfl, ?_⟩) hHeld ?_
  rotate_left
  · intro w' hS'
    (try dsimp only at hS')
    go_simp
    try with_reducible rfl
  try simp only [Act.put, List.setIfInBounds_toArray, List.set_cons_zero, List.set_cons_succ]
  refine wpAnyT_takeU (i := 11) (oi := ⟨some 23, _, _, _, _, _⟩) (v := ?_) rfl (by kernel_rfl) (by kernel_rfl) (by kernel_rfl) (by kernel_rfl) (fun _ _ _ h => h) (Or.inl ⟨by rfl, ?_⟩) (fun _ => hHeld) ?_
  rotate_left
  · intro w' hS'
    (try dsimp only at hS')
    go_simp
    try with_reducible rfl
  try simp only [Act.put, List.setIfInBounds_toArray, List.set_cons_zero, List.set_cons_succ]
  refine wpAnyT_takeU (i := 14) (oi := ⟨some 26, _, _, _, _, _⟩) (v := ?_) rfl (by kernel_rfl) (by kernel_rfl) (by kernel_rfl) (by kernel_rfl) (fun _ _ _ h => h) (Or.inl ⟨by rfl, ?_⟩) (fun _ => hHeld) ?_
  rotate_left
  · intro w' hS'
    (try dsimp only at hS')
    go_simp
    try with_reducible rfl
  try simp only [Act.put, List.setIfInBounds_toArray, List.set_cons_zero, List.set_cons_succ]
  refine wpAnyT_takeU (i := 15) (oi := ⟨some 27, _, _, _, _, _⟩) (v := ?_) rfl (by kernel_rfl) (by kernel_rfl) (by kernel_rfl) (by kernel_rfl) (fun _ _ _ h => h) (Or.inl ⟨by rfl, ?_⟩) (fun _ => hHeld) ?_
  rotate_left
  · intro w' hS'
    (try dsimp only at hS')
    go_simp
    try with_reducible rfl
  try simp only [Act.put, List.setIfInBounds_toArray, List.set_cons_zero, List.set_cons_succ]
  refine wpAnyT_all (rs := [6, 12]) (by kernel_rfl) (by simp) ?_
  intro ix hix
  have hix' : ix = 6 ∨ ix = 12 := by simpa using hix
  clear hix
  rcases hix' with rfl | rfl
  · skip
    refine wpOp_step (o := ⟨some 18, _, _, _, _, _⟩) rfl (fun K hK => ?_)
    have HK := Lib.hid hK
    clear hK
    go_simp
    refine (cloneInts _ a1 m c1 _ (R1.out.all hx).sl (by omega)).mono ?_
    rintro x w1 ⟨a2, c2, rfl, hr2, hf2, hb2, hn2⟩
    have Hr2 := Lib.hid hr2
    have Hf2 := Lib.hid (hf2.mono hx.size)
    replace hx := hx.trans (hb2.mono hx.size)
    clear hb2 hr2 hf2 hn2
    go_wp2_with fail
    refine HK.out _ _ ⟨fun _ => (HT.out _ hx), ?_⟩
    clear HK
    try clear hHeld
    have hHeld := (HT.out _ hx)
    try simp only [Act.put, List.setIfInBounds_toArray, List.set_cons_zero, List.set_cons_succ]
    refine wpAnyT_all (rs := [12]) (by kernel_rfl) (by simp) ?_
    intro ix hix
    obtain rfl : ix = 12 := by simpa using hix
    clear hix
    refine wpOp_step (o := ⟨some 24, _, _, _, _, _⟩) rfl (fun K hK => ?_)
    have HK := Lib.hid hK
    clear hK
    go_simp
    replace hx := hx.alloc hx.size (.cells #[.int .i64 (n : Int)] 3)
    have Hlit := Lib.hid (RowAt.lit w1 #[.int .i64 (n : Int)] 3 1 1 (by decide) rfl (by simp [Value.oneCell'])).sl
    have Hr3 := Lib.hid (Hr2.out.alloc (.cells #[.int .i64 (n : Int)] 3))
    go_wp2_with fail
    refine HK.out _ _ ⟨fun _ => (HT.out _ hx), ?_⟩
    clear HK
    try clear hHeld
    have hHeld := (HT.out _ hx)
    try simp only [Act.put, List.setIfInBounds_toArray, List.set_cons_zero, List.set_cons_succ]
    refine wpAnyT_all (rs := [13]) (by kernel_rfl) (by simp) ?_
    intro ix hix
    obtain rfl : ix = 13 := by simpa using hix
    clear hix
    refine wpOp_step (o := ⟨some 25, _, _, _, _, _⟩) rfl (fun K hK => ?_)
    have HK := Lib.hid hK
    clear hK
    refine step_append_row rfl (.tmp 18) (.tmp 24) 22 rfl 3 (.int .i64 0) 1 8 Try.underlying22 Try.infoInt rfl (by decide) rfl rfl Hr3.out Hlit.out (by unfold maxLen; omega) (by omega) ?_
    intro a' cap' w2 hrow hupd hloc hnil
    have Hf4 := Lib.hid (Hf2.out.step hx.size hloc)
    replace hx := hx.trans (appendBelow Hf2.out hx.size hupd)
    have Hrow := Lib.hid hrow
    clear hrow hupd hloc hnil
    refine HK.out _ _ ⟨fun _ => (HT.out _ hx), ?_⟩
    clear HK
    try clear hHeld
    have hHeld := (HT.out _ hx)
    try simp only [Act.put, List.setIfInBounds_toArray, List.set_cons_zero, List.set_cons_succ]
    refine wpAnyT_takeU (i := 16) (oi := ⟨some 28, _, _, _, _, _⟩) (v := ?_) rfl (by kernel_rfl) (by kernel_rfl) (by kernel_rfl) (by kernel_rfl) (fun _ _ _ h => h) (Or.inl ⟨by rfl, ?_⟩) (fun _ => hHeld) ?_
    rotate_left
    · intro w' hS'
      (try dsimp only at hS')
      go_simp
      try with_reducible rfl
    try simp only [Act.put, List.setIfInBounds_toArray, List.set_cons_zero, List.set_cons_succ]
    refine wpAnyT_all (rs := [17]) (by kernel_rfl) (by simp) ?_
    intro ix hix
    obtain rfl : ix = 17 := by simpa using hix
    clear hix
    refine wpOp_step (o := ⟨none, _, _, _, _, _⟩) rfl (fun K hK => ?_)
    have HK := Lib.hid hK
    clear hK
    have kf := HF.out _ hx 11
    have kc := (HT.out _ hx).2
    go_simp
    go_wp2_with fail
    refine HK.out _ _ ⟨tl (by kernel_rfl), ?_⟩
    clear HK
    try clear hHeld
    try simp only [Act.put, List.setIfInBounds_toArray, List.set_cons_zero, List.set_cons_succ]
    refine wpAnyT_done (by kernel_rfl) ?_ _
    have hst3 := Hst.out.setSl (s' := ⟨s.o, s.l.set 10 (l ++ [(n : Int)]), s.p⟩) hx (by have := Hz0.out; omega) 11 (by decide) (a := a') (n := m + 1) (c := cap') (by simp [lenOf, Ok.out.l, Hm.out]) (by simpa [tyOf, szOf, rowOf, Ok.out.l] using Hrow.out) (fun ad he => .inl (Hf4.out ad he)) (fun j hj hj2 => set_other s 10 (l ++ [(n : Int)]) j hj2) rfl
    have hu3 : Upd (fun k => k = g) wa (w2.setCell ⟨g, 11, none⟩ (.slice a' (m + 1) cap')) := (Upd.of_below (S := fun k => k = g) hx).setCell ⟨g, 11, none⟩ (fun _ => rfl) _
    have he3 := setCell_obj (p := ⟨g, 11, none⟩) (u := .slice a' (m + 1) cap') (HE.out _ hx) (by show w.heap.size ≠ g; omega)
    have hg3 : g < (w2.setCell ⟨g, 11, none⟩ (.slice a' (m + 1) cap')).heap.size := obj_lt hst3.obj
    generalize w2.setCell ⟨g, 11, none⟩ (.slice a' (m + 1) cap') = W at *
    obtain ⟨a3, c3, h3, r3, f3⟩ := hst3.own.sz0
    have k3 := (obj_cell hst3.obj 0).trans h3
    change W.cell? ⟨g, 0, none⟩ = some (.slice a3 s.o.length c3) at k3
    change RowAt W _ 18 a3 s.o.length c3 (objs s.o) at r3
    rw [← Hn.out] at k3 r3
    have HT2 := Lib.hid (fun (x : World) (hb : Below W.heap.size W x) => (⟨(hb.cell (p := ⟨g, 0, none⟩) hg3).trans k3, EvCells.of (below_obj hb he3 (obj_lt he3))⟩ : x.cell? ⟨g, 0, none⟩ = some (.slice a3 n c3) ∧ EvCells x w.heap.size e))
    have HF2 := Lib.hid (fun (x : World) (hb : Below W.heap.size W x) (j : Nat) => (hb.frozen (p := ⟨g, j, none⟩) hg3).trans (obj_free hst3.obj j))
    have Hst3 := Lib.hid hst3
    have R3 := Lib.hid r3
    have Hu3 := Lib.hid hu3
    have hy : Below W.heap.size W W.drew := (Below.refl _ _).drew
    have hWs := hu3.size
    clear hst3 hu3 he3 h3 r3 f3 k3 hx HT HF HE Hrow Hf4 Hf2 Hlit Hr2
    go_wp2_with fail
    refine wp_region_T 12 (fun x => x.cell? ⟨g, 0, none⟩ = some (.slice a3 n c3) ∧ x.cell? ⟨w.heap.size, 0, none⟩ = some (.int .i64 e.k) ∧ x.cell? ⟨w.heap.size, 1, none⟩ = some (.int .i64 e.a) ∧ x.cell? ⟨w.heap.size, 2, none⟩ = some (.int .i64 e.b) ∧ x.cell? ⟨w.heap.size, 3, none⟩ = some (.int .i64 e.c) ∧ x.cell? ⟨w.heap.size, 4, none⟩ = some (.int .i64 e.d) ∧ x.cell? ⟨w.heap.size, 5, none⟩ = some (.int .i64 e.e)) (by kernel_rfl) (HT2.out _ hy) (fun hHeld => ?_)
    refine wpAnyT_takeU (i := 0) (oi := ⟨some 29, _, _, _, _, _⟩) (v := ?_) rfl (by kernel_rfl) (by kernel_rfl) (by kernel_rfl) (by kernel_rfl) (fun _ _ _ h => h) (Or.inl ⟨by rfl, ?_⟩) (fun _ => hHeld) ?_
    rotate_left
    · intro w' hS'
      (try dsimp only at hS')
      go_simp
      try with_reducible rfl
    try simp only [Act.put, List.setIfInBounds_toArray, List.set_cons_zero, List.set_cons_succ]
    refine wpAnyT_takeU (i := 1) (oi := ⟨some 30, _, _, _, _, _⟩) (v := ?_) rfl (by kernel_rfl) (by kernel_rfl) (by kernel_rfl) (by kernel_rfl) (fun _ _ _ h => h) (Or.inl ⟨by rfl, ?_⟩) (fun _ => hHeld) ?_
    rotate_left
    · intro w' hS'
      (try dsimp only at hS')
      go_simp
      try with_reducible rfl
    try simp only [Act.put, List.setIfInBounds_toArray, List.set_cons_zero, List.set_cons_succ]
    refine wpAnyT_takeU (i := 2) (oi := ⟨some 31, _, _, _, _, _⟩) (v := ?_) rfl (by kernel_rfl) (by kernel_rfl) (by kernel_rfl) (by kernel_rfl) (fun _ _ _ h => h) (Or.inl ⟨by rfl, ?_⟩) (fun _ => hHeld) ?_
    rotate_left
    · intro w' hS'
      (try dsimp only at hS')
      go_simp
      try with_reducible rfl
    try simp only [Act.put, List.setIfInBounds_toArray, List.set_cons_zero, List.set_cons_succ]
    refine wpAnyT_takeU (i := 3) (oi := ⟨some 32, _, _, _, _, _⟩) (v := ?_) rfl (by kernel_rfl) (by kernel_rfl) (by kernel_rfl) (by kernel_rfl) (fun _ _ _ h => h) (Or.inl ⟨by rfl, ?_⟩) (fun _ => hHeld) ?_
    rotate_left
    · intro w' hS'
      (try dsimp only at hS')
      go_simp
      try with_reducible rfl
    try simp only [Act.put, List.setIfInBounds_toArray, List.set_cons_zero, List.set_cons_succ]
    refine wpAnyT_take (i := 4) (oi := ⟨some 33, _, _, _, _, _⟩) (v := ?_) rfl (by kernel_rfl) (by kernel_rfl) (by kernel_rfl) (by kernel_rfl) (fun _ _ _ h => h) (Or.inl ⟨by rfl, ?_⟩) hHeld ?_
    rotate_left
    · intro w' hS'
      (try dsimp only at hS')
      go_simp
      try with_reducible rfl
    try simp only [Act.put, List.setIfInBounds_toArray, List.set_cons_zero, List.set_cons_succ]
    refine wpAnyT_take (i := 6) (oi := ⟨some 35, _, _, _, _, _⟩) (v := ?_) rfl (by kernel_rfl) (by kernel_rfl) (by kernel_rfl) (by kernel_rfl) (fun _ _ _ h => h) (Or.inl ⟨by rfl, ?_⟩) hHeld ?_
    rotate_left
    · intro w' hS'
      (try dsimp only at hS')
      go_simp
      try with_reducible rfl
    try simp only [Act.put, List.setIfInBounds_toArray, List.set_cons_zero, List.set_cons_succ]
    refine wpAnyT_all (rs := [5]) (by kernel_rfl) (by simp) ?_
    intro ix hix
    obtain rfl : ix = 5 := by simpa using hix
    clear hix
    refine wpOp_step (o := ⟨some 34, _, _, _, _, _⟩) rfl (fun K hK => ?_)
    have HK := Lib.hid hK
    clear hK
    go_simp
    refine (cloneObjs _ a3 n c3 _ (R3.out.all hy).sl (by omega)).mono ?_
    rintro x w5 ⟨a5, c5, rfl, hr5, hf5, hb5, hn5⟩
    have Hr5 := Lib.hid hr5
    have Hf5 := Lib.hid (hf5.mono hy.size)
    replace hy := hy.trans (hb5.mono hy.size)
    clear hb5 hr5 hf5 hn5
    go_wp2_with fail
    refine HK.out _ _ ⟨fun _ => (HT2.out _ hy), ?_⟩
    clear HK
    try clear hHeld
    have hHeld := (HT2.out _ hy)
    try simp only [Act.put, List.setIfInBounds_toArray, List.set_cons_zero, List.set_cons_succ]
    refine wpAnyT_all (rs := [7]) (by kernel_rfl) (by simp) ?_
    intro ix hix
    obtain rfl : ix = 7 := by simpa using hix
    clear hix
    refine wpOp_step (o := ⟨some 36, _, _, _, _, _⟩) rfl (fun K hK => ?_)
    have HK := Lib.hid hK
    clear hK
    go_simp
    refine (made _ e).mono ?_
    rintro x w6 ⟨rfl, hb6⟩
    have Hr6 := Lib.hid (Hr5.out.all hb6)
    replace hy := hy.trans (hb6.mono hy.size)
    clear hb6
    go_wp2_with fail
    refine HK.out _ _ ⟨fun _ => (HT2.out _ hy), ?_⟩
    clear HK
    try clear hHeld
    have hHeld := (HT2.out _ hy)
    try simp only [Act.put, List.setIfInBounds_toArray, List.set_cons_zero, List.set_cons_succ]
    refine wpAnyT_all (rs := [8]) (by kernel_rfl) (by simp) ?_
    intro ix hix
    obtain rfl : ix = 8 := by simpa using hix
    clear hix
    refine wpOp_step (o := ⟨some 37, _, _, _, _, _⟩) rfl (fun K hK => ?_)
    have HK := Lib.hid hK
    clear hK
    go_simp
    replace hy := hy.alloc hy.size (.cells (madeA e) 108)
    have Hlit := Lib.hid (RowAt.lit w6 (madeA e) 108 18 1 (by decide) rfl (by simp [Value.oneCell'])).sl
    have Hr7 := Lib.hid (Hr6.out.alloc (.cells (madeA e) 108))
    go_wp2_with fail
    refine HK.out _ _ ⟨fun _ => (HT2.out _ hy), ?_⟩
    clear HK
    try clear hHeld
    have hHeld := (HT2.out _ hy)
    try simp only [Act.put, List.setIfInBounds_toArray, List.set_cons_zero, List.set_cons_succ]
    refine wpAnyT_all (rs := [9]) (by kernel_rfl) (by simp) ?_
    intro ix hix
    obtain rfl : ix = 9 := by simpa using hix
    clear hix
    refine wpOp_step (o := ⟨some 38, _, _, _, _, _⟩) rfl (fun K hK => ?_)
    have HK := Lib.hid hK
    clear hK
    refine step_append_row rfl (.tmp 34) (.tmp 37) 73 rfl 108 zObj 18 144 Try.underlying73 Try.infoObj rfl (by decide) rfl rfl Hr7.out Hlit.out (by unfold maxLen; omega) (by omega) ?_
    intro a8 cap8 w8 hrow hupd hloc hnil
    have Hf8 := Lib.hid (Hf5.out.step hy.size hloc)
    replace hy := hy.trans (appendBelow Hf5.out hy.size hupd)
    have Hrow8 := Lib.hid hrow
    clear hrow hupd hloc hnil
    refine HK.out _ _ ⟨fun _ => (HT2.out _ hy), ?_⟩
    clear HK
    try clear hHeld
    have hHeld := (HT2.out _ hy)
    try simp only [Act.put, List.setIfInBounds_toArray, List.set_cons_zero, List.set_cons_succ]
    refine wpAnyT_takeU (i := 10) (oi := ⟨some 39, _, _, _, _, _⟩) (v := ?_) rfl (by kernel_rfl) (by kernel_rfl) (by kernel_rfl) (by kernel_rfl) (fun _ _ _ h => h) (Or.inl ⟨by rfl, ?_⟩) (fun _ => hHeld) ?_
    rotate_left
    · intro w' hS'
      (try dsimp only at hS')
      go_simp
      try with_reducible rfl
    try simp only [Act.put, List.setIfInBounds_toArray, List.set_cons_zero, List.set_cons_succ]
    refine wpAnyT_takeU (i := 11) (oi := ⟨some 40, _, _, _, _, _⟩) (v := ?_) rfl (by kernel_rfl) (by kernel_rfl) (by kernel_rfl) (by kernel_rfl) (fun _ _ _ h => h) (Or.inl ⟨by rfl, ?_⟩) (fun _ => hHeld) ?_
    rotate_left
    · intro w' hS'
      (try dsimp only at hS')
      go_simp
      try with_reducible rfl
    try simp only [Act.put, List.setIfInBounds_toArray, List.set_cons_zero, List.set_cons_succ]
    refine wpAnyT_all (rs := [12]) (by kernel_rfl) (by simp) ?_
    intro ix hix
    obtain rfl : ix = 12 := by simpa using hix
    clear hix
    refine wpOp_step (o := ⟨none, _, _, _, _, _⟩) rfl (fun K hK => ?_)
    have HK := Lib.hid hK
    clear hK
    have kf := HF2.out _ hy 0
    have kc := (HT2.out _ hy).1
    go_simp
    go_wp2_with fail
    refine HK.out _ _ ⟨tl (by kernel_rfl), ?_⟩
    clear HK
    try clear hHeld
    try simp only [Act.put, List.setIfInBounds_toArray, List.set_cons_zero, List.set_cons_succ]
    refine wpAnyT_done (by kernel_rfl) ?_ _
    have hst9 := Hst3.out.setSl (s' := mkS s e) hy (by have := Hz0.out; omega) 0 (by decide) (a := a8) (n := n + 1) (c := cap8) (by simp [lenOf, mkS, Hn.out]) (by rw [rowOf_mk]; exact Hrow8.out) (fun ad he => .inl (Hf8.out ad he)) (fun j hj hj2 => ⟨by simp [lenOf, hj2, mkS, Hl.out, Hn.out], by simp [rowOf, hj2, mkS, Hl.out, Hn.out]⟩) rfl
    have hu9 := (Hu3.out.trans (Upd.of_below (S := fun k => k = g) hy) (fun _ _ h => h)).setCell ⟨g, 0, none⟩ (fun _ => rfl) (.slice a8 (n + 1) cap8)
    have Hst9 := Lib.hid hst9
    have Hu9 := Lib.hid hu9
    clear hst9 hu9
    go_wp2_with fail
    go_ret
    exact ⟨rfl, (Upd.of_below (S := fun k => k = g) B0.out).trans Hu9.out (fun _ _ h => h), _, by rw [if_pos rfl]; exact Hst9.out⟩
  · skip
    refine wpOp_step (o := ⟨some 24, _, _, _, _, _⟩) rfl (fun K hK => ?_)
    have HK := Lib.hid hK
    clear hK
    go_simp
    replace hx : Below wa.heap.size wa (wa.alloc (.cells #[.int .i64 (n : Int)] 3)).drew := ((Below.refl _ wa).alloc (Nat.le_refl _) _).drew
    have Hl0 := Lib.hid ((RowAt.lit wa #[.int .i64 (n : Int)] 3 1 1 (by decide) rfl (by simp [Value.oneCell'])).sl.drew)
    go_wp2_with fail
    refine HK.out _ _ ⟨fun _ => (HT.out _ hx), ?_⟩
    clear HK
    try clear hHeld
    have hHeld := (HT.out _ hx)
    try simp only [Act.put, List.setIfInBounds_toArray, List.set_cons_zero, List.set_cons_succ]
    refine wpAnyT_all (rs := [6]) (by kernel_rfl) (by simp) ?_
    intro ix hix
    obtain rfl : ix = 6 := by simpa using hix
    clear hix
    refine wpOp_step (o := ⟨some 18, _, _, _, _, _⟩) rfl (fun K hK => ?_)
    have HK := Lib.hid hK
    clear hK
    go_simp
    refine (cloneInts _ a1 m c1 _ (R1.out.all hx).sl (by omega)).mono ?_
    rintro x w1 ⟨a2, c2, rfl, hr2, hf2, hb2, hn2⟩
    have Hlit := Lib.hid (Hl0.out.all hb2)
    have Hr2 := Lib.hid hr2
    have Hf2 := Lib.hid (hf2.mono hx.size)
    replace hx := hx.trans (hb2.mono hx.size)
    clear hb2 hr2 hf2 hn2
    go_wp2_with fail
    refine HK.out _ _ ⟨fun _ => (HT.out _ hx), ?_⟩
    clear HK
    try clear hHeld
    have hHeld := (HT.out _ hx)
    try simp only [Act.put, List.setIfInBounds_toArray, List.set_cons_zero, List.set_cons_succ]
    refine wpAnyT_all (rs := [13]) (by kernel_rfl) (by simp) ?_
    intro ix hix
    obtain rfl : ix = 13 := by simpa using hix
    clear hix
    refine wpOp_step (o := ⟨some 25, _, _, _, _, _⟩) rfl (fun K hK => ?_)
    have HK := Lib.hid hK
    clear hK
    refine step_append_row rfl (.tmp 18) (.tmp 24) 22 rfl 3 (.int .i64 0) 1 8 Try.underlying22 Try.infoInt rfl (by decide) rfl rfl Hr2.out Hlit.out (by unfold maxLen; omega) (by omega) ?_
    intro a' cap' w2 hrow hupd hloc hnil
    have Hf4 := Lib.hid (Hf2.out.step hx.size hloc)
    replace hx := hx.trans (appendBelow Hf2.out hx.size hupd)
    have Hrow := Lib.hid hrow
    clear hrow hupd hloc hnil
    refine HK.out _ _ ⟨fun _ => (HT.out _ hx), ?_⟩
    clear HK
    try clear hHeld
    have hHeld := (HT.out _ hx)
    try simp only [Act.put, List.setIfInBounds_toArray, List.set_cons_zero, List.set_cons_succ]
    refine wpAnyT_takeU (i := 16) (oi := ⟨some 28, _, _, _, _, _⟩) (v := ?_) rfl (by kernel_rfl) (by kernel_rfl) (by kernel_rfl) (by kernel_rfl) (fun _ _ _ h => h) (Or.inl ⟨by rfl, ?_⟩) (fun _ => hHeld) ?_
    rotate_left
    · intro w' hS'
      (try dsimp only at hS')
      go_simp
      try with_reducible rfl
    try simp only [Act.put, List.setIfInBounds_toArray, List.set_cons_zero, List.set_cons_succ]
    refine wpAnyT_all (rs := [17]) (by kernel_rfl) (by simp) ?_
    intro ix hix
    obtain rfl : ix = 17 := by simpa using hix
    clear hix
    refine wpOp_step (o := ⟨none, _, _, _, _, _⟩) rfl (fun K hK => ?_)
    have HK := Lib.hid hK
    clear hK
    have kf := HF.out _ hx 11
    have kc := (HT.out _ hx).2
    go_simp
    go_wp2_with fail
    refine HK.out _ _ ⟨tl (by kernel_rfl), ?_⟩
    clear HK
    try clear hHeld
    try simp only [Act.put, List.setIfInBounds_toArray, List.set_cons_zero, List.set_cons_succ]
    refine wpAnyT_done (by kernel_rfl) ?_ _
    have hst3 := Hst.out.setSl (s' := ⟨s.o, s.l.set 10 (l ++ [(n : Int)]), s.p⟩) hx (by have := Hz0.out; omega) 11 (by decide) (a := a') (n := m + 1) (c := cap') (by simp [lenOf, Ok.out.l, Hm.out]) (by simpa [tyOf, szOf, rowOf, Ok.out.l] using Hrow.out) (fun ad he => .inl (Hf4.out ad he)) (fun j hj hj2 => set_other s 10 (l ++ [(n : Int)]) j hj2) rfl
    have hu3 : Upd (fun k => k = g) wa (w2.setCell ⟨g, 11, none⟩ (.slice a' (m + 1) cap')) := (Upd.of_below (S := fun k => k = g) hx).setCell ⟨g, 11, none⟩ (fun _ => rfl) _
    have he3 := setCell_obj (p := ⟨g, 11, none⟩) (u := .slice a' (m + 1) cap') (HE.out _ hx) (by show w.heap.size ≠ g; omega)
    have hg3 : g < (w2.setCell ⟨g, 11, none⟩ (.slice a' (m + 1) cap')).heap.size := obj_lt hst3.obj
    generalize w2.setCell ⟨g, 11, none⟩ (.slice a' (m + 1) cap') = W at *
    obtain ⟨a3, c3, h3, r3, f3⟩ := hst3.own.sz0
    have k3 := (obj_cell hst3.obj 0).trans h3
    change W.cell? ⟨g, 0, none⟩ = some (.slice a3 s.o.length c3) at k3
    change RowAt W _ 18 a3 s.o.length c3 (objs s.o) at r3
    rw [← Hn.out] at k3 r3
    have HT2 := Lib.hid (fun (x : World) (hb : Below W.heap.size W x) => (⟨(hb.cell (p := ⟨g, 0, none⟩) hg3).trans k3, EvCells.of (below_obj hb he3 (obj_lt he3))⟩ : x.cell? ⟨g, 0, none⟩ = some (.slice a3 n c3) ∧ EvCells x w.heap.size e))
    have HF2 := Lib.hid (fun (x : World) (hb : Below W.heap.size W x) (j : Nat) => (hb.frozen (p := ⟨g, j, none⟩) hg3).trans (obj_free hst3.obj j))
    have Hst3 := Lib.hid hst3
    have R3 := Lib.hid r3
    have Hu3 := Lib.hid hu3
    have hy : Below W.heap.size W W.drew := (Below.refl _ _).drew
    have hWs := hu3.size
    clear hst3 hu3 he3 h3 r3 f3 k3 hx HT HF HE Hrow Hf4 Hf2 Hlit Hr2
    go_wp2_with fail
    refine wp_region_T 12 (fun x => x.cell? ⟨g, 0, none⟩ = some (.slice a3 n c3) ∧ x.cell? ⟨w.heap.size, 0, none⟩ = some (.int .i64 e.k) ∧ x.cell? ⟨w.heap.size, 1, none⟩ = some (.int .i64 e.a) ∧ x.cell? ⟨w.heap.size, 2, none⟩ = some (.int .i64 e.b) ∧ x.cell? ⟨w.heap.size, 3, none⟩ = some (.int .i64 e.c) ∧ x.cell? ⟨w.heap.size, 4, none⟩ = some (.int .i64 e.d) ∧ x.cell? ⟨w.heap.size, 5, none⟩ = some (.int .i64 e.e)) (by kernel_rfl) (HT2.out _ hy) (fun hHeld => ?_)
    refine wpAnyT_takeU (i := 0) (oi := ⟨some 29, _, _, _, _, _⟩) (v := ?_) rfl (by kernel_rfl) (by kernel_rfl) (by kernel_rfl) (by kernel_rfl) (fun _ _ _ h => h) (Or.inl ⟨by rfl, ?_⟩) (fun _ => hHeld) ?_
    rotate_left
    · intro w' hS'
      (try dsimp only at hS')
      go_simp
      try with_reducible rfl
    try simp only [Act.put, List.setIfInBounds_toArray, List.set_cons_zero, List.set_cons_succ]
    refine wpAnyT_takeU (i := 1) (oi := ⟨some 30, _, _, _, _, _⟩) (v := ?_) rfl (by kernel_rfl) (by kernel_rfl) (by kernel_rfl) (by kernel_rfl) (fun _ _ _ h => h) (Or.inl ⟨by rfl, ?_⟩) (fun _ => hHeld) ?_
    rotate_left
    · intro w' hS'
      (try dsimp only at hS')
      go_simp
      try with_reducible rfl
    try simp only [Act.put, List.setIfInBounds_toArray, List.set_cons_zero, List.set_cons_succ]
    refine wpAnyT_takeU (i := 2) (oi := ⟨some 31, _, _, _, _, _⟩) (v := ?_) rfl (by kernel_rfl) (by kernel_rfl) (by kernel_rfl) (by kernel_rfl) (fun _ _ _ h => h) (Or.inl ⟨by rfl, ?_⟩) (fun _ => hHeld) ?_
    rotate_left
    · intro w' hS'
      (try dsimp only at hS')
      go_simp
      try with_reducible rfl
    try simp only [Act.put, List.setIfInBounds_toArray, List.set_cons_zero, List.set_cons_succ]
    refine wpAnyT_takeU (i := 3) (oi := ⟨some 32, _, _, _, _, _⟩) (v := ?_) rfl (by kernel_rfl) (by kernel_rfl) (by kernel_rfl) (by kernel_rfl) (fun _ _ _ h => h) (Or.inl ⟨by rfl, ?_⟩) (fun _ => hHeld) ?_
    rotate_left
    · intro w' hS'
      (try dsimp only at hS')
      go_simp
      try with_reducible rfl
    try simp only [Act.put, List.setIfInBounds_toArray, List.set_cons_zero, List.set_cons_succ]
    refine wpAnyT_take (i := 4) (oi := ⟨some 33, _, _, _, _, _⟩) (v := ?_) rfl (by kernel_rfl) (by kernel_rfl) (by kernel_rfl) (by kernel_rfl) (fun _ _ _ h => h) (Or.inl ⟨by rfl, ?_⟩) hHeld ?_
    rotate_left
    · intro w' hS'
      (try dsimp only at hS')
      go_simp
      try with_reducible rfl
    try simp only [Act.put, List.setIfInBounds_toArray, List.set_cons_zero, List.set_cons_succ]
    refine wpAnyT_take (i := 6) (oi := ⟨some 35, _, _, _, _, _⟩) (v := ?_) rfl (by kernel_rfl) (by kernel_rfl) (by kernel_rfl) (by kernel_rfl) (fun _ _ _ h => h) (Or.inl ⟨by rfl, ?_⟩) hHeld ?_
    rotate_left
    · intro w' hS'
      (try dsimp only at hS')
      go_simp
      try with_reducible rfl
    try simp only [Act.put, List.setIfInBounds_toArray, List.set_cons_zero, List.set_cons_succ]
    refine wpAnyT_all (rs := [5]) (by kernel_rfl) (by simp) ?_
    intro ix hix
    obtain rfl : ix = 5 := by simpa using hix
    clear hix
    refine wpOp_step (o := ⟨some 34, _, _, _, _, _⟩) rfl (fun K hK => ?_)
    have HK := Lib.hid hK
    clear hK
    go_simp
    refine (cloneObjs _ a3 n c3 _ (R3.out.all hy).sl (by omega)).mono ?_
    rintro x w5 ⟨a5, c5, rfl, hr5, hf5, hb5, hn5⟩
    have Hr5 := Lib.hid hr5
    have Hf5 := Lib.hid (hf5.mono hy.size)
    replace hy := hy.trans (hb5.mono hy.size)
    clear hb5 hr5 hf5 hn5
    go_wp2_with fail
    refine HK.out _ _ ⟨fun _ => (HT2.out _ hy), ?_⟩
    clear HK
    try clear hHeld
    have hHeld := (HT2.out _ hy)
    try simp only [Act.put, List.setIfInBounds_toArray, List.set_cons_zero, List.set_cons_succ]
    refine wpAnyT_all (rs := [7]) (by kernel_rfl) (by simp) ?_
    intro ix hix
    obtain rfl : ix = 7 := by simpa using hix
    clear hix
    refine wpOp_step (o := ⟨some 36, _, _, _, _, _⟩) rfl (fun K hK => ?_)
    have HK := Lib.hid hK
    clear hK
    go_simp
    refine (made _ e).mono ?_
    rintro x w6 ⟨rfl, hb6⟩
    have Hr6 := Lib.hid (Hr5.out.all hb6)
    replace hy := hy.trans (hb6.mono hy.size)
    clear hb6
    go_wp2_with fail
    refine HK.out _ _ ⟨fun _ => (HT2.out _ hy), ?_⟩
    clear HK
    try clear hHeld
    have hHeld := (HT2.out _ hy)
    try simp only [Act.put, List.setIfInBounds_toArray, List.set_cons_zero, List.set_cons_succ]
    refine wpAnyT_all (rs := [8]) (by kernel_rfl) (by simp) ?_
    intro ix hix
    obtain rfl : ix = 8 := by simpa using hix
    clear hix
    refine wpOp_step (o := ⟨some 37, _, _, _, _, _⟩) rfl (fun K hK => ?_)
    have HK := Lib.hid hK
    clear hK
    go_simp
    replace hy := hy.alloc hy.size (.cells (madeA e) 108)
    have Hlit := Lib.hid (RowAt.lit w6 (madeA e) 108 18 1 (by decide) rfl (by simp [Value.oneCell'])).sl
    have Hr7 := Lib.hid (Hr6.out.alloc (.cells (madeA e) 108))
    go_wp2_with fail
    refine HK.out _ _ ⟨fun _ => (HT2.out _ hy), ?_⟩
    clear HK
    try clear hHeld
    have hHeld := (HT2.out _ hy)
    try simp only [Act.put, List.setIfInBounds_toArray, List.set_cons_zero, List.set_cons_succ]
    refine wpAnyT_all (rs := [9]) (by kernel_rfl) (by simp) ?_
    intro ix hix
    obtain rfl : ix = 9 := by simpa using hix
    clear hix
    refine wpOp_step (o := ⟨some 38, _, _, _, _, _⟩) rfl (fun K hK => ?_)
    have HK := Lib.hid hK
    clear hK
    refine step_append_row rfl (.tmp 34) (.tmp 37) 73 rfl 108 zObj 18 144 Try.underlying73 Try.infoObj rfl (by decide) rfl rfl Hr7.out Hlit.out (by unfold maxLen; omega) (by omega) ?_
    intro a8 cap8 w8 hrow hupd hloc hnil
    have Hf8 := Lib.hid (Hf5.out.step hy.size hloc)
    replace hy := hy.trans (appendBelow Hf5.out hy.size hupd)
    have Hrow8 := Lib.hid hrow
    clear hrow hupd hloc hnil
    refine HK.out _ _ ⟨fun _ => (HT2.out _ hy), ?_⟩
    clear HK
    try clear hHeld
    have hHeld := (HT2.out _ hy)
    try simp only [Act.put, List.setIfInBounds_toArray, List.set_cons_zero, List.set_cons_succ]
    refine wpAnyT_takeU (i := 10) (oi := ⟨some 39, _, _, _, _, _⟩) (v := ?_) rfl (by kernel_rfl) (by kernel_rfl) (by kernel_rfl) (by kernel_rfl) (fun _ _ _ h => h) (Or.inl ⟨by rfl, ?_⟩) (fun _ => hHeld) ?_
    rotate_left
    · intro w' hS'
      (try dsimp only at hS')
      go_simp
      try with_reducible rfl
    try simp only [Act.put, List.setIfInBounds_toArray, List.set_cons_zero, List.set_cons_succ]
    refine wpAnyT_takeU (i := 11) (oi := ⟨some 40, _, _, _, _, _⟩) (v := ?_) rfl (by kernel_rfl) (by kernel_rfl) (by kernel_rfl) (by kernel_rfl) (fun _ _ _ h => h) (Or.inl ⟨by rfl, ?_⟩) (fun _ => hHeld) ?_
    rotate_left
    · intro w' hS'
      (try dsimp only at hS')
      go_simp
      try with_reducible rfl
    try simp only [Act.put, List.setIfInBounds_toArray, List.set_cons_zero, List.set_cons_succ]
    refine wpAnyT_all (rs := [12]) (by kernel_rfl) (by simp) ?_
    intro ix hix
    obtain rfl : ix = 12 := by simpa using hix
    clear hix
    refine wpOp_step (o := ⟨none, _, _, _, _, _⟩) rfl (fun K hK => ?_)
    have HK := Lib.hid hK
    clear hK
    have kf := HF2.out _ hy 0
    have kc := (HT2.out _ hy).1
    go_simp
    go_wp2_with fail
    refine HK.out _ _ ⟨tl (by kernel_rfl), ?_⟩
    clear HK
    try clear hHeld
    try simp only [Act.put, List.setIfInBounds_toArray, List.set_cons_zero, List.set_cons_succ]
    refine wpAnyT_done (by kernel_rfl) ?_ _
    have hst9 := Hst3.out.setSl (s' := mkS s e) hy (by have := Hz0.out; omega) 0 (by decide) (a := a8) (n := n + 1) (c := cap8) (by simp [lenOf, mkS, Hn.out]) (by rw [rowOf_mk]; exact Hrow8.out) (fun ad he => .inl (Hf8.out ad he)) (fun j hj hj2 => ⟨by simp [lenOf, hj2, mkS, Hl.out, Hn.out], by simp [rowOf, hj2, mkS, Hl.out, Hn.out]⟩) rfl
    have hu9 := (Hu3.out.trans (Upd.of_below (S := fun k => k = g) hy) (fun _ _ h => h)).setCell ⟨g, 0, none⟩ (fun _ => rfl) (.slice a8 (n + 1) cap8)
    have Hst9 := Lib.hid hst9
    have Hu9 := Lib.hid hu9
    clear hst9 hu9
    go_wp2_with fail
    go_ret
    exact ⟨rfl, (Upd.of_below (S := fun k => k = g) B0.out).trans Hu9.out (fun _ _ h => h), _, by rw [if_pos rfl]; exact Hst9.out⟩
end Go.Proofs.Ytpbocficffbcbaa
