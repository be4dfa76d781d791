import Derived.Test.YtpbocficffbcbaaRefAll
import Derived.Test.YtpbocficffbcbaaStates
import Derived.Test.YtpbocficffbcbaaSts
namespace Go.Proofs.Ytpbocficffbcbaa
open Go Go.RowKit
set_option linter.unusedVariables false

/-- A state that is read, where another one was written into a block made later. -/
theorem StC.over {wa wb wc : World} {cs : Array Value} {s : St} (ha : StC wa cs s) (hb : StC wb cs s) (k : Upd (fun k => k = wa.heap.size) wb wc) : StC wc cs s :=
  hb.upd k (fun i a c hi he ad hd h0 hk => by
    obtain ⟨a', c', h1, h2⟩ := ha.sl i hi
    rw [he] at h1
    simp at h1
    obtain ⟨rfl, rfl⟩ := h1
    have := (h2.at_ ad hd h0).2.1
    change _ = _ at hk
    omega)

set_option maxRecDepth 100000 in
set_option maxHeartbeats 3200000 in
theorem eventApplies (w : World) (cs : Array Value) (s : St) (h : StC w cs s) (ok : StOk s) (e : Ev) :
    Calls Try.prog 10 #[.agg cs, evV e] w (fun x w' => x = .returned (.bool true) ∧ Below w.heap.size w w') := by
  have b0 : Below w.heap.size w ((w.alloc (.cells cs 79)).alloc (.cells (evA e) 64)) := ((Below.refl _ w).alloc (Nat.le_refl _) _).alloc (by simp) _
  have oc := alloc_obj (x := .cells (evA e) 64) (alloc_new w (.cells cs 79))
  have oe := alloc_new (w.alloc (.cells cs 79)) (.cells (evA e) 64)
  rw [World.size_alloc] at oe
  have hsz := h.size
  obtain ⟨lb, hlb⟩ : ∃ lb, lb = longB s 410 := ⟨_, rfl⟩
  have Hlb := Lib.hid hlb
  have B0 := Lib.hid b0
  have Oc := Lib.hid oc
  have Oe := Lib.hid oe
  have H0 := Lib.hid (h.all b0)
  have Ok := Lib.hid ok
  have hz0 : ((w.alloc (.cells cs 79)).alloc (.cells (evA e) 64)).heap.size = w.heap.size + 2 := by simp
  have Hz0 := Lib.hid hz0
  clear b0 oc oe h ok hlb hz0
  go_enter Try.func10, Try.ntmps10
  go_wp2_with fail
  generalize ((w.alloc (.cells cs 79)).alloc (.cells (evA e) 64)) = w0 at *
  refine (alive12 _).mono ?_
  rintro x w1 ⟨rfl, hb1⟩
  have hw1 : w.heap.size + 2 ≤ w1.heap.size := by have := hb1.size; have := Hz0.out; omega
  have Oc1 := Lib.hid (below_obj hb1 Oc.out (obj_lt Oc.out))
  have Oe1 := Lib.hid (below_obj hb1 Oe.out (obj_lt Oe.out))
  have H1 := Lib.hid (H0.out.all hb1)
  have B1 := Lib.hid (B0.out.trans (hb1.mono B0.out.size))
  clear hb1
  go_wp2_with (refine wpList_load_whole rfl 79 (.tmp 2) rfl (w.heap.size) rfl 79 cs (0, 0) Oc1.out _ Try.underlying79 rfl (by rw [hsz]; exact Try.sizeSt) ?_)
  refine (long _ cs s H1.out 410 (by decide) lb Hlb.out).mono ?_
  rintro x w2 ⟨rfl, hb2⟩
  have Oc2 := Lib.hid (below_obj hb2 Oc1.out (obj_lt Oc1.out))
  have Oe2 := Lib.hid (below_obj hb2 Oe1.out (obj_lt Oe1.out))
  have H2 := Lib.hid (H1.out.all hb2)
  have B2 := Lib.hid (B1.out.trans (hb2.mono B1.out.size))
  have hw2 := hb2.size
  clear hb2
  cases lb
  rotate_left
  · go_wp2_with fail
    go_ret
    exact ⟨rfl, B2.out⟩
  have fits := longB_fits Ok.out Hlb.out.symm
  have Fi := Lib.hid (fits.mono (show 410 + 10 ≤ 100000 by decide))
  have F1 := Lib.hid (fits.mono (show 410 + 10 ≤ 99999 by decide))
  clear fits
  go_wp2_with (refine wpList_load_whole rfl 79 (.tmp 2) rfl (w.heap.size) rfl 79 cs (0, 0) Oc2.out _ Try.underlying79 rfl (by rw [hsz]; exact Try.sizeSt) ?_)
  refine (numCopy _ cs s H2.out (fun i hi => Fi.out.len i)).mono ?_
  rintro x w3 ⟨c5, rfl, h5, hb3⟩
  have hc5 := h5.size
  have Oc3 := Lib.hid (below_obj hb3 Oc2.out (obj_lt Oc2.out))
  have Oe3 := Lib.hid (below_obj hb3 Oe2.out (obj_lt Oe2.out))
  have H3 := Lib.hid (H2.out.all hb3)
  have B3 := Lib.hid (B2.out.trans (hb3.mono B2.out.size))
  have hw3 := hb3.size
  have H5 := Lib.hid h5
  have On3 := Lib.hid (alloc_new w3 (.cells zSt 79))
  clear hb3 h5
  go_wp2_with (first | (refine wpList_store_whole rfl 79 (.tmp 5) (.tmp 16) rfl (w3.heap.size) rfl 79 zSt c5 rfl On3.out (by rw [hc5]; exact Try.sizeSt) (by rw [hc5]; rfl) H5.out.c.one ?_; intro w4 hobj hupd; have hb4 := stored_below hupd; have Oc4 := Lib.hid (below_obj hb4 Oc3.out (obj_lt Oc3.out)); have Oe4 := Lib.hid (below_obj hb4 Oe3.out (obj_lt Oe3.out)); have H4 := Lib.hid (H3.out.all hb4); have H54 := Lib.hid (H5.out.c.all hb4); have B4 := Lib.hid (B3.out.trans (hb4.mono B3.out.size)); have hw4 := hb4.size; have O54 := Lib.hid hobj; have hp5 := obj_lt hobj; obtain ⟨x0, x1, x2, x3, x4, x5⟩ := EvCells.of Oe4.out; clear hb4 hobj hupd) | (refine wpList_load_whole rfl 79 (.tmp 2) rfl (w.heap.size) rfl 79 cs (0, 0) Oc4.out _ Try.underlying79 rfl (by rw [hsz]; exact Try.sizeSt) ?_))
  refine (apply _ cs s H4.out Ok.out Fi.out e).mono ?_
  rintro x w5 ⟨c6, rfl, h6, hb5⟩
  obtain ⟨n, hn⟩ : ∃ n, n = doN s e := ⟨_, rfl⟩
  rw [← hn] at h6 ⊢
  have Hn := Lib.hid hn
  obtain ⟨tt, htt⟩ : ∃ tt, tt = (if n = 0 then doS s e else st0) := ⟨_, rfl⟩
  rw [← htt] at h6
  have Htt := Lib.hid htt
  have hc6 := h6.size
  have Oc5 := Lib.hid (below_obj hb5 Oc4.out (obj_lt Oc4.out))
  have Oe5 := Lib.hid (below_obj hb5 Oe4.out (obj_lt Oe4.out))
  have O55 := Lib.hid (below_obj hb5 O54.out (obj_lt O54.out))
  have H55 := Lib.hid (H54.out.all hb5)
  have H05 := Lib.hid (H4.out.all hb5)
  have B5 := Lib.hid (B4.out.trans (hb5.mono B4.out.size))
  have hw5 := hb5.size
  have H6 := Lib.hid h6
  have On5 := Lib.hid (alloc_new w5 (.cells zSt 79))
  clear hb5 h6 hn htt x0 x1 x2 x3 x4 x5
  go_wp2_with (first | (refine wpList_store_whole rfl 79 (.tmp 6) (.tmp 21) rfl (w5.heap.size) rfl 79 zSt c6 rfl On5.out (by rw [hc6]; exact Try.sizeSt) (by rw [hc6]; rfl) H6.out.c.one ?_; intro w6 hobj hupd; have hb6 := stored_below hupd; have Oc6 := Lib.hid (below_obj hb6 Oc5.out (obj_lt Oc5.out)); have Oe6 := Lib.hid (below_obj hb6 Oe5.out (obj_lt Oe5.out)); have O56 := Lib.hid (below_obj hb6 O55.out (obj_lt O55.out)); have H06 := Lib.hid (H05.out.all hb6); have H56 := Lib.hid (H55.out.all hb6); have H66 := Lib.hid (H6.out.c.all hb6); have B6 := Lib.hid (B5.out.trans (hb6.mono B5.out.size)); have hw6 := hb6.size; have O66 := Lib.hid hobj; have hp6 := obj_lt hobj; obtain ⟨x0, x1, x2, x3, x4, x5⟩ := EvCells.of Oe6.out; clear hb6 hobj hupd) | (refine wpList_load_whole rfl 79 (.tmp 2) rfl (w.heap.size) rfl 79 cs (0, 0) Oc6.out _ Try.underlying79 rfl (by rw [hsz]; exact Try.sizeSt) ?_))
  refine (refApply _ cs s H06.out Ok.out Fi.out e).mono ?_
  rintro x w7 ⟨c8, rfl, h8, hb7⟩
  rw [← Hn.out] at h8 ⊢
  rw [← Htt.out] at h8
  have hc8 := h8.size
  have Oc7 := Lib.hid (below_obj hb7 Oc6.out (obj_lt Oc6.out))
  have Oe7 := Lib.hid (below_obj hb7 Oe6.out (obj_lt Oe6.out))
  have O57 := Lib.hid (below_obj hb7 O56.out (obj_lt O56.out))
  have O67 := Lib.hid (below_obj hb7 O66.out (obj_lt O66.out))
  have H07 := Lib.hid (H06.out.all hb7)
  have H57 := Lib.hid (H56.out.all hb7)
  have H67 := Lib.hid (H66.out.all hb7)
  have B7 := Lib.hid (B6.out.trans (hb7.mono B6.out.size))
  have hw7 := hb7.size
  have H8 := Lib.hid h8
  have On7 := Lib.hid (alloc_new w7 (.cells zSt 79))
  clear hb7 h8 x0 x1 x2 x3 x4 x5
  go_wp2_with (refine wpList_store_whole rfl 79 (.tmp 8) (.tmp 27) rfl (w7.heap.size) rfl 79 zSt c8 rfl On7.out (by rw [hc8]; exact Try.sizeSt) (by rw [hc8]; rfl) H8.out.c.one ?_; intro w8 hobj hupd; have hb8 := stored_below hupd; have Oc8 := Lib.hid (below_obj hb8 Oc7.out (obj_lt Oc7.out)); have Oe8 := Lib.hid (below_obj hb8 Oe7.out (obj_lt Oe7.out)); have O58 := Lib.hid (below_obj hb8 O57.out (obj_lt O57.out)); have O68 := Lib.hid (below_obj hb8 O67.out (obj_lt O67.out)); have H08 := Lib.hid (H07.out.all hb8); have H58 := Lib.hid (H57.out.all hb8); have H68 := Lib.hid (H67.out.all hb8); have H88 := Lib.hid (H8.out.c.all hb8); have B8 := Lib.hid (B7.out.trans (hb8.mono B7.out.size)); have hw8 := hb8.size; have O88 := Lib.hid hobj; have hp8 := obj_lt hobj; clear hb8 hobj hupd)
  have Ot : Hid (StOk tt) := Lib.hid (by
    rw [Htt.out]
    split
    · exact doS_ok Ok.out (by rw [← Hn.out]; assumption)
    · exact st0_ok)
  have hx : Below w8.heap.size w8 w8.drew := (Below.refl _ _).drew
  have HT := Lib.hid (fun (x : World) (hb : Below w8.heap.size w8 x) => (⟨below_obj hb Oc8.out (obj_lt Oc8.out), below_obj hb O58.out (obj_lt O58.out), below_obj hb O68.out (obj_lt O68.out), below_obj hb O88.out (obj_lt O88.out), EvCells.of (below_obj hb Oe8.out (obj_lt Oe8.out))⟩ : x.heap[w.heap.size]? = some (.cells cs 79 (0, 0)) ∧ x.heap[w3.heap.size]? = some (.cells c5 79 (0, 0)) ∧ x.heap[w5.heap.size]? = some (.cells c6 79 (0, 0)) ∧ x.heap[w7.heap.size]? = some (.cells c8 79 (0, 0)) ∧ x.cell? ⟨w.heap.size + 1, 0, none⟩ = some (.int .i64 e.k) ∧ x.cell? ⟨w.heap.size + 1, 1, none⟩ = some (.int .i64 e.a) ∧ x.cell? ⟨w.heap.size + 1, 2, none⟩ = some (.int .i64 e.b) ∧ x.cell? ⟨w.heap.size + 1, 3, none⟩ = some (.int .i64 e.c) ∧ x.cell? ⟨w.heap.size + 1, 4, none⟩ = some (.int .i64 e.d) ∧ x.cell? ⟨w.heap.size + 1, 5, none⟩ = some (.int .i64 e.e)))
  refine wp_region_held_drew (S := fun x => x.heap[w.heap.size]? = some (.cells cs 79 (0, 0)) ∧ x.heap[w3.heap.size]? = some (.cells c5 79 (0, 0)) ∧ x.heap[w5.heap.size]? = some (.cells c6 79 (0, 0)) ∧ x.heap[w7.heap.size]? = some (.cells c8 79 (0, 0)) ∧ x.cell? ⟨w.heap.size + 1, 0, none⟩ = some (.int .i64 e.k) ∧ x.cell? ⟨w.heap.size + 1, 1, none⟩ = some (.int .i64 e.a) ∧ x.cell? ⟨w.heap.size + 1, 2, none⟩ = some (.int .i64 e.b) ∧ x.cell? ⟨w.heap.size + 1, 3, none⟩ = some (.int .i64 e.c) ∧ x.cell? ⟨w.heap.size + 1, 4, none⟩ = some (.int .i64 e.d) ∧ x.cell? ⟨w.heap.size + 1, 5, none⟩ = some (.int .i64 e.e)) (by kernel_rfl) (HT.out _ hx) (fun hHeld => ?_)
  refine wpAnyH_take (i := 0) (oi := ⟨some 29, _, _, _, _, _⟩) rfl (by kernel_rfl) (by kernel_rfl) (by kernel_rfl) (fun _ _ _ h => h) (Or.inl ⟨by rfl, fun w' hw => exec_load_whole 79 (.tmp 6) rfl (w5.heap.size) rfl 79 c6 (0, 0) _ hw.2.2.1 Try.underlying79 rfl (by rw [hc6]; exact Try.sizeSt)⟩) hHeld ?_
  try simp only [Act.put, List.setIfInBounds_toArray, List.set_cons_zero, List.set_cons_succ]
  refine wpAnyH_take (i := 1) (oi := ⟨some 30, _, _, _, _, _⟩) rfl (by kernel_rfl) (by kernel_rfl) (by kernel_rfl) (fun _ _ _ h => h) (Or.inl ⟨by rfl, fun w' hw => exec_load_whole 79 (.tmp 8) rfl (w7.heap.size) rfl 79 c8 (0, 0) _ hw.2.2.2.1 Try.underlying79 rfl (by rw [hc8]; exact Try.sizeSt)⟩) hHeld ?_
  try simp only [Act.put, List.setIfInBounds_toArray, List.set_cons_zero, List.set_cons_succ]
  refine wpAnyH_all (rs := [2]) (by kernel_rfl) (by simp) ?_
  intro ix hix
  obtain rfl : ix = 2 := by simpa using hix
  clear hix
  refine wpOp_step (o := ⟨some 31, _, _, _, _, _⟩) rfl (fun K hK => ?_)
  have HK := Lib.hid hK
  clear hK
  go_simp
  refine (states _ _ _ _ _ (H68.out.all hx) (H88.out.all hx) Ot.out Ot.out true (stEq_self _).symm).mono ?_
  rintro x wn ⟨rfl, hb⟩
  replace hx := hx.trans (hb.mono hx.size)
  clear hb
  go_wp2_with fail
  refine HK.out _ _ ⟨(HT.out _ hx), ?_⟩
  clear HK
  try clear hHeld
  have hHeld := (HT.out _ hx)
  try simp only [Act.put, List.setIfInBounds_toArray, List.set_cons_zero, List.set_cons_succ]
  refine wpAnyH_take (i := 3) (oi := ⟨some 32, _, _, _, _, _⟩) (v := ?_) rfl (by kernel_rfl) (by kernel_rfl) (by kernel_rfl) (fun _ _ _ h => h) (Or.inl ⟨by rfl, ?_⟩) hHeld ?_
  rotate_left
  · intro w' hS'
    (try dsimp only at hS')
    go_simp
    try with_reducible rfl
  try simp only [Act.put, List.setIfInBounds_toArray, List.set_cons_zero, List.set_cons_succ]
  refine wpAnyH_take (i := 4) (oi := ⟨some 33, _, _, _, _, _⟩) (v := ?_) rfl (by kernel_rfl) (by kernel_rfl) (by kernel_rfl) (fun _ _ _ h => h) (Or.inl ⟨by rfl, ?_⟩) hHeld ?_
  rotate_left
  · intro w' hS'
    (try dsimp only at hS')
    go_simp
    try with_reducible rfl
  try simp only [Act.put, List.setIfInBounds_toArray, List.set_cons_zero, List.set_cons_succ]
  refine wpAnyH_take (i := 5) (oi := ⟨some 34, _, _, _, _, _⟩) (v := ?_) rfl (by kernel_rfl) (by kernel_rfl) (by kernel_rfl) (fun _ _ _ h => h) (Or.inl ⟨by rfl, ?_⟩) hHeld ?_
  rotate_left
  · intro w' hS'
    (try dsimp only at hS')
    go_simp
    try with_reducible rfl
  try simp only [Act.put, List.setIfInBounds_toArray, List.set_cons_zero, List.set_cons_succ]
  refine wpAnyH_take (i := 7) (oi := ⟨some 36, _, _, _, _, _⟩) (v := ?_) rfl (by kernel_rfl) (by kernel_rfl) (by kernel_rfl) (fun _ _ _ h => h) (Or.inl ⟨by rfl, ?_⟩) hHeld ?_
  rotate_left
  · intro w' hS'
    (try dsimp only at hS')
    go_simp
    try with_reducible rfl
  try simp only [Act.put, List.setIfInBounds_toArray, List.set_cons_zero, List.set_cons_succ]
  refine wpAnyH_all (rs := [6]) (by kernel_rfl) (by simp) ?_
  intro ix hix
  obtain rfl : ix = 6 := by simpa using hix
  clear hix
  refine wpOp_step (o := ⟨some 35, _, _, _, _, _⟩) rfl (fun K hK => ?_)
  have HK := Lib.hid hK
  clear hK
  go_simp
  refine (num _ _).mono ?_
  rintro x wn ⟨rfl, rfl⟩
  go_wp2_with fail
  refine HK.out _ _ ⟨(HT.out _ hx), ?_⟩
  clear HK
  try clear hHeld
  have hHeld := (HT.out _ hx)
  try simp only [Act.put, List.setIfInBounds_toArray, List.set_cons_zero, List.set_cons_succ]
  refine wpAnyH_take (i := 8) (oi := ⟨some 37, _, _, _, _, _⟩) (v := ?_) rfl (by kernel_rfl) (by kernel_rfl) (by kernel_rfl) (fun _ _ _ h => h) (Or.inl ⟨by rfl, ?_⟩) hHeld ?_
  rotate_left
  · intro w' hS'
    (try dsimp only at hS')
    go_simp
    try with_reducible rfl
  try simp only [Act.put, List.setIfInBounds_toArray, List.set_cons_zero, List.set_cons_succ]
  refine wpAnyH_take (i := 9) (oi := ⟨some 38, _, _, _, _, _⟩) (v := ?_) rfl (by kernel_rfl) (by kernel_rfl) (by kernel_rfl) (fun _ _ _ h => h) (Or.inl ⟨by rfl, ?_⟩) hHeld ?_
  rotate_left
  · intro w' hS'
    (try dsimp only at hS')
    go_simp
    try with_reducible rfl
  try simp only [Act.put, List.setIfInBounds_toArray, List.set_cons_zero, List.set_cons_succ]
  refine wpAnyH_take (i := 10) (oi := ⟨some 39, _, _, _, _, _⟩) (v := ?_) rfl (by kernel_rfl) (by kernel_rfl) (by kernel_rfl) (fun _ _ _ h => h) (Or.inl ⟨by rfl, ?_⟩) hHeld ?_
  rotate_left
  · intro w' hS'
    (try dsimp only at hS')
    go_simp
    try with_reducible rfl
  try simp only [Act.put, List.setIfInBounds_toArray, List.set_cons_zero, List.set_cons_succ]
  refine wpAnyH_take (i := 11) (oi := ⟨some 40, _, _, _, _, _⟩) rfl (by kernel_rfl) (by kernel_rfl) (by kernel_rfl) (fun _ _ _ h => h) (Or.inl ⟨by rfl, fun w' hw => exec_load_whole 79 (.tmp 2) rfl (w.heap.size) rfl 79 cs (0, 0) _ hw.1 Try.underlying79 rfl (by rw [hsz]; exact Try.sizeSt)⟩) hHeld ?_
  try simp only [Act.put, List.setIfInBounds_toArray, List.set_cons_zero, List.set_cons_succ]
  refine wpAnyH_take (i := 12) (oi := ⟨some 41, _, _, _, _, _⟩) rfl (by kernel_rfl) (by kernel_rfl) (by kernel_rfl) (fun _ _ _ h => h) (Or.inl ⟨by rfl, fun w' hw => exec_load_whole 79 (.tmp 5) rfl (w3.heap.size) rfl 79 c5 (0, 0) _ hw.2.1 Try.underlying79 rfl (by rw [hc5]; exact Try.sizeSt)⟩) hHeld ?_
  try simp only [Act.put, List.setIfInBounds_toArray, List.set_cons_zero, List.set_cons_succ]
  refine wpAnyH_all (rs := [13]) (by kernel_rfl) (by simp) ?_
  intro ix hix
  obtain rfl : ix = 13 := by simpa using hix
  clear hix
  refine wpOp_step (o := ⟨some 42, _, _, _, _, _⟩) rfl (fun K hK => ?_)
  have HK := Lib.hid hK
  clear hK
  go_simp
  refine (states _ _ _ _ _ (H08.out.all hx) (H58.out.all hx) Ok.out Ok.out true (stEq_self _).symm).mono ?_
  rintro x wn ⟨rfl, hb⟩
  replace hx := hx.trans (hb.mono hx.size)
  clear hb
  go_wp2_with fail
  refine HK.out _ _ ⟨(HT.out _ hx), ?_⟩
  clear HK
  try clear hHeld
  have hHeld := (HT.out _ hx)
  try simp only [Act.put, List.setIfInBounds_toArray, List.set_cons_zero, List.set_cons_succ]
  refine wpAnyH_take (i := 14) (oi := ⟨some 43, _, _, _, _, _⟩) (v := ?_) rfl (by kernel_rfl) (by kernel_rfl) (by kernel_rfl) (fun _ _ _ h => h) (Or.inl ⟨by rfl, ?_⟩) hHeld ?_
  rotate_left
  · intro w' hS'
    (try dsimp only at hS')
    go_simp
    try with_reducible rfl
  try simp only [Act.put, List.setIfInBounds_toArray, List.set_cons_zero, List.set_cons_succ]
  refine wpAnyH_take (i := 15) (oi := ⟨some 44, _, _, _, _, _⟩) (v := ?_) rfl (by kernel_rfl) (by kernel_rfl) (by kernel_rfl) (fun _ _ _ h => h) (Or.inl ⟨by rfl, ?_⟩) hHeld ?_
  rotate_left
  · intro w' hS'
    (try dsimp only at hS')
    go_simp
    try with_reducible rfl
  try simp only [Act.put, List.setIfInBounds_toArray, List.set_cons_zero, List.set_cons_succ]
  refine wpAnyH_take (i := 16) (oi := ⟨some 45, _, _, _, _, _⟩) (v := ?_) rfl (by kernel_rfl) (by kernel_rfl) (by kernel_rfl) (fun _ _ _ h => h) (Or.inl ⟨by rfl, ?_⟩) hHeld ?_
  rotate_left
  · intro w' hS'
    (try dsimp only at hS')
    go_simp
    try with_reducible rfl
  try simp only [Act.put, List.setIfInBounds_toArray, List.set_cons_zero, List.set_cons_succ]
  refine wpAnyH_take (i := 17) (oi := ⟨some 46, _, _, _, _, _⟩) (v := ?_) rfl (by kernel_rfl) (by kernel_rfl) (by kernel_rfl) (fun _ _ _ h => h) (Or.inl ⟨by rfl, ?_⟩) hHeld ?_
  rotate_left
  · intro w' hS'
    (try dsimp only at hS')
    go_simp
    try with_reducible rfl
  try simp only [Act.put, List.setIfInBounds_toArray, List.set_cons_zero, List.set_cons_succ]
  refine wpAnyH_take (i := 20) (oi := ⟨some 49, _, _, _, _, _⟩) (v := ?_) rfl (by kernel_rfl) (by kernel_rfl) (by kernel_rfl) (fun _ _ _ h => h) (Or.inl ⟨by rfl, ?_⟩) hHeld ?_
  rotate_left
  · intro w' hS'
    (try dsimp only at hS')
    go_simp
    try with_reducible rfl
  try simp only [Act.put, List.setIfInBounds_toArray, List.set_cons_zero, List.set_cons_succ]
  refine wpAnyH_all (rs := [18]) (by kernel_rfl) (by simp) ?_
  intro ix hix
  obtain rfl : ix = 18 := by simpa using hix
  clear hix
  refine wpOp_step (o := ⟨some 47, _, _, _, _, _⟩) rfl (fun K hK => ?_)
  have HK := Lib.hid hK
  clear hK
  go_simp
  refine (check _ e).mono ?_
  rintro x wn ⟨rfl, hb⟩
  replace hx := hx.trans (hb.mono hx.size)
  clear hb
  go_wp2_with fail
  refine HK.out _ _ ⟨(HT.out _ hx), ?_⟩
  clear HK
  try clear hHeld
  have hHeld := (HT.out _ hx)
  try simp only [Act.put, List.setIfInBounds_toArray, List.set_cons_zero, List.set_cons_succ]
  refine wpAnyH_all (rs := [19]) (by kernel_rfl) (by simp) ?_
  intro ix hix
  obtain rfl : ix = 19 := by simpa using hix
  clear hix
  refine wpOp_step (o := ⟨some 48, _, _, _, _, _⟩) rfl (fun K hK => ?_)
  have HK := Lib.hid hK
  clear hK
  go_simp
  refine (num _ _).mono ?_
  rintro x wn ⟨rfl, rfl⟩
  go_wp2_with fail
  refine HK.out _ _ ⟨(HT.out _ hx), ?_⟩
  clear HK
  try clear hHeld
  have hHeld := (HT.out _ hx)
  try simp only [Act.put, List.setIfInBounds_toArray, List.set_cons_zero, List.set_cons_succ]
  refine wpAnyH_all (rs := [21]) (by kernel_rfl) (by simp) ?_
  intro ix hix
  obtain rfl : ix = 21 := by simpa using hix
  clear hix
  refine wpOp_step (o := ⟨some 50, _, _, _, _, _⟩) rfl (fun K hK => ?_)
  have HK := Lib.hid hK
  clear hK
  go_simp
  refine (refCheck _ e).mono ?_
  rintro x wn ⟨rfl, hb⟩
  replace hx := hx.trans (hb.mono hx.size)
  clear hb
  go_wp2_with fail
  refine HK.out _ _ ⟨(HT.out _ hx), ?_⟩
  clear HK
  try clear hHeld
  have hHeld := (HT.out _ hx)
  try simp only [Act.put, List.setIfInBounds_toArray, List.set_cons_zero, List.set_cons_succ]
  refine wpAnyH_take (i := 22) (oi := ⟨some 51, _, _, _, _, _⟩) (v := ?_) rfl (by kernel_rfl) (by kernel_rfl) (by kernel_rfl) (fun _ _ _ h => h) (Or.inl ⟨by rfl, ?_⟩) hHeld ?_
  rotate_left
  · intro w' hS'
    (try dsimp only at hS')
    go_simp
    try with_reducible rfl
  try simp only [Act.put, List.setIfInBounds_toArray, List.set_cons_zero, List.set_cons_succ]
  refine wpAnyH_take (i := 23) (oi := ⟨some 52, _, _, _, _, _⟩) (v := ?_) rfl (by kernel_rfl) (by kernel_rfl) (by kernel_rfl) (fun _ _ _ h => h) (Or.inl ⟨by rfl, ?_⟩) hHeld ?_
  rotate_left
  · intro w' hS'
    (try dsimp only at hS')
    go_simp
    try with_reducible rfl
  try simp only [Act.put, List.setIfInBounds_toArray, List.set_cons_zero, List.set_cons_succ]
  refine wpAnyH_done (by kernel_rfl) ?_ _
  clear hHeld
  have Oc9 := Lib.hid (HT.out _ hx).1
  have O59 := Lib.hid (HT.out _ hx).2.1
  have O89 := Lib.hid (HT.out _ hx).2.2.2.1
  have Oe9 := Lib.hid (below_obj hx Oe8.out (obj_lt Oe8.out))
  have H09 := Lib.hid (H08.out.all hx)
  have H59 := Lib.hid (H58.out.all hx)
  have H89 := Lib.hid (H88.out.all hx)
  have B9 := Lib.hid (B8.out.trans (hx.mono B8.out.size))
  have hw9 := hx.size
  clear hx HT
  generalize wn = w9 at *
  go_wp2_with (refine wpList_load_whole rfl 79 (.tmp 2) rfl (w.heap.size) rfl 79 cs (0, 0) Oc9.out _ Try.underlying79 rfl (by rw [hsz]; exact Try.sizeSt) ?_)
  refine (numCopy _ cs s H09.out (fun i hi => Fi.out.len i)).mono ?_
  rintro x wa ⟨cu, rfl, hu, hba⟩
  have hcu := hu.size
  have O5a := Lib.hid (below_obj hba O59.out (obj_lt O59.out))
  have O8a := Lib.hid (below_obj hba O89.out (obj_lt O89.out))
  have Oea := Lib.hid (below_obj hba Oe9.out (obj_lt Oe9.out))
  have H5a := Lib.hid (H59.out.all hba)
  have H8a := Lib.hid (H89.out.all hba)
  have Ba := Lib.hid (B9.out.trans (hba.mono B9.out.size))
  have hwa := hba.size
  have Hu := Lib.hid hu
  have Ona := Lib.hid (alloc_new wa (.cells zSt 79))
  clear hba hu
  go_wp2_with (refine wpList_store_whole rfl 79 (.tmp 10) (.tmp 54) rfl (wa.heap.size) rfl 79 zSt cu rfl Ona.out (by rw [hcu]; exact Try.sizeSt) (by rw [hcu]; rfl) Hu.out.c.one ?_; intro wb hobj hupd; have hbb := stored_below hupd; have O5b := Lib.hid (below_obj hbb O5a.out (obj_lt O5a.out)); have O8b := Lib.hid (below_obj hbb O8a.out (obj_lt O8a.out)); have H5b := Lib.hid (H5a.out.all hbb); have H8b := Lib.hid (H8a.out.all hbb); have Bb := Lib.hid (Ba.out.trans (hbb.mono Ba.out.size)); have hwb := hbb.size; have Hst := Lib.hid (StAt.stored Hu.out hobj hupd); obtain ⟨x0, x1, x2, x3, x4, x5⟩ := EvCells.of (below_obj hbb Oea.out (obj_lt Oea.out)); clear hbb hobj hupd)
  refine (do_ _ _ _ _ s Hst.out Ok.out (by omega) Fi.out e).mono ?_
  rintro x wc ⟨rfl, huc, cd, hst⟩
  rw [← Hn.out] at hst ⊢
  have hp5 := obj_lt O5a.out
  have hp8 := obj_lt O8a.out
  have O5c := Lib.hid (huc.obj O5b.out (by intro hq; change _ = _ at hq; omega))
  have O8c := Lib.hid (huc.obj O8b.out (by intro hq; change _ = _ at hq; omega))
  have Bc := Lib.hid (Bb.out.trans (huc.below (by have := Bb.out.size; omega) (fun k hk hq => by change _ = _ at hq; have := Ba.out.size; omega)))
  have H5c := Lib.hid (StC.over H5a.out H5b.out huc)
  have H8c := Lib.hid (StC.over H8a.out H8b.out huc)
  have hcd := hst.own.size
  have Hstc := Lib.hid hst
  clear hst huc x0 x1 x2 x3 x4 x5
  go_wp2_with fail
  refine (num _ _).mono ?_
  rintro x wn ⟨rfl, rfl⟩
  by_cases hn0 : n = 0
  · subst hn0
    have htt : tt = doS s e := by rw [Htt.out, if_pos rfl]
    have Hc := Hstc.out.own.c
    rw [if_pos rfl, ← htt] at Hc
    have HC := Lib.hid Hc
    clear Hc htt
    go_wp2_with (first | (refine wpList_load_wholeG rfl 79 (.tmp 10) rfl (wa.heap.size) rfl 79 cd (0, 0) Hstc.out.obj _ Try.underlying79 rfl (by rw [hcd]; exact Try.sizeSt) ?_) | (refine wpList_load_wholeG rfl 79 (.tmp 8) rfl (w7.heap.size) rfl 79 c8 (0, 0) O8c.out _ Try.underlying79 rfl (by rw [hc8]; exact Try.sizeSt) ?_))
    refine (states _ _ _ _ _ HC.out H8c.out Ot.out Ot.out true (stEq_self _).symm).mono ?_
    rintro x wn ⟨rfl, hb⟩
    have Bd := Lib.hid (Bc.out.trans (hb.mono Bc.out.size))
    clear hb
    go_wp2_with fail
    go_ret
    exact ⟨rfl, Bd.out⟩
  · have hn1 : (n != 0) = true := by simp [hn0]
    have hn2 : (n == 0) = false := by simp [hn0]
    have Hc := Hstc.out.own.c
    rw [if_neg hn0] at Hc
    have HC := Lib.hid Hc
    clear Hc hn0
    go_wp2_with (first | (refine wpList_load_wholeG rfl 79 (.tmp 10) rfl (wa.heap.size) rfl 79 cd (0, 0) Hstc.out.obj _ Try.underlying79 rfl (by rw [hcd]; exact Try.sizeSt) ?_) | (refine wpList_load_wholeG rfl 79 (.tmp 5) rfl (w3.heap.size) rfl 79 c5 (0, 0) O5c.out _ Try.underlying79 rfl (by rw [hc5]; exact Try.sizeSt) ?_))
    refine (states _ _ _ _ _ HC.out H5c.out Ok.out Ok.out true (stEq_self _).symm).mono ?_
    rintro x wn ⟨rfl, hb⟩
    have Bd := Lib.hid (Bc.out.trans (hb.mono Bc.out.size))
    clear hb
    go_wp2_with fail
    go_ret
    exact ⟨rfl, Bd.out⟩
end Go.Proofs.Ytpbocficffbcbaa
