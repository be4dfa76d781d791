import Derived.Test.YtpbocficffbcbaaNumCopy
import Derived.Test.YtpbocficffbcbaaEv4
import Derived.Test.YtpbocficffbcbaaDoG
import Derived.Test.YtpbocficffbcbaaHeldT
import Derived.Test.YtpbocficffbcbaaRefP
import Derived.Test.YtpbocficffbcbaaList3
namespace Go.Proofs.Ytpbocficffbcbaa
open Go Go.RowKit
set_option linter.unusedVariables false

set_option maxRecDepth 100000 in
set_option maxHeartbeats 1600000 in
theorem refMoveNone (w : World) (cs : Array Value) (s t : St) (h : StC w cs s) (ok : StOk s) (fits : Fits s 100000) (e : Ev) (hk : chk e = 0) (r : Int) (ea : Nat) (h0 : e.k = 1) (h1 : e.a = ea) (hlen : s.o.length ≤ ea) (hr : r = 4) :
    Calls Try.prog 58 #[.agg cs, evV e] w (RefTo w t r) := by
  have hsz : cs.size = 37 := h.size
  have b1 : Below w.heap.size w (((w.alloc (.cells cs 79)).alloc (.cells (evA e) 64)).alloc (.cells zSt 79)) := ((((Below.refl _ w).alloc (Nat.le_refl _) _).alloc (by simp) _).alloc (by simp; omega) _)
  have oc := alloc_obj (x := .cells zSt 79) (alloc_obj (x := .cells (evA e) 64) (alloc_new w (.cells cs 79)))
  have oe := alloc_obj (x := .cells zSt 79) (alloc_new (w.alloc (.cells cs 79)) (.cells (evA e) 64))
  have oz := alloc_new ((w.alloc (.cells cs 79)).alloc (.cells (evA e) 64)) (.cells zSt 79)
  simp only [World.size_alloc] at oe oz
  have Oc := Lib.hid oc
  have Oe := Lib.hid oe
  have Oz := Lib.hid oz
  have H1 := Lib.hid (h.all b1)
  have Hb1 := Lib.hid b1
  have Hk := Lib.hid hk
  have Ok := Lib.hid ok
  have Fi := Lib.hid fits
  have hfo := fits.o
  have H_h0 := Lib.hid h0
  clear h0
  have H_h1 := Lib.hid h1
  clear h1
  have H_hr := Lib.hid hr
  clear hr
  clear oc oe oz b1 h hk ok fits
  go_enter Try.func58, Try.ntmps58
  go_wp2_with fail
  refine (refCheck _ e).mono ?_
  rintro x w1 ⟨rfl, hb1⟩
  rw [Hk.out]
  have Oc1 := Lib.hid (below_obj hb1 Oc.out (by simp; omega))
  have Oe1 := Lib.hid (below_obj hb1 Oe.out (by simp))
  have Oz1 := Lib.hid (below_obj hb1 Oz.out (by simp))
  have H2 := Lib.hid (H1.out.all hb1)
  have Hb2 := Lib.hid (Hb1.out.trans (hb1.mono (by simp; omega)))
  have hw1 : w.heap.size + 3 ≤ w1.heap.size := by have := hb1.size; simp at this; omega
  clear hb1
  go_wp2_with (refine wpList_load_whole rfl 79 (.tmp 2) rfl w.heap.size rfl 79 cs (0, 0) Oc1.out _ Try.underlying79 rfl (by rw [hsz]; exact Try.sizeSt) ?_)
  refine (numCopy _ cs s H2.out (fun i hi => Fi.out.len i)).mono ?_
  rintro x wa ⟨cz, rfl, hown, hba⟩
  have hcz : cz.size = 37 := hown.size
  have On1 := Lib.hid (alloc_new wa (.cells zSt 79))
  have hwa := hba.size
  have Hba := Lib.hid hba
  have Hown := Lib.hid hown
  clear hba hown
  go_wp2_with (first | (refine wpList_store_whole rfl 79 (.tmp 7) (.tmp 19) rfl wa.heap.size rfl 79 zSt cz rfl On1.out (by rw [hcz]; exact Try.sizeSt) (by rw [hcz]; rfl) Hown.out.c.one ?_; intro wb hobj hupd; have Hst := Lib.hid (StAt.stored Hown.out hobj hupd); have hwb := hupd.size; rw [World.size_alloc] at hwb; have Oeb := Lib.hid (hupd.obj (alloc_obj (x := .cells zSt 79) (below_obj Hba.out Oe1.out (by omega))) (by intro hq; change _ = _ at hq; omega)); have Ozb := Lib.hid (hupd.obj (alloc_obj (x := .cells zSt 79) (below_obj Hba.out Oz1.out (by omega))) (by intro hq; change _ = _ at hq; omega)); have Hbb := Lib.hid (Hb2.out.trans ((Hba.out.mono (by omega)).trans ((((Below.refl _ wa).alloc (Nat.le_refl _) _).mono (by omega)).trans (hupd.below (by simp; omega) (fun k hk hb => by change _ = _ at hb; omega))))); obtain ⟨a0, c0, h0, r0, f0⟩ := Hst.out.own.sz0; have k0 := (obj_cell Hst.out.obj 0).trans h0; have hc0 := r0.le; have hm0 := r0.max; unfold maxLen at hm0; have R0 := Lib.hid r0; have H0 := Lib.hid h0; obtain ⟨x0, x1, x2, x3, x4, x5⟩ := EvCells.layR (EvCells.of Oeb.out) H_h0.out H_h1.out rfl rfl rfl rfl; clear hobj hupd h0 r0 f0) | (refine wpList_store_whole rfl 79 (.tmp 4) (.tmp 144) rfl (w.heap.size + 1 + 1) rfl 79 zSt zSt rfl Ozb.out Try.sizeSt rfl (zSt_O 0 w).c.one ?_; intro wz hobj hupdz))
  refine bodyPost_ret (results_cell_slot rfl _ wz (w.heap.size + 1 + 1) 79 zSt (0, 0) _ rfl hobj Try.underlying79 rfl Try.sizeSt) rfl ?_
  exact ⟨zSt, by rw [H_hr.out]; rfl, by rw [H_hr.out, if_neg (by decide)]; exact zSt_O _ _, (Hbb.out).trans (hupdz.below (by have := Hbb.out.size; have := (Hbb.out).size; omega) (fun k hk hb => by change _ = _ at hb; omega))⟩

set_option maxRecDepth 100000 in
set_option maxHeartbeats 6400000 in
theorem refMove (w : World) (cs : Array Value) (s t : St) (h : StC w cs s) (ok : StOk s) (fits : Fits s 100000) (e : Ev) (hk : chk e = 0) (r : Int) (ea eb ec ed ef : Nat) (hb11 : eb < 11) (hd11 : ed < 11) (h0 : e.k = 1) (h1 : e.a = ea) (h2 : e.b = eb) (h3 : e.c = ec) (h4 : e.d = ed) (h5 : e.e = ef) (hlen' : ea < s.o.length) (hr : r = if mvB s e then (if ((mvTo s e).length : Int) < e.e then 1 else 0) else 20) (ht : t = mvS s e) :
    Calls Try.prog 58 #[.agg cs, evV e] w (RefTo w t r) := by
  have hsz : cs.size = 37 := h.size
  have b1 : Below w.heap.size w (((w.alloc (.cells cs 79)).alloc (.cells (evA e) 64)).alloc (.cells zSt 79)) := ((((Below.refl _ w).alloc (Nat.le_refl _) _).alloc (by simp) _).alloc (by simp; omega) _)
  have oc := alloc_obj (x := .cells zSt 79) (alloc_obj (x := .cells (evA e) 64) (alloc_new w (.cells cs 79)))
  have oe := alloc_obj (x := .cells zSt 79) (alloc_new (w.alloc (.cells cs 79)) (.cells (evA e) 64))
  have oz := alloc_new ((w.alloc (.cells cs 79)).alloc (.cells (evA e) 64)) (.cells zSt 79)
  simp only [World.size_alloc] at oe oz
  have Oc := Lib.hid oc
  have Oe := Lib.hid oe
  have Oz := Lib.hid oz
  have H1 := Lib.hid (h.all b1)
  have Hb1 := Lib.hid b1
  have Hk := Lib.hid hk
  have Ok := Lib.hid ok
  have Fi := Lib.hid fits
  have hfo := fits.o
  have H_h0 := Lib.hid h0
  clear h0
  have H_h1 := Lib.hid h1
  clear h1
  have H_h2 := Lib.hid h2
  clear h2
  have H_h3 := Lib.hid h3
  clear h3
  have H_h4 := Lib.hid h4
  clear h4
  have H_h5 := Lib.hid h5
  clear h5
  have H_hr := Lib.hid hr
  clear hr
  have H_ht := Lib.hid ht
  clear ht
  clear oc oe oz b1 h hk ok fits
  go_enter Try.func58, Try.ntmps58
  go_wp2_with fail
  refine (refCheck _ e).mono ?_
  rintro x w1 ⟨rfl, hb1⟩
  rw [Hk.out]
  have Oc1 := Lib.hid (below_obj hb1 Oc.out (by simp; omega))
  have Oe1 := Lib.hid (below_obj hb1 Oe.out (by simp))
  have Oz1 := Lib.hid (below_obj hb1 Oz.out (by simp))
  have H2 := Lib.hid (H1.out.all hb1)
  have Hb2 := Lib.hid (Hb1.out.trans (hb1.mono (by simp; omega)))
  have hw1 : w.heap.size + 3 ≤ w1.heap.size := by have := hb1.size; simp at this; omega
  clear hb1
  go_wp2_with (refine wpList_load_whole rfl 79 (.tmp 2) rfl w.heap.size rfl 79 cs (0, 0) Oc1.out _ Try.underlying79 rfl (by rw [hsz]; exact Try.sizeSt) ?_)
  refine (numCopy _ cs s H2.out (fun i hi => Fi.out.len i)).mono ?_
  rintro x wa ⟨cz, rfl, hown, hba⟩
  have hcz : cz.size = 37 := hown.size
  have On1 := Lib.hid (alloc_new wa (.cells zSt 79))
  have hwa := hba.size
  have Hba := Lib.hid hba
  have Hown := Lib.hid hown
  clear hba hown
  go_wp2_with (first | (refine wpList_store_whole rfl 79 (.tmp 7) (.tmp 19) rfl wa.heap.size rfl 79 zSt cz rfl On1.out (by rw [hcz]; exact Try.sizeSt) (by rw [hcz]; rfl) Hown.out.c.one ?_; intro wb hobj hupd; have Hst := Lib.hid (StAt.stored Hown.out hobj hupd); have hwb := hupd.size; rw [World.size_alloc] at hwb; have Oeb := Lib.hid (hupd.obj (alloc_obj (x := .cells zSt 79) (below_obj Hba.out Oe1.out (by omega))) (by intro hq; change _ = _ at hq; omega)); have Ozb := Lib.hid (hupd.obj (alloc_obj (x := .cells zSt 79) (below_obj Hba.out Oz1.out (by omega))) (by intro hq; change _ = _ at hq; omega)); have Hbb := Lib.hid (Hb2.out.trans ((Hba.out.mono (by omega)).trans ((((Below.refl _ wa).alloc (Nat.le_refl _) _).mono (by omega)).trans (hupd.below (by simp; omega) (fun k hk hb => by change _ = _ at hb; omega))))); obtain ⟨a0, c0, h0, r0, f0⟩ := Hst.out.own.sz0; have k0 := (obj_cell Hst.out.obj 0).trans h0; have hc0 := r0.le; have hm0 := r0.max; unfold maxLen at hm0; have R0 := Lib.hid r0; have H0 := Lib.hid h0; obtain ⟨x0, x1, x2, x3, x4, x5⟩ := EvCells.layR (EvCells.of Oeb.out) H_h0.out H_h1.out H_h2.out H_h3.out H_h4.out H_h5.out; clear hobj hupd h0 r0 f0))
  clear x0 x1 x2 x3 x4 x5 k0
  obtain ⟨ab, cb, h1, r1, f1⟩ := Hst.out.own.szl eb hb11
  have hlb := Fi.out.l eb
  obtain ⟨lb, hlb2⟩ : ∃ lb, lb = s.l.getD eb [] := ⟨_, rfl⟩
  rw [← hlb2] at h1 r1 hlb
  have k1 := (obj_cell Hst.out.obj (1 + eb)).trans h1
  obtain ⟨nb, hnb⟩ : ∃ nb, nb = lb.length := ⟨_, rfl⟩
  rw [← hnb] at k1 hlb r1
  have hcb := r1.le
  have hmb := r1.max
  unfold maxLen at hmb
  have R1 := Lib.hid r1
  have Hlb := Lib.hid hlb2
  have Hnb := Lib.hid hnb
  have K1 := Lib.hid k1
  have hmv : mvB s e = (decide (ec < nb) && decide (lb.getD ec 0 = (ea : Int))) := by rw [mvB, H_h1.out, H_h2.out, H_h3.out, Hnb.out, Hlb.out]; simp [lst]
  have Hmv := Lib.hid hmv
  clear hmv h1 r1 f1 hlb2 hnb k1
  have HE := Lib.hid (fun (x : World) (hb : Below wb.heap.size wb x) => EvCells.layR (EvCells.of (below_obj hb Oeb.out (obj_lt Oeb.out))) H_h0.out H_h1.out H_h2.out H_h3.out H_h4.out H_h5.out)
  have hbi : (eb : Int) < 11 := by omega
  have hdi : (ed : Int) < 11 := by omega
  have hy : Below wb.heap.size wb wb.drew := (Below.refl _ _).drew
  by_cases hcn : ec < nb
  rotate_left
  · have HT := Lib.hid (And.intro (show wb.drew.cell? ⟨wa.heap.size, 1 + eb, none⟩ = some (.slice ab nb cb) from K1.out) (HE.out _ hy))
    have hcn' : (nb : Int) ≤ (ec : Int) := by omega
    have hcn2 : nb ≤ ec := by omega
    have Hr2 := Lib.hid (show r = 20 by rw [H_hr.out, Hmv.out, if_neg (by simp [hcn])])
    refine wp_region_held_drew (S := fun x => x.cell? ⟨wa.heap.size, 1 + eb, none⟩ = some (.slice ab nb cb) ∧ x.cell? ⟨w.heap.size + 1, 0, none⟩ = some (.int .i64 1) ∧ x.cell? ⟨w.heap.size + 1, 1, none⟩ = some (.int .i64 (ea : Int)) ∧ x.cell? ⟨w.heap.size + 1, 2, none⟩ = some (.int .i64 (eb : Int)) ∧ x.cell? ⟨w.heap.size + 1, 3, none⟩ = some (.int .i64 (ec : Int)) ∧ x.cell? ⟨w.heap.size + 1, 4, none⟩ = some (.int .i64 (ed : Int)) ∧ x.cell? ⟨w.heap.size + 1, 5, none⟩ = some (.int .i64 (ef : Int))) (by kernel_rfl) HT.out (fun hHeld => ?_)
    refine wpAnyH_take (i := 0) (oi := ⟨some 145, _, _, _, _, _⟩) (v := ?_) rfl (by kernel_rfl) (by kernel_rfl) (by kernel_rfl) (fun _ _ _ h => h) (Or.inl ⟨by rfl, ?_⟩) hHeld ?_
    rotate_left
    · intro w' hS'
      (try dsimp only at hS')
      go_simp
      try with_reducible rfl
    try simp only [Act.put, List.setIfInBounds_toArray, List.set_cons_zero, List.set_cons_succ]
    refine wpAnyH_take (i := 1) (oi := ⟨some 146, _, _, _, _, _⟩) (v := ?_) rfl (by kernel_rfl) (by kernel_rfl) (by kernel_rfl) (fun _ _ _ h => h) (Or.inl ⟨by rfl, ?_⟩) hHeld ?_
    rotate_left
    · intro w' hS'
      (try dsimp only at hS')
      go_simp
      try with_reducible rfl
    try simp only [Act.put, List.setIfInBounds_toArray, List.set_cons_zero, List.set_cons_succ]
    refine wpAnyH_take (i := 2) (oi := ⟨some 147, _, _, _, _, _⟩) (v := ?_) rfl (by kernel_rfl) (by kernel_rfl) (by kernel_rfl) (fun _ _ _ h => h) (Or.inl ⟨by rfl, ?_⟩) hHeld ?_
    rotate_left
    · intro w' hS'
      (try dsimp only at hS')
      go_simp
      try with_reducible rfl
    try simp only [Act.put, List.setIfInBounds_toArray, List.set_cons_zero, List.set_cons_succ]
    refine wpAnyH_take (i := 3) (oi := ⟨some 148, _, _, _, _, _⟩) (v := ?_) rfl (by kernel_rfl) (by kernel_rfl) (by kernel_rfl) (fun _ _ _ h => h) (Or.inl ⟨by rfl, ?_⟩) hHeld ?_
    rotate_left
    · intro w' hS'
      (try dsimp only at hS')
      go_simp
      try with_reducible rfl
    try simp only [Act.put, List.setIfInBounds_toArray, List.set_cons_zero, List.set_cons_succ]
    refine wpAnyH_take (i := 4) (oi := ⟨some 149, _, _, _, _, _⟩) (v := ?_) rfl (by kernel_rfl) (by kernel_rfl) (by kernel_rfl) (fun _ _ _ h => h) (Or.inl ⟨by rfl, ?_⟩) hHeld ?_
    rotate_left
    · intro w' hS'
      (try dsimp only at hS')
      go_simp
      try with_reducible rfl
    try simp only [Act.put, List.setIfInBounds_toArray, List.set_cons_zero, List.set_cons_succ]
    refine wpAnyH_take (i := 5) (oi := ⟨some 150, _, _, _, _, _⟩) (v := ?_) rfl (by kernel_rfl) (by kernel_rfl) (by kernel_rfl) (fun _ _ _ h => h) (Or.inl ⟨by rfl, ?_⟩) hHeld ?_
    rotate_left
    · intro w' hS'
      (try dsimp only at hS')
      go_simp
      try with_reducible rfl
    try simp only [Act.put, List.setIfInBounds_toArray, List.set_cons_zero, List.set_cons_succ]
    refine wpAnyH_take (i := 6) (oi := ⟨some 151, _, _, _, _, _⟩) (v := ?_) rfl (by kernel_rfl) (by kernel_rfl) (by kernel_rfl) (fun _ _ _ h => h) (Or.inl ⟨by rfl, ?_⟩) hHeld ?_
    rotate_left
    · intro w' hS'
      (try dsimp only at hS')
      go_simp
      try with_reducible rfl
    try simp only [Act.put, List.setIfInBounds_toArray, List.set_cons_zero, List.set_cons_succ]
    refine wpAnyH_take (i := 7) (oi := ⟨some 152, _, _, _, _, _⟩) (v := ?_) rfl (by kernel_rfl) (by kernel_rfl) (by kernel_rfl) (fun _ _ _ h => h) (Or.inl ⟨by rfl, ?_⟩) hHeld ?_
    rotate_left
    · intro w' hS'
      (try dsimp only at hS')
      go_simp
      try with_reducible rfl
    try simp only [Act.put, List.setIfInBounds_toArray, List.set_cons_zero, List.set_cons_succ]
    refine wpAnyH_take (i := 8) (oi := ⟨some 153, _, _, _, _, _⟩) (v := ?_) rfl (by kernel_rfl) (by kernel_rfl) (by kernel_rfl) (fun _ _ _ h => h) (Or.inl ⟨by rfl, ?_⟩) hHeld ?_
    rotate_left
    · intro w' hS'
      (try dsimp only at hS')
      go_simp
      try with_reducible rfl
    try simp only [Act.put, List.setIfInBounds_toArray, List.set_cons_zero, List.set_cons_succ]
    refine wpAnyH_take (i := 9) (oi := ⟨some 154, _, _, _, _, _⟩) (v := ?_) rfl (by kernel_rfl) (by kernel_rfl) (by kernel_rfl) (fun _ _ _ h => h) (Or.inl ⟨by rfl, ?_⟩) hHeld ?_
    rotate_left
    · intro w' hS'
      (try dsimp only at hS')
      go_simp
      try with_reducible rfl
    try simp only [Act.put, List.setIfInBounds_toArray, List.set_cons_zero, List.set_cons_succ]
    refine wpAnyH_take (i := 10) (oi := ⟨some 155, _, _, _, _, _⟩) (v := undef) rfl (by kernel_rfl) (by kernel_rfl) (by kernel_rfl) (fun _ _ _ h => h) (Or.inr ⟨by rfl, rfl⟩) hHeld ?_
    try simp only [Act.put, List.setIfInBounds_toArray, List.set_cons_zero, List.set_cons_succ]
    refine wpAnyH_take (i := 11) (oi := ⟨some 156, _, _, _, _, _⟩) (v := undef) rfl (by kernel_rfl) (by kernel_rfl) (by kernel_rfl) (fun _ _ _ h => h) (Or.inr ⟨by rfl, rfl⟩) hHeld ?_
    try simp only [Act.put, List.setIfInBounds_toArray, List.set_cons_zero, List.set_cons_succ]
    refine wpAnyH_take (i := 12) (oi := ⟨some 157, _, _, _, _, _⟩) (v := undef) rfl (by kernel_rfl) (by kernel_rfl) (by kernel_rfl) (fun _ _ _ h => h) (Or.inr ⟨by rfl, rfl⟩) hHeld ?_
    try simp only [Act.put, List.setIfInBounds_toArray, List.set_cons_zero, List.set_cons_succ]
    refine wpAnyH_take (i := 13) (oi := ⟨some 158, _, _, _, _, _⟩) (v := undef) rfl (by kernel_rfl) (by kernel_rfl) (by kernel_rfl) (fun _ _ _ h => h) (Or.inr ⟨by rfl, rfl⟩) hHeld ?_
    try simp only [Act.put, List.setIfInBounds_toArray, List.set_cons_zero, List.set_cons_succ]
    refine wpAnyH_take (i := 14) (oi := ⟨some 159, _, _, _, _, _⟩) (v := undef) rfl (by kernel_rfl) (by kernel_rfl) (by kernel_rfl) (fun _ _ _ h => h) (Or.inr ⟨by rfl, rfl⟩) hHeld ?_
    try simp only [Act.put, List.setIfInBounds_toArray, List.set_cons_zero, List.set_cons_succ]
    refine wpAnyH_take (i := 15) (oi := ⟨some 160, _, _, _, _, _⟩) (v := undef) rfl (by kernel_rfl) (by kernel_rfl) (by kernel_rfl) (fun _ _ _ h => h) (Or.inr ⟨by rfl, rfl⟩) hHeld ?_
    try simp only [Act.put, List.setIfInBounds_toArray, List.set_cons_zero, List.set_cons_succ]
    refine wpAnyH_take (i := 16) (oi := ⟨some 161, _, _, _, _, _⟩) (v := undef) rfl (by kernel_rfl) (by kernel_rfl) (by kernel_rfl) (fun _ _ _ h => h) (Or.inr ⟨by rfl, rfl⟩) hHeld ?_
    try simp only [Act.put, List.setIfInBounds_toArray, List.set_cons_zero, List.set_cons_succ]
    refine wpAnyH_take (i := 17) (oi := ⟨some 162, _, _, _, _, _⟩) (v := undef) rfl (by kernel_rfl) (by kernel_rfl) (by kernel_rfl) (fun _ _ _ h => h) (Or.inr ⟨by rfl, rfl⟩) hHeld ?_
    try simp only [Act.put, List.setIfInBounds_toArray, List.set_cons_zero, List.set_cons_succ]
    refine wpAnyH_take (i := 18) (oi := ⟨some 163, _, _, _, _, _⟩) (v := undef) rfl (by kernel_rfl) (by kernel_rfl) (by kernel_rfl) (fun _ _ _ h => h) (Or.inr ⟨by rfl, rfl⟩) hHeld ?_
    try simp only [Act.put, List.setIfInBounds_toArray, List.set_cons_zero, List.set_cons_succ]
    refine wpAnyH_take (i := 19) (oi := ⟨some 164, _, _, _, _, _⟩) (v := undef) rfl (by kernel_rfl) (by kernel_rfl) (by kernel_rfl) (fun _ _ _ h => h) (Or.inr ⟨by rfl, rfl⟩) hHeld ?_
    try simp only [Act.put, List.setIfInBounds_toArray, List.set_cons_zero, List.set_cons_succ]
    refine wpAnyH_take (i := 20) (oi := ⟨some 165, _, _, _, _, _⟩) (v := undef) rfl (by kernel_rfl) (by kernel_rfl) (by kernel_rfl) (fun _ _ _ h => h) (Or.inr ⟨by rfl, rfl⟩) hHeld ?_
    try simp only [Act.put, List.setIfInBounds_toArray, List.set_cons_zero, List.set_cons_succ]
    refine wpAnyH_take (i := 21) (oi := ⟨some 166, _, _, _, _, _⟩) (v := undef) rfl (by kernel_rfl) (by kernel_rfl) (by kernel_rfl) (fun _ _ _ h => h) (Or.inr ⟨by rfl, rfl⟩) hHeld ?_
    try simp only [Act.put, List.setIfInBounds_toArray, List.set_cons_zero, List.set_cons_succ]
    refine wpAnyH_take (i := 22) (oi := ⟨some 167, _, _, _, _, _⟩) (v := ?_) rfl (by kernel_rfl) (by kernel_rfl) (by kernel_rfl) (fun _ _ _ h => h) (Or.inl ⟨by rfl, ?_⟩) hHeld ?_
    rotate_left
    · intro w' hS'
      (try dsimp only at hS')
      go_simp
      try with_reducible rfl
    try simp only [Act.put, List.setIfInBounds_toArray, List.set_cons_zero, List.set_cons_succ]
    refine wpAnyH_done (by kernel_rfl) ?_ _
    clear hHeld
    have hqq : Below wb.heap.size wb wb.drew := by first | exact (Below.refl _ _).drew | exact ((((Q.refl wb).drewN _).below _)).drew | exact (((Q.refl wb).drewN _).below _)
    have Hstq := Lib.hid (Hst.out.all hqq)
    have Oeq := Lib.hid (below_obj hqq Oeb.out (obj_lt Oeb.out))
    have Ozq := Lib.hid (below_obj hqq Ozb.out (obj_lt Ozb.out))
    have Hbq := Lib.hid (Hbb.out.trans (hqq.mono Hbb.out.size))
    have hwq := hqq.size
    clear hqq
    generalize wb.drew = wq at *
    go_wp2_with (refine wpList_store_whole rfl 79 (.tmp 4) (.tmp 168) rfl (w.heap.size + 1 + 1) rfl 79 zSt zSt rfl Ozq.out Try.sizeSt rfl (zSt_O 0 w).c.one ?_; intro wz hobj hupdz)
    refine bodyPost_ret (results_cell_slot rfl _ wz (w.heap.size + 1 + 1) 79 zSt (0, 0) _ rfl hobj Try.underlying79 rfl Try.sizeSt) rfl ?_
    exact ⟨zSt, by rw [Hr2.out]; rfl, by rw [Hr2.out, if_neg (by decide)]; exact zSt_O _ _, (Hbq.out).trans (hupdz.below (by have := Hbb.out.size; have := (Hbq.out).size; omega) (fun k hk hb => by change _ = _ at hb; omega))⟩
  have hcn' : (ec : Int) < (nb : Int) := by omega
  have hcn3 : ¬ nb ≤ ec := by omega
  obtain ⟨bb, bo, rfl, hbb, hbc⟩ := R1.out.sl.nonempty (by omega)
  have kz := hbc ec _ (map_int_cell (by have := Hnb.out; omega))
  obtain ⟨z, hz⟩ : ∃ z, z = lb.getD ec 0 := ⟨_, rfl⟩
  rw [← hz] at kz Hmv
  have Hz := Lib.hid hz
  have HT := Lib.hid (And.intro (show wb.drew.cell? ⟨wa.heap.size, 1 + eb, none⟩ = some (.slice (some ⟨bb, bo, none⟩) nb cb) from K1.out) (And.intro (show wb.drew.cell? ⟨bb, bo + ec, none⟩ = some (.int .i64 z) from kz) (HE.out _ hy)))
  clear hz hbc kz
  by_cases hze : z = (ea : Int)
  rotate_left
  · have hzz : (z != (ea : Int)) = true := by simp [hze]
    have Hr2 := Lib.hid (show r = 20 by rw [H_hr.out, Hmv.out, if_neg (by simp [hze])])
    clear hze
    refine wp_region_held_drew (S := fun x => x.cell? ⟨wa.heap.size, 1 + eb, none⟩ = some (.slice (some ⟨bb, bo, none⟩) nb cb) ∧ x.cell? ⟨bb, bo + ec, none⟩ = some (.int .i64 z) ∧ x.cell? ⟨w.heap.size + 1, 0, none⟩ = some (.int .i64 1) ∧ x.cell? ⟨w.heap.size + 1, 1, none⟩ = some (.int .i64 (ea : Int)) ∧ x.cell? ⟨w.heap.size + 1, 2, none⟩ = some (.int .i64 (eb : Int)) ∧ x.cell? ⟨w.heap.size + 1, 3, none⟩ = some (.int .i64 (ec : Int)) ∧ x.cell? ⟨w.heap.size + 1, 4, none⟩ = some (.int .i64 (ed : Int)) ∧ x.cell? ⟨w.heap.size + 1, 5, none⟩ = some (.int .i64 (ef : Int))) (by kernel_rfl) HT.out (fun hHeld => ?_)
    refine wpAnyH_take (i := 0) (oi := ⟨some 145, _, _, _, _, _⟩) (v := ?_) rfl (by kernel_rfl) (by kernel_rfl) (by kernel_rfl) (fun _ _ _ h => h) (Or.inl ⟨by rfl, ?_⟩) hHeld ?_
    rotate_left
    · intro w' hS'
      (try dsimp only at hS')
      go_simp
      try with_reducible rfl
    try simp only [Act.put, List.setIfInBounds_toArray, List.set_cons_zero, List.set_cons_succ]
    refine wpAnyH_take (i := 1) (oi := ⟨some 146, _, _, _, _, _⟩) (v := ?_) rfl (by kernel_rfl) (by kernel_rfl) (by kernel_rfl) (fun _ _ _ h => h) (Or.inl ⟨by rfl, ?_⟩) hHeld ?_
    rotate_left
    · intro w' hS'
      (try dsimp only at hS')
      go_simp
      try with_reducible rfl
    try simp only [Act.put, List.setIfInBounds_toArray, List.set_cons_zero, List.set_cons_succ]
    refine wpAnyH_take (i := 2) (oi := ⟨some 147, _, _, _, _, _⟩) (v := ?_) rfl (by kernel_rfl) (by kernel_rfl) (by kernel_rfl) (fun _ _ _ h => h) (Or.inl ⟨by rfl, ?_⟩) hHeld ?_
    rotate_left
    · intro w' hS'
      (try dsimp only at hS')
      go_simp
      try with_reducible rfl
    try simp only [Act.put, List.setIfInBounds_toArray, List.set_cons_zero, List.set_cons_succ]
    refine wpAnyH_take (i := 3) (oi := ⟨some 148, _, _, _, _, _⟩) (v := ?_) rfl (by kernel_rfl) (by kernel_rfl) (by kernel_rfl) (fun _ _ _ h => h) (Or.inl ⟨by rfl, ?_⟩) hHeld ?_
    rotate_left
    · intro w' hS'
      (try dsimp only at hS')
      go_simp
      try with_reducible rfl
    try simp only [Act.put, List.setIfInBounds_toArray, List.set_cons_zero, List.set_cons_succ]
    refine wpAnyH_take (i := 4) (oi := ⟨some 149, _, _, _, _, _⟩) (v := ?_) rfl (by kernel_rfl) (by kernel_rfl) (by kernel_rfl) (fun _ _ _ h => h) (Or.inl ⟨by rfl, ?_⟩) hHeld ?_
    rotate_left
    · intro w' hS'
      (try dsimp only at hS')
      go_simp
      try with_reducible rfl
    try simp only [Act.put, List.setIfInBounds_toArray, List.set_cons_zero, List.set_cons_succ]
    refine wpAnyH_take (i := 5) (oi := ⟨some 150, _, _, _, _, _⟩) (v := ?_) rfl (by kernel_rfl) (by kernel_rfl) (by kernel_rfl) (fun _ _ _ h => h) (Or.inl ⟨by rfl, ?_⟩) hHeld ?_
    rotate_left
    · intro w' hS'
      (try dsimp only at hS')
      go_simp
      try with_reducible rfl
    try simp only [Act.put, List.setIfInBounds_toArray, List.set_cons_zero, List.set_cons_succ]
    refine wpAnyH_take (i := 6) (oi := ⟨some 151, _, _, _, _, _⟩) (v := ?_) rfl (by kernel_rfl) (by kernel_rfl) (by kernel_rfl) (fun _ _ _ h => h) (Or.inl ⟨by rfl, ?_⟩) hHeld ?_
    rotate_left
    · intro w' hS'
      (try dsimp only at hS')
      go_simp
      try with_reducible rfl
    try simp only [Act.put, List.setIfInBounds_toArray, List.set_cons_zero, List.set_cons_succ]
    refine wpAnyH_take (i := 7) (oi := ⟨some 152, _, _, _, _, _⟩) (v := ?_) rfl (by kernel_rfl) (by kernel_rfl) (by kernel_rfl) (fun _ _ _ h => h) (Or.inl ⟨by rfl, ?_⟩) hHeld ?_
    rotate_left
    · intro w' hS'
      (try dsimp only at hS')
      go_simp
      try with_reducible rfl
    try simp only [Act.put, List.setIfInBounds_toArray, List.set_cons_zero, List.set_cons_succ]
    refine wpAnyH_take (i := 8) (oi := ⟨some 153, _, _, _, _, _⟩) (v := ?_) rfl (by kernel_rfl) (by kernel_rfl) (by kernel_rfl) (fun _ _ _ h => h) (Or.inl ⟨by rfl, ?_⟩) hHeld ?_
    rotate_left
    · intro w' hS'
      (try dsimp only at hS')
      go_simp
      try with_reducible rfl
    try simp only [Act.put, List.setIfInBounds_toArray, List.set_cons_zero, List.set_cons_succ]
    refine wpAnyH_take (i := 9) (oi := ⟨some 154, _, _, _, _, _⟩) (v := ?_) rfl (by kernel_rfl) (by kernel_rfl) (by kernel_rfl) (fun _ _ _ h => h) (Or.inl ⟨by rfl, ?_⟩) hHeld ?_
    rotate_left
    · intro w' hS'
      (try dsimp only at hS')
      go_simp
      try with_reducible rfl
    try simp only [Act.put, List.setIfInBounds_toArray, List.set_cons_zero, List.set_cons_succ]
    refine wpAnyH_take (i := 10) (oi := ⟨some 155, _, _, _, _, _⟩) (v := ?_) rfl (by kernel_rfl) (by kernel_rfl) (by kernel_rfl) (fun _ _ _ h => h) (Or.inl ⟨by rfl, ?_⟩) hHeld ?_
    rotate_left
    · intro w' hS'
      (try dsimp only at hS')
      go_simp
      try with_reducible rfl
    try simp only [Act.put, List.setIfInBounds_toArray, List.set_cons_zero, List.set_cons_succ]
    refine wpAnyH_take (i := 11) (oi := ⟨some 156, _, _, _, _, _⟩) (v := ?_) rfl (by kernel_rfl) (by kernel_rfl) (by kernel_rfl) (fun _ _ _ h => h) (Or.inl ⟨by rfl, ?_⟩) hHeld ?_
    rotate_left
    · intro w' hS'
      (try dsimp only at hS')
      go_simp
      try with_reducible rfl
    try simp only [Act.put, List.setIfInBounds_toArray, List.set_cons_zero, List.set_cons_succ]
    refine wpAnyH_take (i := 12) (oi := ⟨some 157, _, _, _, _, _⟩) (v := ?_) rfl (by kernel_rfl) (by kernel_rfl) (by kernel_rfl) (fun _ _ _ h => h) (Or.inl ⟨by rfl, ?_⟩) hHeld ?_
    rotate_left
    · intro w' hS'
      (try dsimp only at hS')
      go_simp
      try with_reducible rfl
    try simp only [Act.put, List.setIfInBounds_toArray, List.set_cons_zero, List.set_cons_succ]
    refine wpAnyH_take (i := 13) (oi := ⟨some 158, _, _, _, _, _⟩) (v := ?_) rfl (by kernel_rfl) (by kernel_rfl) (by kernel_rfl) (fun _ _ _ h => h) (Or.inl ⟨by rfl, ?_⟩) hHeld ?_
    rotate_left
    · intro w' hS'
      (try dsimp only at hS')
      go_simp
      try with_reducible rfl
    try simp only [Act.put, List.setIfInBounds_toArray, List.set_cons_zero, List.set_cons_succ]
    refine wpAnyH_take (i := 14) (oi := ⟨some 159, _, _, _, _, _⟩) (v := ?_) rfl (by kernel_rfl) (by kernel_rfl) (by kernel_rfl) (fun _ _ _ h => h) (Or.inl ⟨by rfl, ?_⟩) hHeld ?_
    rotate_left
    · intro w' hS'
      (try dsimp only at hS')
      go_simp
      try with_reducible rfl
    try simp only [Act.put, List.setIfInBounds_toArray, List.set_cons_zero, List.set_cons_succ]
    refine wpAnyH_take (i := 15) (oi := ⟨some 160, _, _, _, _, _⟩) (v := ?_) rfl (by kernel_rfl) (by kernel_rfl) (by kernel_rfl) (fun _ _ _ h => h) (Or.inl ⟨by rfl, ?_⟩) hHeld ?_
    rotate_left
    · intro w' hS'
      (try dsimp only at hS')
      go_simp
      try with_reducible rfl
    try simp only [Act.put, List.setIfInBounds_toArray, List.set_cons_zero, List.set_cons_succ]
    refine wpAnyH_take (i := 16) (oi := ⟨some 161, _, _, _, _, _⟩) (v := ?_) rfl (by kernel_rfl) (by kernel_rfl) (by kernel_rfl) (fun _ _ _ h => h) (Or.inl ⟨by rfl, ?_⟩) hHeld ?_
    rotate_left
    · intro w' hS'
      (try dsimp only at hS')
      go_simp
      try with_reducible rfl
    try simp only [Act.put, List.setIfInBounds_toArray, List.set_cons_zero, List.set_cons_succ]
    refine wpAnyH_take (i := 17) (oi := ⟨some 162, _, _, _, _, _⟩) (v := ?_) rfl (by kernel_rfl) (by kernel_rfl) (by kernel_rfl) (fun _ _ _ h => h) (Or.inl ⟨by rfl, ?_⟩) hHeld ?_
    rotate_left
    · intro w' hS'
      (try dsimp only at hS')
      go_simp
      try with_reducible rfl
    try simp only [Act.put, List.setIfInBounds_toArray, List.set_cons_zero, List.set_cons_succ]
    refine wpAnyH_take (i := 18) (oi := ⟨some 163, _, _, _, _, _⟩) (v := ?_) rfl (by kernel_rfl) (by kernel_rfl) (by kernel_rfl) (fun _ _ _ h => h) (Or.inl ⟨by rfl, ?_⟩) hHeld ?_
    rotate_left
    · intro w' hS'
      (try dsimp only at hS')
      go_simp
      try with_reducible rfl
    try simp only [Act.put, List.setIfInBounds_toArray, List.set_cons_zero, List.set_cons_succ]
    refine wpAnyH_take (i := 19) (oi := ⟨some 164, _, _, _, _, _⟩) (v := ?_) rfl (by kernel_rfl) (by kernel_rfl) (by kernel_rfl) (fun _ _ _ h => h) (Or.inl ⟨by rfl, ?_⟩) hHeld ?_
    rotate_left
    · intro w' hS'
      (try dsimp only at hS')
      go_simp
      try with_reducible rfl
    try simp only [Act.put, List.setIfInBounds_toArray, List.set_cons_zero, List.set_cons_succ]
    refine wpAnyH_take (i := 20) (oi := ⟨some 165, _, _, _, _, _⟩) (v := ?_) rfl (by kernel_rfl) (by kernel_rfl) (by kernel_rfl) (fun _ _ _ h => h) (Or.inl ⟨by rfl, ?_⟩) hHeld ?_
    rotate_left
    · intro w' hS'
      (try dsimp only at hS')
      go_simp
      try with_reducible rfl
    try simp only [Act.put, List.setIfInBounds_toArray, List.set_cons_zero, List.set_cons_succ]
    refine wpAnyH_take (i := 21) (oi := ⟨some 166, _, _, _, _, _⟩) (v := ?_) rfl (by kernel_rfl) (by kernel_rfl) (by kernel_rfl) (fun _ _ _ h => h) (Or.inl ⟨by rfl, ?_⟩) hHeld ?_
    rotate_left
    · intro w' hS'
      (try dsimp only at hS')
      go_simp
      try with_reducible rfl
    try simp only [Act.put, List.setIfInBounds_toArray, List.set_cons_zero, List.set_cons_succ]
    refine wpAnyH_take (i := 22) (oi := ⟨some 167, _, _, _, _, _⟩) (v := ?_) rfl (by kernel_rfl) (by kernel_rfl) (by kernel_rfl) (fun _ _ _ h => h) (Or.inl ⟨by rfl, ?_⟩) hHeld ?_
    rotate_left
    · intro w' hS'
      (try dsimp only at hS')
      go_simp
      try with_reducible rfl
    try simp only [Act.put, List.setIfInBounds_toArray, List.set_cons_zero, List.set_cons_succ]
    refine wpAnyH_done (by kernel_rfl) ?_ _
    clear hHeld
    have hqq : Below wb.heap.size wb wb.drew := by first | exact (Below.refl _ _).drew | exact ((((Q.refl wb).drewN _).below _)).drew | exact (((Q.refl wb).drewN _).below _)
    have Hstq := Lib.hid (Hst.out.all hqq)
    have Oeq := Lib.hid (below_obj hqq Oeb.out (obj_lt Oeb.out))
    have Ozq := Lib.hid (below_obj hqq Ozb.out (obj_lt Ozb.out))
    have Hbq := Lib.hid (Hbb.out.trans (hqq.mono Hbb.out.size))
    have hwq := hqq.size
    clear hqq
    generalize wb.drew = wq at *
    go_wp2_with (refine wpList_store_whole rfl 79 (.tmp 4) (.tmp 168) rfl (w.heap.size + 1 + 1) rfl 79 zSt zSt rfl Ozq.out Try.sizeSt rfl (zSt_O 0 w).c.one ?_; intro wz hobj hupdz)
    refine bodyPost_ret (results_cell_slot rfl _ wz (w.heap.size + 1 + 1) 79 zSt (0, 0) _ rfl hobj Try.underlying79 rfl Try.sizeSt) rfl ?_
    exact ⟨zSt, by rw [Hr2.out]; rfl, by rw [Hr2.out, if_neg (by decide)]; exact zSt_O _ _, (Hbq.out).trans (hupdz.below (by have := Hbb.out.size; have := (Hbq.out).size; omega) (fun k hk hb => by change _ = _ at hb; omega))⟩
  have hzz : (z != (ea : Int)) = false := by simp [hze]
  have hr3 : r = if ((mvTo s e).length : Int) < ef then 1 else 0 := by rw [H_hr.out, Hmv.out, if_pos (by simp [hcn, hze]), H_h5.out]
  have Hr3 := Lib.hid hr3
  clear hr3 hze
  refine wp_region_held_drew (S := fun x => x.cell? ⟨wa.heap.size, 1 + eb, none⟩ = some (.slice (some ⟨bb, bo, none⟩) nb cb) ∧ x.cell? ⟨bb, bo + ec, none⟩ = some (.int .i64 z) ∧ x.cell? ⟨w.heap.size + 1, 0, none⟩ = some (.int .i64 1) ∧ x.cell? ⟨w.heap.size + 1, 1, none⟩ = some (.int .i64 (ea : Int)) ∧ x.cell? ⟨w.heap.size + 1, 2, none⟩ = some (.int .i64 (eb : Int)) ∧ x.cell? ⟨w.heap.size + 1, 3, none⟩ = some (.int .i64 (ec : Int)) ∧ x.cell? ⟨w.heap.size + 1, 4, none⟩ = some (.int .i64 (ed : Int)) ∧ x.cell? ⟨w.heap.size + 1, 5, none⟩ = some (.int .i64 (ef : Int))) (by kernel_rfl) HT.out (fun hHeld => ?_)
  refine wpAnyH_take (i := 0) (oi := ⟨some 145, _, _, _, _, _⟩) (v := ?_) rfl (by kernel_rfl) (by kernel_rfl) (by kernel_rfl) (fun _ _ _ h => h) (Or.inl ⟨by rfl, ?_⟩) hHeld ?_
  rotate_left
  · intro w' hS'
    (try dsimp only at hS')
    go_simp
    try with_reducible rfl
  try simp only [Act.put, List.setIfInBounds_toArray, List.set_cons_zero, List.set_cons_succ]
  refine wpAnyH_take (i := 1) (oi := ⟨some 146, _, _, _, _, _⟩) (v := ?_) rfl (by kernel_rfl) (by kernel_rfl) (by kernel_rfl) (fun _ _ _ h => h) (Or.inl ⟨by rfl, ?_⟩) hHeld ?_
  rotate_left
  · intro w' hS'
    (try dsimp only at hS')
    go_simp
    try with_reducible rfl
  try simp only [Act.put, List.setIfInBounds_toArray, List.set_cons_zero, List.set_cons_succ]
  refine wpAnyH_take (i := 2) (oi := ⟨some 147, _, _, _, _, _⟩) (v := ?_) rfl (by kernel_rfl) (by kernel_rfl) (by kernel_rfl) (fun _ _ _ h => h) (Or.inl ⟨by rfl, ?_⟩) hHeld ?_
  rotate_left
  · intro w' hS'
    (try dsimp only at hS')
    go_simp
    try with_reducible rfl
  try simp only [Act.put, List.setIfInBounds_toArray, List.set_cons_zero, List.set_cons_succ]
  refine wpAnyH_take (i := 3) (oi := ⟨some 148, _, _, _, _, _⟩) (v := ?_) rfl (by kernel_rfl) (by kernel_rfl) (by kernel_rfl) (fun _ _ _ h => h) (Or.inl ⟨by rfl, ?_⟩) hHeld ?_
  rotate_left
  · intro w' hS'
    (try dsimp only at hS')
    go_simp
    try with_reducible rfl
  try simp only [Act.put, List.setIfInBounds_toArray, List.set_cons_zero, List.set_cons_succ]
  refine wpAnyH_take (i := 4) (oi := ⟨some 149, _, _, _, _, _⟩) (v := ?_) rfl (by kernel_rfl) (by kernel_rfl) (by kernel_rfl) (fun _ _ _ h => h) (Or.inl ⟨by rfl, ?_⟩) hHeld ?_
  rotate_left
  · intro w' hS'
    (try dsimp only at hS')
    go_simp
    try with_reducible rfl
  try simp only [Act.put, List.setIfInBounds_toArray, List.set_cons_zero, List.set_cons_succ]
  refine wpAnyH_take (i := 5) (oi := ⟨some 150, _, _, _, _, _⟩) (v := ?_) rfl (by kernel_rfl) (by kernel_rfl) (by kernel_rfl) (fun _ _ _ h => h) (Or.inl ⟨by rfl, ?_⟩) hHeld ?_
  rotate_left
  · intro w' hS'
    (try dsimp only at hS')
    go_simp
    try with_reducible rfl
  try simp only [Act.put, List.setIfInBounds_toArray, List.set_cons_zero, List.set_cons_succ]
  refine wpAnyH_take (i := 6) (oi := ⟨some 151, _, _, _, _, _⟩) (v := ?_) rfl (by kernel_rfl) (by kernel_rfl) (by kernel_rfl) (fun _ _ _ h => h) (Or.inl ⟨by rfl, ?_⟩) hHeld ?_
  rotate_left
  · intro w' hS'
    (try dsimp only at hS')
    go_simp
    try with_reducible rfl
  try simp only [Act.put, List.setIfInBounds_toArray, List.set_cons_zero, List.set_cons_succ]
  refine wpAnyH_take (i := 7) (oi := ⟨some 152, _, _, _, _, _⟩) (v := ?_) rfl (by kernel_rfl) (by kernel_rfl) (by kernel_rfl) (fun _ _ _ h => h) (Or.inl ⟨by rfl, ?_⟩) hHeld ?_
  rotate_left
  · intro w' hS'
    (try dsimp only at hS')
    go_simp
    try with_reducible rfl
  try simp only [Act.put, List.setIfInBounds_toArray, List.set_cons_zero, List.set_cons_succ]
  refine wpAnyH_take (i := 8) (oi := ⟨some 153, _, _, _, _, _⟩) (v := ?_) rfl (by kernel_rfl) (by kernel_rfl) (by kernel_rfl) (fun _ _ _ h => h) (Or.inl ⟨by rfl, ?_⟩) hHeld ?_
  rotate_left
  · intro w' hS'
    (try dsimp only at hS')
    go_simp
    try with_reducible rfl
  try simp only [Act.put, List.setIfInBounds_toArray, List.set_cons_zero, List.set_cons_succ]
  refine wpAnyH_take (i := 9) (oi := ⟨some 154, _, _, _, _, _⟩) (v := ?_) rfl (by kernel_rfl) (by kernel_rfl) (by kernel_rfl) (fun _ _ _ h => h) (Or.inl ⟨by rfl, ?_⟩) hHeld ?_
  rotate_left
  · intro w' hS'
    (try dsimp only at hS')
    go_simp
    try with_reducible rfl
  try simp only [Act.put, List.setIfInBounds_toArray, List.set_cons_zero, List.set_cons_succ]
  refine wpAnyH_take (i := 10) (oi := ⟨some 155, _, _, _, _, _⟩) (v := ?_) rfl (by kernel_rfl) (by kernel_rfl) (by kernel_rfl) (fun _ _ _ h => h) (Or.inl ⟨by rfl, ?_⟩) hHeld ?_
  rotate_left
  · intro w' hS'
    (try dsimp only at hS')
    go_simp
    try with_reducible rfl
  try simp only [Act.put, List.setIfInBounds_toArray, List.set_cons_zero, List.set_cons_succ]
  refine wpAnyH_take (i := 11) (oi := ⟨some 156, _, _, _, _, _⟩) (v := ?_) rfl (by kernel_rfl) (by kernel_rfl) (by kernel_rfl) (fun _ _ _ h => h) (Or.inl ⟨by rfl, ?_⟩) hHeld ?_
  rotate_left
  · intro w' hS'
    (try dsimp only at hS')
    go_simp
    try with_reducible rfl
  try simp only [Act.put, List.setIfInBounds_toArray, List.set_cons_zero, List.set_cons_succ]
  refine wpAnyH_take (i := 12) (oi := ⟨some 157, _, _, _, _, _⟩) (v := ?_) rfl (by kernel_rfl) (by kernel_rfl) (by kernel_rfl) (fun _ _ _ h => h) (Or.inl ⟨by rfl, ?_⟩) hHeld ?_
  rotate_left
  · intro w' hS'
    (try dsimp only at hS')
    go_simp
    try with_reducible rfl
  try simp only [Act.put, List.setIfInBounds_toArray, List.set_cons_zero, List.set_cons_succ]
  refine wpAnyH_take (i := 13) (oi := ⟨some 158, _, _, _, _, _⟩) (v := ?_) rfl (by kernel_rfl) (by kernel_rfl) (by kernel_rfl) (fun _ _ _ h => h) (Or.inl ⟨by rfl, ?_⟩) hHeld ?_
  rotate_left
  · intro w' hS'
    (try dsimp only at hS')
    go_simp
    try with_reducible rfl
  try simp only [Act.put, List.setIfInBounds_toArray, List.set_cons_zero, List.set_cons_succ]
  refine wpAnyH_take (i := 14) (oi := ⟨some 159, _, _, _, _, _⟩) (v := ?_) rfl (by kernel_rfl) (by kernel_rfl) (by kernel_rfl) (fun _ _ _ h => h) (Or.inl ⟨by rfl, ?_⟩) hHeld ?_
  rotate_left
  · intro w' hS'
    (try dsimp only at hS')
    go_simp
    try with_reducible rfl
  try simp only [Act.put, List.setIfInBounds_toArray, List.set_cons_zero, List.set_cons_succ]
  refine wpAnyH_take (i := 15) (oi := ⟨some 160, _, _, _, _, _⟩) (v := ?_) rfl (by kernel_rfl) (by kernel_rfl) (by kernel_rfl) (fun _ _ _ h => h) (Or.inl ⟨by rfl, ?_⟩) hHeld ?_
  rotate_left
  · intro w' hS'
    (try dsimp only at hS')
    go_simp
    try with_reducible rfl
  try simp only [Act.put, List.setIfInBounds_toArray, List.set_cons_zero, List.set_cons_succ]
  refine wpAnyH_take (i := 16) (oi := ⟨some 161, _, _, _, _, _⟩) (v := ?_) rfl (by kernel_rfl) (by kernel_rfl) (by kernel_rfl) (fun _ _ _ h => h) (Or.inl ⟨by rfl, ?_⟩) hHeld ?_
  rotate_left
  · intro w' hS'
    (try dsimp only at hS')
    go_simp
    try with_reducible rfl
  try simp only [Act.put, List.setIfInBounds_toArray, List.set_cons_zero, List.set_cons_succ]
  refine wpAnyH_take (i := 17) (oi := ⟨some 162, _, _, _, _, _⟩) (v := ?_) rfl (by kernel_rfl) (by kernel_rfl) (by kernel_rfl) (fun _ _ _ h => h) (Or.inl ⟨by rfl, ?_⟩) hHeld ?_
  rotate_left
  · intro w' hS'
    (try dsimp only at hS')
    go_simp
    try with_reducible rfl
  try simp only [Act.put, List.setIfInBounds_toArray, List.set_cons_zero, List.set_cons_succ]
  refine wpAnyH_take (i := 18) (oi := ⟨some 163, _, _, _, _, _⟩) (v := ?_) rfl (by kernel_rfl) (by kernel_rfl) (by kernel_rfl) (fun _ _ _ h => h) (Or.inl ⟨by rfl, ?_⟩) hHeld ?_
  rotate_left
  · intro w' hS'
    (try dsimp only at hS')
    go_simp
    try with_reducible rfl
  try simp only [Act.put, List.setIfInBounds_toArray, List.set_cons_zero, List.set_cons_succ]
  refine wpAnyH_take (i := 19) (oi := ⟨some 164, _, _, _, _, _⟩) (v := ?_) rfl (by kernel_rfl) (by kernel_rfl) (by kernel_rfl) (fun _ _ _ h => h) (Or.inl ⟨by rfl, ?_⟩) hHeld ?_
  rotate_left
  · intro w' hS'
    (try dsimp only at hS')
    go_simp
    try with_reducible rfl
  try simp only [Act.put, List.setIfInBounds_toArray, List.set_cons_zero, List.set_cons_succ]
  refine wpAnyH_take (i := 20) (oi := ⟨some 165, _, _, _, _, _⟩) (v := ?_) rfl (by kernel_rfl) (by kernel_rfl) (by kernel_rfl) (fun _ _ _ h => h) (Or.inl ⟨by rfl, ?_⟩) hHeld ?_
  rotate_left
  · intro w' hS'
    (try dsimp only at hS')
    go_simp
    try with_reducible rfl
  try simp only [Act.put, List.setIfInBounds_toArray, List.set_cons_zero, List.set_cons_succ]
  refine wpAnyH_take (i := 21) (oi := ⟨some 166, _, _, _, _, _⟩) (v := ?_) rfl (by kernel_rfl) (by kernel_rfl) (by kernel_rfl) (fun _ _ _ h => h) (Or.inl ⟨by rfl, ?_⟩) hHeld ?_
  rotate_left
  · intro w' hS'
    (try dsimp only at hS')
    go_simp
    try with_reducible rfl
  try simp only [Act.put, List.setIfInBounds_toArray, List.set_cons_zero, List.set_cons_succ]
  refine wpAnyH_take (i := 22) (oi := ⟨some 167, _, _, _, _, _⟩) (v := ?_) rfl (by kernel_rfl) (by kernel_rfl) (by kernel_rfl) (fun _ _ _ h => h) (Or.inl ⟨by rfl, ?_⟩) hHeld ?_
  rotate_left
  · intro w' hS'
    (try dsimp only at hS')
    go_simp
    try with_reducible rfl
  try simp only [Act.put, List.setIfInBounds_toArray, List.set_cons_zero, List.set_cons_succ]
  refine wpAnyH_done (by kernel_rfl) ?_ _
  clear hHeld
  have hqq : Below wb.heap.size wb wb.drew := by first | exact (Below.refl _ _).drew | exact ((((Q.refl wb).drewN _).below _)).drew | exact (((Q.refl wb).drewN _).below _)
  have Hstq := Lib.hid (Hst.out.all hqq)
  have Oeq := Lib.hid (below_obj hqq Oeb.out (obj_lt Oeb.out))
  have Ozq := Lib.hid (below_obj hqq Ozb.out (obj_lt Ozb.out))
  have Hbq := Lib.hid (Hbb.out.trans (hqq.mono Hbb.out.size))
  have hwq := hqq.size
  clear hqq
  have Rq := Lib.hid (R1.out.all hy)
  have Kq := Lib.hid HT.out.1
  clear hy HT hzz hcn' hcn3
  generalize wb.drew = wq at *
  have HE1 := Lib.hid (fun (x : World) (hb : Below wq.heap.size wq x) => EvCells.layR (EvCells.of (below_obj hb Oeq.out (obj_lt Oeq.out))) H_h0.out H_h1.out H_h2.out H_h3.out H_h4.out H_h5.out)
  have hy : Below wq.heap.size wq wq.drew := (Below.refl _ _).drew
  have hGq := obj_lt Hstq.out.obj
  have HT := Lib.hid (fun (x : World) (hb : Below wq.heap.size wq x) => (⟨(hb.cell (p := ⟨wa.heap.size, 1 + eb, none⟩) hGq).trans Kq.out, HE1.out x hb⟩ : x.cell? ⟨wa.heap.size, 1 + eb, none⟩ = some (.slice (some ⟨bb, bo, none⟩) nb cb) ∧ x.cell? ⟨w.heap.size + 1, 0, none⟩ = some (.int .i64 1) ∧ x.cell? ⟨w.heap.size + 1, 1, none⟩ = some (.int .i64 (ea : Int)) ∧ x.cell? ⟨w.heap.size + 1, 2, none⟩ = some (.int .i64 (eb : Int)) ∧ x.cell? ⟨w.heap.size + 1, 3, none⟩ = some (.int .i64 (ec : Int)) ∧ x.cell? ⟨w.heap.size + 1, 4, none⟩ = some (.int .i64 (ed : Int)) ∧ x.cell? ⟨w.heap.size + 1, 5, none⟩ = some (.int .i64 (ef : Int))))
  have HF := Lib.hid (fun (x : World) (hb : Below wq.heap.size wq x) (j : Nat) => (hb.frozen (p := ⟨wa.heap.size, j, none⟩) hGq).trans (obj_free Hstq.out.obj j))
  go_wp2_with fail
  refine wp_region_T 12 (fun x => x.cell? ⟨wa.heap.size, 1 + eb, none⟩ = some (.slice (some ⟨bb, bo, none⟩) nb cb) ∧ x.cell? ⟨w.heap.size + 1, 0, none⟩ = some (.int .i64 1) ∧ x.cell? ⟨w.heap.size + 1, 1, none⟩ = some (.int .i64 (ea : Int)) ∧ x.cell? ⟨w.heap.size + 1, 2, none⟩ = some (.int .i64 (eb : Int)) ∧ x.cell? ⟨w.heap.size + 1, 3, none⟩ = some (.int .i64 (ec : Int)) ∧ x.cell? ⟨w.heap.size + 1, 4, none⟩ = some (.int .i64 (ed : Int)) ∧ x.cell? ⟨w.heap.size + 1, 5, none⟩ = some (.int .i64 (ef : Int))) (by kernel_rfl) (HT.out _ hy) (fun hHeld => ?_)
  refine wpAnyT_takeU (i := 0) (oi := ⟨some 169, _, _, _, _, _⟩) (v := ?_) rfl (by kernel_rfl) (by kernel_rfl) (by kernel_rfl) (by kernel_rfl) (fun _ _ _ h => h) (Or.inl ⟨by rfl, ?_⟩) (fun _ => hHeld) ?_
  rotate_left
  · intro w' hS'
    (try dsimp only at hS')
    go_simp
    try with_reducible rfl
  try simp only [Act.put, List.setIfInBounds_toArray, List.set_cons_zero, List.set_cons_succ]
  refine wpAnyT_take (i := 1) (oi := ⟨some 170, _, _, _, _, _⟩) (v := ?_) rfl (by kernel_rfl) (by kernel_rfl) (by kernel_rfl) (by kernel_rfl) (fun _ _ _ h => h) (Or.inl ⟨by rfl, ?_⟩) hHeld ?_
  rotate_left
  · intro w' hS'
    (try dsimp only at hS')
    go_simp
    try with_reducible rfl
  try simp only [Act.put, List.setIfInBounds_toArray, List.set_cons_zero, List.set_cons_succ]
  refine wpAnyT_takeU (i := 2) (oi := ⟨some 171, _, _, _, _, _⟩) (v := ?_) rfl (by kernel_rfl) (by kernel_rfl) (by kernel_rfl) (by kernel_rfl) (fun _ _ _ h => h) (Or.inl ⟨by rfl, ?_⟩) (fun _ => hHeld) ?_
  rotate_left
  · intro w' hS'
    (try dsimp only at hS')
    go_simp
    try with_reducible rfl
  try simp only [Act.put, List.setIfInBounds_toArray, List.set_cons_zero, List.set_cons_succ]
  refine wpAnyT_take (i := 3) (oi := ⟨some 172, _, _, _, _, _⟩) (v := ?_) rfl (by kernel_rfl) (by kernel_rfl) (by kernel_rfl) (by kernel_rfl) (fun _ _ _ h => h) (Or.inl ⟨by rfl, ?_⟩) hHeld ?_
  rotate_left
  · intro w' hS'
    (try dsimp only at hS')
    go_simp
    try with_reducible rfl
  try simp only [Act.put, List.setIfInBounds_toArray, List.set_cons_zero, List.set_cons_succ]
  refine wpAnyT_takeU (i := 4) (oi := ⟨some 173, _, _, _, _, _⟩) (v := ?_) rfl (by kernel_rfl) (by kernel_rfl) (by kernel_rfl) (by kernel_rfl) (fun _ _ _ h => h) (Or.inl ⟨by rfl, ?_⟩) (fun _ => hHeld) ?_
  rotate_left
  · intro w' hS'
    (try dsimp only at hS')
    go_simp
    try with_reducible rfl
  try simp only [Act.put, List.setIfInBounds_toArray, List.set_cons_zero, List.set_cons_succ]
  refine wpAnyT_takeU (i := 5) (oi := ⟨some 174, _, _, _, _, _⟩) (v := ?_) rfl (by kernel_rfl) (by kernel_rfl) (by kernel_rfl) (by kernel_rfl) (fun _ _ _ h => h) (Or.inl ⟨by rfl, ?_⟩) (fun _ => hHeld) ?_
  rotate_left
  · intro w' hS'
    (try dsimp only at hS')
    go_simp
    try with_reducible rfl
  try simp only [Act.put, List.setIfInBounds_toArray, List.set_cons_zero, List.set_cons_succ]
  refine wpAnyT_take (i := 6) (oi := ⟨some 175, _, _, _, _, _⟩) (v := ?_) rfl (by kernel_rfl) (by kernel_rfl) (by kernel_rfl) (by kernel_rfl) (fun _ _ _ h => h) (Or.inl ⟨by rfl, ?_⟩) hHeld ?_
  rotate_left
  · intro w' hS'
    (try dsimp only at hS')
    go_simp
    try with_reducible rfl
  try simp only [Act.put, List.setIfInBounds_toArray, List.set_cons_zero, List.set_cons_succ]
  refine wpAnyT_takeU (i := 7) (oi := ⟨some 176, _, _, _, _, _⟩) (v := ?_) rfl (by kernel_rfl) (by kernel_rfl) (by kernel_rfl) (by kernel_rfl) (fun _ _ _ h => h) (Or.inl ⟨by rfl, ?_⟩) (fun _ => hHeld) ?_
  rotate_left
  · intro w' hS'
    (try dsimp only at hS')
    go_simp
    try with_reducible rfl
  try simp only [Act.put, List.setIfInBounds_toArray, List.set_cons_zero, List.set_cons_succ]
  refine wpAnyT_take (i := 8) (oi := ⟨some 177, _, _, _, _, _⟩) (v := ?_) rfl (by kernel_rfl) (by kernel_rfl) (by kernel_rfl) (by kernel_rfl) (fun _ _ _ h => h) (Or.inl ⟨by rfl, ?_⟩) hHeld ?_
  rotate_left
  · intro w' hS'
    (try dsimp only at hS')
    go_simp
    try with_reducible rfl
  try simp only [Act.put, List.setIfInBounds_toArray, List.set_cons_zero, List.set_cons_succ]
  refine wpAnyT_takeU (i := 10) (oi := ⟨some 179, _, _, _, _, _⟩) (v := ?_) rfl (by kernel_rfl) (by kernel_rfl) (by kernel_rfl) (by kernel_rfl) (fun _ _ _ h => h) (Or.inl ⟨by rfl, ?_⟩) (fun _ => hHeld) ?_
  rotate_left
  · intro w' hS'
    (try dsimp only at hS')
    go_simp
    try with_reducible rfl
  try simp only [Act.put, List.setIfInBounds_toArray, List.set_cons_zero, List.set_cons_succ]
  refine wpAnyT_all (rs := [9]) (by kernel_rfl) (by simp) ?_
  intro ix hix
  obtain rfl : ix = 9 := by simpa using hix
  clear hix
  refine wpOp_step (o := ⟨some 178, _, _, _, _, _⟩) rfl (fun K hK => ?_)
  have HK := Lib.hid hK
  clear hK
  go_simp
  refine (refRem _ _ nb cb lb (Rq.out.all hy).sl (by omega) ec hcn).mono ?_
  rintro x w2 ⟨a2, c2, rfl, hr2, hf2, hb2⟩
  have Hr2 := Lib.hid hr2
  have Hf2 := Lib.hid (hf2.mono hy.size)
  replace hy := hy.trans (hb2.mono hy.size)
  clear hr2 hf2 hb2
  go_wp2_with fail
  refine HK.out _ _ ⟨fun _ => (HT.out _ hy), ?_⟩
  clear HK
  try clear hHeld
  have hHeld := (HT.out _ hy)
  try simp only [Act.put, List.setIfInBounds_toArray, List.set_cons_zero, List.set_cons_succ]
  refine wpAnyT_takeU (i := 11) (oi := ⟨some 180, _, _, _, _, _⟩) (v := ?_) rfl (by kernel_rfl) (by kernel_rfl) (by kernel_rfl) (by kernel_rfl) (fun _ _ _ h => h) (Or.inl ⟨by rfl, ?_⟩) (fun _ => hHeld) ?_
  rotate_left
  · intro w' hS'
    (try dsimp only at hS')
    go_simp
    try with_reducible rfl
  try simp only [Act.put, List.setIfInBounds_toArray, List.set_cons_zero, List.set_cons_succ]
  refine wpAnyT_all (rs := [12]) (by kernel_rfl) (by simp) ?_
  intro ix hix
  obtain rfl : ix = 12 := by simpa using hix
  clear hix
  refine wpOp_step (o := ⟨none, _, _, _, _, _⟩) rfl (fun K hK => ?_)
  have HK := Lib.hid hK
  clear hK
  have kf := HF.out _ hy (1 + eb)
  have kc := (HT.out _ hy).1
  go_simp
  go_wp2_with fail
  refine HK.out _ _ ⟨tl (by kernel_rfl), ?_⟩
  clear HK
  try clear hHeld
  try simp only [Act.put, List.setIfInBounds_toArray, List.set_cons_zero, List.set_cons_succ]
  refine wpAnyT_done (by kernel_rfl) ?_ _
  have hs1 := Hstq.out.setSl (s' := ⟨s.o, s.l.set eb (remAt lb ec), s.p⟩) hy (by omega) (1 + eb) (by omega) (a := a2) (n := nb - 1) (c := c2) (by rw [(set_self s _ (by rw [Ok.out.l]; omega) _).1, remAt_len lb ec (by have := Hnb.out; omega), Hnb.out]) (by rw [(set_self s _ (by rw [Ok.out.l]; omega) _).2, (ty_sz _).1, (ty_sz _).2]; exact Hr2.out) (fun ad he => .inl (Hf2.out ad he)) (fun j hj hji => set_other' s _ _ j hji) rfl
  have Hs1 := Lib.hid hs1
  have Oe1' := Lib.hid (setCell_obj (p := ⟨wa.heap.size, 1 + eb, none⟩) (u := (.slice a2 (nb - 1) c2)) (below_obj hy Oeq.out (obj_lt Oeq.out)) (by show w.heap.size + 1 ≠ wa.heap.size; omega))
  have Oz1' := Lib.hid (setCell_obj (p := ⟨wa.heap.size, 1 + eb, none⟩) (u := (.slice a2 (nb - 1) c2)) (below_obj hy Ozq.out (obj_lt Ozq.out)) (by show w.heap.size + 1 + 1 ≠ wa.heap.size; omega))
  have Hb1' := Lib.hid ((Hbq.out.trans (hy.mono Hbq.out.size)).setCell (p := ⟨wa.heap.size, 1 + eb, none⟩) (by show w.heap.size ≤ wa.heap.size; omega) (.slice a2 (nb - 1) c2))
  have hws : wq.heap.size ≤ (w2.setCell ⟨wa.heap.size, 1 + eb, none⟩ (.slice a2 (nb - 1) c2)).heap.size := by have := hy.size; simp; omega
  generalize (w2.setCell ⟨wa.heap.size, 1 + eb, none⟩ (.slice a2 (nb - 1) c2)) = W1 at *
  clear hs1 kf kc
  obtain ⟨ad, cd, h4, r4, f4⟩ := Hs1.out.own.szl ed hd11
  have k4 := (obj_cell Hs1.out.obj (1 + ed)).trans h4
  have hto : (s.l.set eb (remAt lb ec)).getD ed [] = mvTo s e := by rw [getD_set]; unfold mvTo mvOut; rw [H_h2.out, H_h3.out, H_h4.out, Hlb.out]; by_cases hde : ed = eb; (rw [if_pos ⟨hde.symm, by rw [Ok.out.l]; omega⟩, if_pos (by omega)]; simp [lst]); (rw [if_neg (fun h => hde h.1.symm), if_neg (by omega)]; rfl)
  change _ = some (Value.slice ad ((s.l.set eb (remAt lb ec)).getD ed []).length cd) at k4
  change RowAt W1 _ 1 ad ((s.l.set eb (remAt lb ec)).getD ed []).length cd (((s.l.set eb (remAt lb ec)).getD ed []).map (.int .i64)) at r4
  rw [hto] at k4 r4
  obtain ⟨toL, htoL⟩ : ∃ toL, toL = mvTo s e := ⟨_, rfl⟩
  rw [← htoL] at k4 r4 Hr3
  have htl : toL.length ≤ 100000 := by rw [htoL, ← hto, getD_set]; split; (exact Nat.le_trans (remAt_le _ _) (by have := Hnb.out; omega)); (exact Fi.out.l ed)
  have HtoL := Lib.hid htoL
  clear htoL hto
  obtain ⟨tn, htn⟩ : ∃ tn, tn = toL.length := ⟨_, rfl⟩
  rw [← htn] at k4 r4 Hr3 htl
  have Htn := Lib.hid htn
  have hcd := r4.le
  have hmd := r4.max
  unfold maxLen at hmd
  have R4 := Lib.hid r4
  clear htn h4 r4 f4
  obtain ⟨y0, y1, y2, y3, y4, y5⟩ := EvCells.layR (EvCells.of Oe1'.out) H_h0.out H_h1.out H_h2.out H_h3.out H_h4.out H_h5.out
  clear y0 y1 y2 y3
  by_cases hf : ef ≤ tn
  rotate_left
  · have hf' : (tn : Int) < (ef : Int) := by omega
    have hf2 : tn < ef := by omega
    have Hr2 := Lib.hid (show r = 1 by rw [Hr3.out, if_pos (by omega)])
    go_wp2_with fail
    go_quiet (fail)
    have hqv : Below W1.heap.size W1 (W1.drewN nq) := by first | exact (Below.refl _ _).drew | exact ((((Q.refl W1).drewN _).below _)).drew | exact (((Q.refl W1).drewN _).below _)
    have Hstv := Lib.hid (Hs1.out.all hqv)
    have Oev := Lib.hid (below_obj hqv Oe1'.out (obj_lt Oe1'.out))
    have Ozv := Lib.hid (below_obj hqv Oz1'.out (obj_lt Oz1'.out))
    have Hbv := Lib.hid (Hb1'.out.trans (hqv.mono Hb1'.out.size))
    have hwv := hqv.size
    clear hqv
    clear k4 y4 y5
    generalize W1.drewN nq = wv at *
    go_wp2_with (refine wpList_store_whole rfl 79 (.tmp 4) (.tmp 190) rfl (w.heap.size + 1 + 1) rfl 79 zSt zSt rfl Ozv.out Try.sizeSt rfl (zSt_O 0 w).c.one ?_; intro wz hobj hupdz)
    refine bodyPost_ret (results_cell_slot rfl _ wz (w.heap.size + 1 + 1) 79 zSt (0, 0) _ rfl hobj Try.underlying79 rfl Try.sizeSt) rfl ?_
    exact ⟨zSt, by rw [Hr2.out]; rfl, by rw [Hr2.out, if_neg (by decide)]; exact zSt_O _ _, (Hbv.out).trans (hupdz.below (by have := Hbb.out.size; have := (Hbv.out).size; omega) (fun k hk hb => by change _ = _ at hb; omega))⟩
  have hf' : ¬ (tn : Int) < (ef : Int) := by omega
  have hf2 : ¬ tn < ef := by omega
  have Hr0 := Lib.hid (show r = 0 by rw [Hr3.out, if_neg (by omega)])
  go_wp2_with fail
  go_quiet (fail)
  have hqv : Below W1.heap.size W1 (W1.drewN nq) := by first | exact (Below.refl _ _).drew | exact ((((Q.refl W1).drewN _).below _)).drew | exact (((Q.refl W1).drewN _).below _)
  have Hstv := Lib.hid (Hs1.out.all hqv)
  have Oev := Lib.hid (below_obj hqv Oe1'.out (obj_lt Oe1'.out))
  have Ozv := Lib.hid (below_obj hqv Oz1'.out (obj_lt Oz1'.out))
  have Hbv := Lib.hid (Hb1'.out.trans (hqv.mono Hb1'.out.size))
  have hwv := hqv.size
  clear hqv
  have K4 : Hid ((W1.drewN nq).cell? ⟨wa.heap.size, 1 + ed, none⟩ = some (.slice ad tn cd)) := Lib.hid k4
  have Rv := Lib.hid (R4.out.all ((((Q.refl W1).drewN nq).below _)))
  clear k4 y4 y5 hf' hf2 Hr3
  generalize W1.drewN nq = wv at *
  have HE2 := Lib.hid (fun (x : World) (hb : Below wv.heap.size wv x) => EvCells.layR (EvCells.of (below_obj hb Oev.out (obj_lt Oev.out))) H_h0.out H_h1.out H_h2.out H_h3.out H_h4.out H_h5.out)
  have hy2 : Below wv.heap.size wv wv.drew := (Below.refl _ _).drew
  have hGv := obj_lt Hstv.out.obj
  have HT2 := Lib.hid (fun (x : World) (hb : Below wv.heap.size wv x) => (⟨(hb.cell (p := ⟨wa.heap.size, 1 + ed, none⟩) hGv).trans K4.out, HE2.out x hb⟩ : x.cell? ⟨wa.heap.size, 1 + ed, none⟩ = some (.slice ad tn cd) ∧ x.cell? ⟨w.heap.size + 1, 0, none⟩ = some (.int .i64 1) ∧ x.cell? ⟨w.heap.size + 1, 1, none⟩ = some (.int .i64 (ea : Int)) ∧ x.cell? ⟨w.heap.size + 1, 2, none⟩ = some (.int .i64 (eb : Int)) ∧ x.cell? ⟨w.heap.size + 1, 3, none⟩ = some (.int .i64 (ec : Int)) ∧ x.cell? ⟨w.heap.size + 1, 4, none⟩ = some (.int .i64 (ed : Int)) ∧ x.cell? ⟨w.heap.size + 1, 5, none⟩ = some (.int .i64 (ef : Int))))
  have HF2 := Lib.hid (fun (x : World) (hb : Below wv.heap.size wv x) (j : Nat) => (hb.frozen (p := ⟨wa.heap.size, j, none⟩) hGv).trans (obj_free Hstv.out.obj j))
  go_wp2_with fail
  refine wp_region_T 14 (fun x => x.cell? ⟨wa.heap.size, 1 + ed, none⟩ = some (.slice ad tn cd) ∧ x.cell? ⟨w.heap.size + 1, 0, none⟩ = some (.int .i64 1) ∧ x.cell? ⟨w.heap.size + 1, 1, none⟩ = some (.int .i64 (ea : Int)) ∧ x.cell? ⟨w.heap.size + 1, 2, none⟩ = some (.int .i64 (eb : Int)) ∧ x.cell? ⟨w.heap.size + 1, 3, none⟩ = some (.int .i64 (ec : Int)) ∧ x.cell? ⟨w.heap.size + 1, 4, none⟩ = some (.int .i64 (ed : Int)) ∧ x.cell? ⟨w.heap.size + 1, 5, none⟩ = some (.int .i64 (ef : Int))) (by kernel_rfl) (HT2.out _ hy2) (fun hHeld => ?_)
  refine wpAnyT_takeU (i := 0) (oi := ⟨some 191, _, _, _, _, _⟩) (v := ?_) rfl (by kernel_rfl) (by kernel_rfl) (by kernel_rfl) (by kernel_rfl) (fun _ _ _ h => h) (Or.inl ⟨by rfl, ?_⟩) (fun _ => hHeld) ?_
  rotate_left
  · intro w' hS'
    (try dsimp only at hS')
    go_simp
    try with_reducible rfl
  try simp only [Act.put, List.setIfInBounds_toArray, List.set_cons_zero, List.set_cons_succ]
  refine wpAnyT_take (i := 1) (oi := ⟨some 192, _, _, _, _, _⟩) (v := ?_) rfl (by kernel_rfl) (by kernel_rfl) (by kernel_rfl) (by kernel_rfl) (fun _ _ _ h => h) (Or.inl ⟨by rfl, ?_⟩) hHeld ?_
  rotate_left
  · intro w' hS'
    (try dsimp only at hS')
    go_simp
    try with_reducible rfl
  try simp only [Act.put, List.setIfInBounds_toArray, List.set_cons_zero, List.set_cons_succ]
  refine wpAnyT_takeU (i := 2) (oi := ⟨some 193, _, _, _, _, _⟩) (v := ?_) rfl (by kernel_rfl) (by kernel_rfl) (by kernel_rfl) (by kernel_rfl) (fun _ _ _ h => h) (Or.inl ⟨by rfl, ?_⟩) (fun _ => hHeld) ?_
  rotate_left
  · intro w' hS'
    (try dsimp only at hS')
    go_simp
    try with_reducible rfl
  try simp only [Act.put, List.setIfInBounds_toArray, List.set_cons_zero, List.set_cons_succ]
  refine wpAnyT_take (i := 3) (oi := ⟨some 194, _, _, _, _, _⟩) (v := ?_) rfl (by kernel_rfl) (by kernel_rfl) (by kernel_rfl) (by kernel_rfl) (fun _ _ _ h => h) (Or.inl ⟨by rfl, ?_⟩) hHeld ?_
  rotate_left
  · intro w' hS'
    (try dsimp only at hS')
    go_simp
    try with_reducible rfl
  try simp only [Act.put, List.setIfInBounds_toArray, List.set_cons_zero, List.set_cons_succ]
  refine wpAnyT_takeU (i := 4) (oi := ⟨some 195, _, _, _, _, _⟩) (v := ?_) rfl (by kernel_rfl) (by kernel_rfl) (by kernel_rfl) (by kernel_rfl) (fun _ _ _ h => h) (Or.inl ⟨by rfl, ?_⟩) (fun _ => hHeld) ?_
  rotate_left
  · intro w' hS'
    (try dsimp only at hS')
    go_simp
    try with_reducible rfl
  try simp only [Act.put, List.setIfInBounds_toArray, List.set_cons_zero, List.set_cons_succ]
  refine wpAnyT_takeU (i := 5) (oi := ⟨some 196, _, _, _, _, _⟩) (v := ?_) rfl (by kernel_rfl) (by kernel_rfl) (by kernel_rfl) (by kernel_rfl) (fun _ _ _ h => h) (Or.inl ⟨by rfl, ?_⟩) (fun _ => hHeld) ?_
  rotate_left
  · intro w' hS'
    (try dsimp only at hS')
    go_simp
    try with_reducible rfl
  try simp only [Act.put, List.setIfInBounds_toArray, List.set_cons_zero, List.set_cons_succ]
  refine wpAnyT_take (i := 6) (oi := ⟨some 197, _, _, _, _, _⟩) (v := ?_) rfl (by kernel_rfl) (by kernel_rfl) (by kernel_rfl) (by kernel_rfl) (fun _ _ _ h => h) (Or.inl ⟨by rfl, ?_⟩) hHeld ?_
  rotate_left
  · intro w' hS'
    (try dsimp only at hS')
    go_simp
    try with_reducible rfl
  try simp only [Act.put, List.setIfInBounds_toArray, List.set_cons_zero, List.set_cons_succ]
  refine wpAnyT_takeU (i := 7) (oi := ⟨some 198, _, _, _, _, _⟩) (v := ?_) rfl (by kernel_rfl) (by kernel_rfl) (by kernel_rfl) (by kernel_rfl) (fun _ _ _ h => h) (Or.inl ⟨by rfl, ?_⟩) (fun _ => hHeld) ?_
  rotate_left
  · intro w' hS'
    (try dsimp only at hS')
    go_simp
    try with_reducible rfl
  try simp only [Act.put, List.setIfInBounds_toArray, List.set_cons_zero, List.set_cons_succ]
  refine wpAnyT_take (i := 8) (oi := ⟨some 199, _, _, _, _, _⟩) (v := ?_) rfl (by kernel_rfl) (by kernel_rfl) (by kernel_rfl) (by kernel_rfl) (fun _ _ _ h => h) (Or.inl ⟨by rfl, ?_⟩) hHeld ?_
  rotate_left
  · intro w' hS'
    (try dsimp only at hS')
    go_simp
    try with_reducible rfl
  try simp only [Act.put, List.setIfInBounds_toArray, List.set_cons_zero, List.set_cons_succ]
  refine wpAnyT_takeU (i := 9) (oi := ⟨some 200, _, _, _, _, _⟩) (v := ?_) rfl (by kernel_rfl) (by kernel_rfl) (by kernel_rfl) (by kernel_rfl) (fun _ _ _ h => h) (Or.inl ⟨by rfl, ?_⟩) (fun _ => hHeld) ?_
  rotate_left
  · intro w' hS'
    (try dsimp only at hS')
    go_simp
    try with_reducible rfl
  try simp only [Act.put, List.setIfInBounds_toArray, List.set_cons_zero, List.set_cons_succ]
  refine wpAnyT_take (i := 10) (oi := ⟨some 201, _, _, _, _, _⟩) (v := ?_) rfl (by kernel_rfl) (by kernel_rfl) (by kernel_rfl) (by kernel_rfl) (fun _ _ _ h => h) (Or.inl ⟨by rfl, ?_⟩) hHeld ?_
  rotate_left
  · intro w' hS'
    (try dsimp only at hS')
    go_simp
    try with_reducible rfl
  try simp only [Act.put, List.setIfInBounds_toArray, List.set_cons_zero, List.set_cons_succ]
  refine wpAnyT_takeU (i := 12) (oi := ⟨some 203, _, _, _, _, _⟩) (v := ?_) rfl (by kernel_rfl) (by kernel_rfl) (by kernel_rfl) (by kernel_rfl) (fun _ _ _ h => h) (Or.inl ⟨by rfl, ?_⟩) (fun _ => hHeld) ?_
  rotate_left
  · intro w' hS'
    (try dsimp only at hS')
    go_simp
    try with_reducible rfl
  try simp only [Act.put, List.setIfInBounds_toArray, List.set_cons_zero, List.set_cons_succ]
  refine wpAnyT_all (rs := [11]) (by kernel_rfl) (by simp) ?_
  intro ix hix
  obtain rfl : ix = 11 := by simpa using hix
  clear hix
  refine wpOp_step (o := ⟨some 202, _, _, _, _, _⟩) rfl (fun K hK => ?_)
  have HK := Lib.hid hK
  clear hK
  go_simp
  refine (refIns _ _ tn cd toL (Rv.out.all hy2).sl (by omega) ef hf (ea : Int)).mono ?_
  rintro x w5 ⟨a5, c5, rfl, hr5, hf5, hb5⟩
  have Hr5 := Lib.hid hr5
  have Hf5 := Lib.hid (hf5.mono hy2.size)
  replace hy2 := hy2.trans (hb5.mono hy2.size)
  clear hr5 hf5 hb5
  go_wp2_with fail
  refine HK.out _ _ ⟨fun _ => (HT2.out _ hy2), ?_⟩
  clear HK
  try clear hHeld
  have hHeld := (HT2.out _ hy2)
  try simp only [Act.put, List.setIfInBounds_toArray, List.set_cons_zero, List.set_cons_succ]
  refine wpAnyT_takeU (i := 13) (oi := ⟨some 204, _, _, _, _, _⟩) (v := ?_) rfl (by kernel_rfl) (by kernel_rfl) (by kernel_rfl) (by kernel_rfl) (fun _ _ _ h => h) (Or.inl ⟨by rfl, ?_⟩) (fun _ => hHeld) ?_
  rotate_left
  · intro w' hS'
    (try dsimp only at hS')
    go_simp
    try with_reducible rfl
  try simp only [Act.put, List.setIfInBounds_toArray, List.set_cons_zero, List.set_cons_succ]
  refine wpAnyT_all (rs := [14]) (by kernel_rfl) (by simp) ?_
  intro ix hix
  obtain rfl : ix = 14 := by simpa using hix
  clear hix
  refine wpOp_step (o := ⟨none, _, _, _, _, _⟩) rfl (fun K hK => ?_)
  have HK := Lib.hid hK
  clear hK
  have kf := HF2.out _ hy2 (1 + ed)
  have kc := (HT2.out _ hy2).1
  go_simp
  go_wp2_with fail
  refine HK.out _ _ ⟨tl (by kernel_rfl), ?_⟩
  clear HK
  try clear hHeld
  try simp only [Act.put, List.setIfInBounds_toArray, List.set_cons_zero, List.set_cons_succ]
  refine wpAnyT_done (by kernel_rfl) ?_ _
  have hs2 := Hstv.out.setSl (s' := ⟨s.o, (s.l.set eb (remAt lb ec)).set ed (insAt toL ef (ea : Int)), s.p⟩) hy2 (by omega) (1 + ed) (by omega) (a := a5) (n := tn + 1) (c := c5) (by rw [(set_self ⟨s.o, s.l.set eb (remAt lb ec), s.p⟩ _ (by simp [Ok.out.l]; omega) _).1, insAt_len, Htn.out]) (by rw [(set_self ⟨s.o, s.l.set eb (remAt lb ec), s.p⟩ _ (by simp [Ok.out.l]; omega) _).2, (ty_sz _).1, (ty_sz _).2]; exact Hr5.out) (fun ad he => .inl (Hf5.out ad he)) (fun j hj hji => set_other' ⟨s.o, s.l.set eb (remAt lb ec), s.p⟩ _ _ j hji) rfl
  have Hs2 := Lib.hid hs2
  have Oe2' := Lib.hid (setCell_obj (p := ⟨wa.heap.size, 1 + ed, none⟩) (u := (.slice a5 (tn + 1) c5)) (below_obj hy2 Oev.out (obj_lt Oev.out)) (by show w.heap.size + 1 ≠ wa.heap.size; omega))
  have Oz2' := Lib.hid (setCell_obj (p := ⟨wa.heap.size, 1 + ed, none⟩) (u := (.slice a5 (tn + 1) c5)) (below_obj hy2 Ozv.out (obj_lt Ozv.out)) (by show w.heap.size + 1 + 1 ≠ wa.heap.size; omega))
  have Hb2' := Lib.hid ((Hbv.out.trans (hy2.mono Hbv.out.size)).setCell (p := ⟨wa.heap.size, 1 + ed, none⟩) (by show w.heap.size ≤ wa.heap.size; omega) (.slice a5 (tn + 1) c5))
  have hws2 : wv.heap.size ≤ (w5.setCell ⟨wa.heap.size, 1 + ed, none⟩ (.slice a5 (tn + 1) c5)).heap.size := by have := hy2.size; simp; omega
  generalize (w5.setCell ⟨wa.heap.size, 1 + ed, none⟩ (.slice a5 (tn + 1) c5)) = W2 at *
  clear hs2 kf kc
  obtain ⟨a6, c6, h6, r6, f6⟩ := Hs2.out.own.sz0
  have k6 : W2.cell? ⟨wa.heap.size, 0, none⟩ = some (.slice a6 s.o.length c6) := (obj_cell Hs2.out.obj 0).trans h6
  change RowAt W2 _ 18 a6 s.o.length c6 (objs s.o) at r6
  obtain ⟨ob, oo, rfl, hob, hoc⟩ := r6.sl.nonempty (by omega)
  have hkc := hoc (ea * 18 + 3) _ (objs_get s.o Ok.out.o ea 3 hlen' (by decide))
  rw [← Nat.add_assoc] at hkc
  obtain ⟨_, cur, hcur, _, _⟩ := r6.row _ rfl
  have kf := obj_free hcur (oo + ea * 18 + 3)
  have HT3 := Lib.hid (And.intro (show W2.drew.cell? ⟨wa.heap.size, 0, none⟩ = some (.slice (some ⟨ob, oo, none⟩) s.o.length c6) from k6) (show W2.drew.cell? ⟨w.heap.size + 1, 0, none⟩ = some (.int .i64 1) ∧ W2.drew.cell? ⟨w.heap.size + 1, 1, none⟩ = some (.int .i64 (ea : Int)) ∧ W2.drew.cell? ⟨w.heap.size + 1, 2, none⟩ = some (.int .i64 (eb : Int)) ∧ W2.drew.cell? ⟨w.heap.size + 1, 3, none⟩ = some (.int .i64 (ec : Int)) ∧ W2.drew.cell? ⟨w.heap.size + 1, 4, none⟩ = some (.int .i64 (ed : Int)) ∧ W2.drew.cell? ⟨w.heap.size + 1, 5, none⟩ = some (.int .i64 (ef : Int)) from EvCells.layR (EvCells.of Oe2'.out) H_h0.out H_h1.out H_h2.out H_h3.out H_h4.out H_h5.out))
  have hs4 := Hs2.out.setObj Ok.out.o h6 ea 3 hlen' (by decide) (ed : Int)
  have hob2 := hs4.2
  have hst4 := hs4.1
  rw [← Nat.add_assoc] at hst4
  have Hst4 := Lib.hid hst4
  clear k6 h6 r6 f6 hoc hcur hs4 hst4
  have hai : (ea : Int) < (s.o.length : Int) := by omega
  go_wp2_with fail
  refine wp_region_T 8 (fun x => x.cell? ⟨wa.heap.size, 0, none⟩ = some (.slice (some ⟨ob, oo, none⟩) s.o.length c6) ∧ x.cell? ⟨w.heap.size + 1, 0, none⟩ = some (.int .i64 1) ∧ x.cell? ⟨w.heap.size + 1, 1, none⟩ = some (.int .i64 (ea : Int)) ∧ x.cell? ⟨w.heap.size + 1, 2, none⟩ = some (.int .i64 (eb : Int)) ∧ x.cell? ⟨w.heap.size + 1, 3, none⟩ = some (.int .i64 (ec : Int)) ∧ x.cell? ⟨w.heap.size + 1, 4, none⟩ = some (.int .i64 (ed : Int)) ∧ x.cell? ⟨w.heap.size + 1, 5, none⟩ = some (.int .i64 (ef : Int))) (by kernel_rfl) HT3.out (fun hHeld => ?_)
  refine wpAnyT_takeU (i := 0) (oi := ⟨some 205, _, _, _, _, _⟩) (v := ?_) rfl (by kernel_rfl) (by kernel_rfl) (by kernel_rfl) (by kernel_rfl) (fun _ _ _ h => h) (Or.inl ⟨by rfl, ?_⟩) (fun _ => hHeld) ?_
  rotate_left
  · intro w' hS'
    (try dsimp only at hS')
    go_simp
    try with_reducible rfl
  try simp only [Act.put, List.setIfInBounds_toArray, List.set_cons_zero, List.set_cons_succ]
  refine wpAnyT_take (i := 1) (oi := ⟨some 206, _, _, _, _, _⟩) (v := ?_) rfl (by kernel_rfl) (by kernel_rfl) (by kernel_rfl) (by kernel_rfl) (fun _ _ _ h => h) (Or.inl ⟨by rfl, ?_⟩) hHeld ?_
  rotate_left
  · intro w' hS'
    (try dsimp only at hS')
    go_simp
    try with_reducible rfl
  try simp only [Act.put, List.setIfInBounds_toArray, List.set_cons_zero, List.set_cons_succ]
  refine wpAnyT_takeU (i := 2) (oi := ⟨some 207, _, _, _, _, _⟩) (v := ?_) rfl (by kernel_rfl) (by kernel_rfl) (by kernel_rfl) (by kernel_rfl) (fun _ _ _ h => h) (Or.inl ⟨by rfl, ?_⟩) (fun _ => hHeld) ?_
  rotate_left
  · intro w' hS'
    (try dsimp only at hS')
    go_simp
    try with_reducible rfl
  try simp only [Act.put, List.setIfInBounds_toArray, List.set_cons_zero, List.set_cons_succ]
  refine wpAnyT_take (i := 3) (oi := ⟨some 208, _, _, _, _, _⟩) (v := ?_) rfl (by kernel_rfl) (by kernel_rfl) (by kernel_rfl) (by kernel_rfl) (fun _ _ _ h => h) (Or.inl ⟨by rfl, ?_⟩) hHeld ?_
  rotate_left
  · intro w' hS'
    (try dsimp only at hS')
    go_simp
    try with_reducible rfl
  try simp only [Act.put, List.setIfInBounds_toArray, List.set_cons_zero, List.set_cons_succ]
  refine wpAnyT_takeU (i := 4) (oi := ⟨some 209, _, _, _, _, _⟩) (v := ?_) rfl (by kernel_rfl) (by kernel_rfl) (by kernel_rfl) (by kernel_rfl) (fun _ _ _ h => h) (Or.inl ⟨by rfl, ?_⟩) (fun _ => hHeld) ?_
  rotate_left
  · intro w' hS'
    (try dsimp only at hS')
    go_simp
    try with_reducible rfl
  try simp only [Act.put, List.setIfInBounds_toArray, List.set_cons_zero, List.set_cons_succ]
  refine wpAnyT_take (i := 5) (oi := ⟨some 210, _, _, _, _, _⟩) (v := ?_) rfl (by kernel_rfl) (by kernel_rfl) (by kernel_rfl) (by kernel_rfl) (fun _ _ _ h => h) (Or.inl ⟨by rfl, ?_⟩) hHeld ?_
  rotate_left
  · intro w' hS'
    (try dsimp only at hS')
    go_simp
    try with_reducible rfl
  try simp only [Act.put, List.setIfInBounds_toArray, List.set_cons_zero, List.set_cons_succ]
  refine wpAnyT_takeU (i := 6) (oi := ⟨some 211, _, _, _, _, _⟩) (v := ?_) rfl (by kernel_rfl) (by kernel_rfl) (by kernel_rfl) (by kernel_rfl) (fun _ _ _ h => h) (Or.inl ⟨by rfl, ?_⟩) (fun _ => hHeld) ?_
  rotate_left
  · intro w' hS'
    (try dsimp only at hS')
    go_simp
    try with_reducible rfl
  try simp only [Act.put, List.setIfInBounds_toArray, List.set_cons_zero, List.set_cons_succ]
  refine wpAnyT_takeU (i := 7) (oi := ⟨some 212, _, _, _, _, _⟩) (v := ?_) rfl (by kernel_rfl) (by kernel_rfl) (by kernel_rfl) (by kernel_rfl) (fun _ _ _ h => h) (Or.inl ⟨by rfl, ?_⟩) (fun _ => hHeld) ?_
  rotate_left
  · intro w' hS'
    (try dsimp only at hS')
    go_simp
    try with_reducible rfl
  try simp only [Act.put, List.setIfInBounds_toArray, List.set_cons_zero, List.set_cons_succ]
  refine wpAnyT_all (rs := [8]) (by kernel_rfl) (by simp) ?_
  intro ix hix
  obtain rfl : ix = 8 := by simpa using hix
  clear hix
  refine wpOp_step (o := ⟨none, _, _, _, _, _⟩) rfl (fun K hK => ?_)
  have HK := Lib.hid hK
  clear hK
  go_simp
  go_wp2_with fail
  refine HK.out _ _ ⟨tl (by kernel_rfl), ?_⟩
  clear HK
  try clear hHeld
  try simp only [Act.put, List.setIfInBounds_toArray, List.set_cons_zero, List.set_cons_succ]
  refine wpAnyT_done (by kernel_rfl) ?_ _
  have Hst3 := Lib.hid (show StAt (W2.setCell ⟨ob, oo + ea * 18 + 3, none⟩ (.int .i64 (ed : Int))).drew w1.heap.size wa.heap.size t _ by rw [H_ht.out, show mvS s e = ⟨s.o.set ea ((s.o.getD ea []).set 3 (ed : Int)), (s.l.set eb (remAt lb ec)).set ed (insAt toL ef (ea : Int)), s.p⟩ by rw [HtoL.out, mvS, mvOut, H_h1.out, H_h2.out, H_h3.out, H_h4.out, H_h5.out, Hlb.out]; rfl]; exact Hst4.out.all ((Below.refl _ _).drew))
  have Oz3 := Lib.hid (show (W2.setCell ⟨ob, oo + ea * 18 + 3, none⟩ (.int .i64 (ed : Int))).drew.heap[w.heap.size + 1 + 1]? = _ from setCell_obj (p := ⟨ob, oo + ea * 18 + 3, none⟩) Oz2'.out (by show w.heap.size + 1 + 1 ≠ ob; omega))
  have Hb3 := Lib.hid (show Below w.heap.size w (W2.setCell ⟨ob, oo + ea * 18 + 3, none⟩ (.int .i64 (ed : Int))).drew from (Hb2'.out.setCell (p := ⟨ob, oo + ea * 18 + 3, none⟩) (by show w.heap.size ≤ ob; omega) _).drew)
  generalize (W2.setCell ⟨ob, oo + ea * 18 + 3, none⟩ (.int .i64 (ed : Int))).drew = w3 at *
  clear kf hkc
  have hcd := Hst3.out.own.size
  go_wp2_with (first | (refine wpList_load_whole rfl 79 (.tmp 7) rfl wa.heap.size rfl 79 _ (0, 0) Hst3.out.obj _ Try.underlying79 rfl (by rw [hcd]; exact Try.sizeSt) ?_) | (refine wpList_store_whole rfl 79 (.tmp 4) (.tmp 266) rfl (w.heap.size + 1 + 1) rfl 79 zSt _ rfl Oz3.out (by rw [hcd]; exact Try.sizeSt) (by rw [hcd]; rfl) Hst3.out.own.c.one ?_; intro wz hobj hupdz))
  refine bodyPost_ret (results_cell_slot rfl _ wz (w.heap.size + 1 + 1) 79 _ (0, 0) _ rfl hobj Try.underlying79 rfl (by rw [hcd]; exact Try.sizeSt)) rfl ?_
  exact ⟨_, by rw [Hr0.out]; rfl, by rw [Hr0.out, if_pos rfl]; exact (Hst3.out.own.upd hupdz (fun i a c hi he ad hd hb => by have h9 := Hst3.out.own.fresh i a c hi he ad hd; change _ = _ at hb; omega)).mono (by omega), (Hb3.out).trans (hupdz.below (by have := (Hb3.out).size; omega) (fun k hk hb => by change _ = _ at hb; omega))⟩
end Go.Proofs.Ytpbocficffbcbaa
