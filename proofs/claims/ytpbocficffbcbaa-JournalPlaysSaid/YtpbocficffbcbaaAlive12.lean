import Derived.Test.YtpbocficffbcbaaState4
namespace Go.Proofs.Ytpbocficffbcbaa
open Go Go.RowKit
set_option linter.unusedVariables false
set_option linter.unusedSimpArgs false

abbrev eA : Ev := ⟨3, 0, 0, 20, 17, 0⟩
def sA : St := setP st0 0 20
abbrev cA : Array Value := zSt.setIfInBounds 12 (.int .i64 20)
theorem cA_O (B : Nat) (w : World) : StO B w cA sA := by
  have h := (StAt.setP (w := w.alloc (.cells zSt 79)) (B := B) (g := w.heap.size) (s := st0) (cs := zSt) ⟨alloc_new w _, zSt_O _ _, fun i a c hi he ad hd => by
    subst hd
    exfalso
    match i, hi with | 0, _ | 1, _ | 2, _ | 3, _ | 4, _ | 5, _ | 6, _ | 7, _ | 8, _ | 9, _ | 10, _ | 11, _ => simp [zSt] at he⟩ 0 (by decide) rfl 20).own
  refine ⟨h.size, fun i hi => ?_, h.dis, h.num⟩
  obtain ⟨a, c, h1, _⟩ := h.sl i hi
  obtain ⟨a', c', h1', h2', h3'⟩ := (zSt_O B w).sl i hi
  exact ⟨a', c', (Array.getElem?_setIfInBounds_ne (by omega)).trans h1', h2', h3'⟩

theorem chk_eA : chk eA = 0 := by decide
abbrev eB : Ev := ⟨3, 0, 0, 17, 20, 0⟩
theorem chk_eB : chk eB = 0 := by decide
def sB : St := setP sA 0 17
def sC : St := setP sB 0 20
theorem sA_ok : StOk sA := ⟨st0_ok.o, st0_ok.l, by simp [sA, setP, st0]⟩
theorem sB_ok : StOk sB := ⟨st0_ok.o, st0_ok.l, by simp [sB, sA, setP, st0]⟩
theorem applyA (w : World) (cs : Array Value) (h : StC w cs sA) : Calls Try.prog 57 #[.agg cs, evV eA] w (ApTo w sB 0) :=
  apply_of w cs sA sB eA 0 h (fun i _ => by rw [show lenOf sA i = 0 from lenOf_st0 i]; decide) (fun w B g cs h _ => doPlayer w B g cs sA h sA_ok eA 0 0 (by decide) (by decide) rfl rfl rfl chk_eA 0 (by decide) sB rfl)
theorem applyB (w : World) (cs : Array Value) (h : StC w cs sB) : Calls Try.prog 57 #[.agg cs, evV eB] w (ApTo w sC 0) :=
  apply_of w cs sB sC eB 0 h (fun i _ => by rw [show lenOf sB i = 0 from lenOf_st0 i]; decide) (fun w B g cs h _ => doPlayer w B g cs sB h sB_ok eB 0 0 (by decide) (by decide) rfl rfl rfl chk_eB 0 (by decide) sC rfl)

/-- A whole struct loaded, at a step of a region that draws. -/
theorem exec_load_whole {P : Program} {o : Oper} {a : Act} {w : World} (ty : TypeId) (x : Operand) (ho : o.op = .load ty x) (g : Nat) (hx : a.eval x = .pointer (some ⟨g, 0, none⟩)) (t : TypeId) (cs : Array Value) (fr : Nat × Nat) (d : TypeDesc)
    (hg : w.heap[g]? = some (.cells cs t fr)) (hu : P.underlying ty = some d) (hd : (match d with | .struct _ | .array _ _ => true | _ => false) = true) (hi : (P.info? ty).map (·.size) = some cs.size) :
    (execOp a.eval o).run P w = .ok (.value (.agg cs)) w := by
  have := run_loadVar_row (P := P) w g t ty cs fr d hg hu hd hi
  unfold execOp
  simp only [ho, hx, Instr.loadAt, Instr.sureAddr, Sem.run_bind, Sem.run_pure, Result.andThen_ok, this]

set_option maxRecDepth 100000 in
set_option maxHeartbeats 800000 in
theorem alive12 (w : World) : Calls Try.prog 54 #[] w (fun x w' => x = .returned (.bool true) ∧ Below w.heap.size w w') := by
  go_enter Try.func54, Try.ntmps54
  have o1 := alloc_new w (.cells zSt 79)
  have O1 := Lib.hid o1
  clear o1
  go_wp2_with (first | (refine wpList_store_whole rfl 79 (.tmp 1) (.tmp 7) rfl w.heap.size rfl 79 zSt zSt rfl O1.out Try.sizeSt rfl (zSt_O 0 w).c.one ?_; intro w1 hobj hupd; have c12 := obj_cell hobj 12; have f12 := obj_free hobj 12; have Hupd := Lib.hid hupd; have O2 := Lib.hid (alloc_obj (x := .cells (evA eA) 64) (obj_set hobj 12 (.int .i64 20))); clear hupd hobj; simp at c12) | (refine wpList_load_whole rfl 79 (.tmp 1) rfl w.heap.size rfl 79 cA (0, 0) O2.out _ Try.underlying79 rfl Try.sizeSt ?_))
  refine (applyA _ _ (cA_O 0 _).c).mono ?_
  rintro x w2 ⟨cB, rfl, hB, hb2⟩
  rw [if_pos rfl] at hB
  rw [errV_zero]
  have hcB : cB.size = 37 := hB.size
  have Oe := Lib.hid (below_obj hb2 (alloc_new _ (.cells (evA eA) 64)) (by simp))
  have O3 := Lib.hid (alloc_new w2 (.cells zSt 79))
  have HB := Lib.hid hB
  have hbw := (((((Below.refl _ w).alloc (Nat.le_refl _) (.cells zSt 79)).trans (Hupd.out.below (by simp) (fun k hk hb => by change _ = _ at hb; omega))).setCell (p := ⟨w.heap.size, 12, none⟩) (Nat.le_refl _) (.int .i64 20)).alloc (by have := Hupd.out.size; simp at this ⊢; omega) (.cells (evA eA) 64)).trans (hb2.mono (by have := Hupd.out.size; simp at this ⊢; omega))
  have Hbw := Lib.hid hbw
  clear hb2 hbw hB
  go_wp2_with (refine wpList_store_whole rfl 79 (.tmp 3) (.tmp 16) rfl w2.heap.size rfl 79 zSt cB rfl O3.out (by rw [hcB]; exact Try.sizeSt) (by rw [hcB]; rfl) HB.out.c.one ?_; intro w3 hobj hupd)
  have hB3 := (StAt.stored HB.out hobj hupd)
  have HB3 := Lib.hid hB3
  have hw23 : w2.heap.size < w3.heap.size := obj_lt hobj
  have Hbw3 := Lib.hid (Hbw.out.trans ((((Below.refl _ w2).alloc (Nat.le_refl _) (.cells zSt 79)).trans (hupd.below (by simp) (fun k hk hb => by change _ = _ at hb; omega))).mono Hbw.out.size))
  have Oe3 := Lib.hid (hupd.obj (alloc_obj (x := .cells zSt 79) Oe.out) (by have := obj_lt Oe.out; intro hk; change _ = _ at hk; omega))
  have hw1 : (w1.setCell ⟨w.heap.size, 12, none⟩ (.int .i64 20)).heap.size = w1.heap.size := by simp
  rw [hw1] at Oe3
  have oe3 := Oe3.out
  have Oe4 := Lib.hid oe3
  clear hobj hupd hB3 Oe O3 Oe3 oe3 c12 f12 O2 O1
  refine wp_region_held_drew (S := fun x => Below w3.heap.size w3 x) (by kernel_rfl) ((Below.refl _ _).drew) (fun hHeld => ?_)
  refine wpAnyH_take (i := 0) (v := .agg cB) rfl (by kernel_rfl) (by kernel_rfl) (by kernel_rfl) (fun _ _ _ h => h) (Or.inl ⟨by rfl, fun x hx => exec_load_whole 79 (.tmp 3) rfl w2.heap.size rfl 79 cB (0, 0) _ (below_obj hx HB3.out.obj hw23) Try.underlying79 rfl (by rw [hcB]; exact Try.sizeSt)⟩) hHeld ?_
  try simp only [Act.put, List.setIfInBounds_toArray, List.set_cons_zero, List.set_cons_succ]
  refine wpAnyH_take (i := 1) (v := evV eA) rfl (by kernel_rfl) (by kernel_rfl) (by kernel_rfl) (fun _ _ _ h => h) (Or.inl ⟨by rfl, fun x hx => exec_load_whole 64 (.tmp 2) rfl w1.heap.size rfl 64 (evA eA) (0, 0) _ (below_obj hx Oe4.out (obj_lt Oe4.out)) Try.underlying64 rfl (by kernel_rfl)⟩) hHeld ?_
  try simp only [Act.put, List.setIfInBounds_toArray, List.set_cons_zero, List.set_cons_succ]
  refine wpAnyH_all (rs := [2, 7]) (by kernel_rfl) (by simp) ?_
  intro ix hix
  obtain rfl | rfl : ix = 2 ∨ ix = 7 := by simpa using hix
  all_goals clear hix
  · refine wpOp_step rfl (fun K hK => ?_)
    have HK := Lib.hid hK
    clear hK
    go_simp
    refine (invert _ eA).mono ?_
    rintro x wi ⟨rfl, hbi⟩
    rw [show inv eA = eB by decide]
    go_wp2_with fail
    have h1 := hHeld.trans (hbi.mono hHeld.size)
    refine HK.out _ _ ⟨h1, ?_⟩
    clear HK
    refine wpAnyH_all (rs := [3, 7]) (by kernel_rfl) (by simp) ?_
    intro ix hix
    obtain rfl | rfl : ix = 3 ∨ ix = 7 := by simpa using hix
    all_goals clear hix
    · refine wpOp_step rfl (fun K hK => ?_)
      have HK := Lib.hid hK
      clear hK
      go_simp
      refine (applyB _ _ (HB3.out.own.c.all h1)).mono ?_
      rintro x wp ⟨cC, rfl, hC, hbp⟩
      rw [if_pos rfl] at hC
      rw [errV_zero]
      go_wp2_with fail
      have h2 := h1.trans (hbp.mono h1.size)
      refine HK.out _ _ ⟨h2, ?_⟩
      clear HK
      try simp only [Act.put, List.setIfInBounds_toArray, List.set_cons_zero, List.set_cons_succ]
      refine wpAnyH_take (i := 4) (v := ?_) rfl (by kernel_rfl) (by kernel_rfl) (by kernel_rfl) (fun _ _ _ h => h) (Or.inl ⟨by rfl, ?_⟩) h2 ?_
      rotate_left
      · intro w' hS'
        (try dsimp only at hS')
        go_simp
        try with_reducible rfl
      try simp only [Act.put, List.setIfInBounds_toArray, List.set_cons_zero, List.set_cons_succ]
      refine wpAnyH_take (i := 5) (v := ?_) rfl (by kernel_rfl) (by kernel_rfl) (by kernel_rfl) (fun _ _ _ h => h) (Or.inl ⟨by rfl, ?_⟩) h2 ?_
      rotate_left
      · intro w' hS'
        (try dsimp only at hS')
        go_simp
        try with_reducible rfl
      try simp only [Act.put, List.setIfInBounds_toArray, List.set_cons_zero, List.set_cons_succ]
      refine wpAnyH_take (i := 6) (v := ?_) rfl (by kernel_rfl) (by kernel_rfl) (by kernel_rfl) (fun _ _ _ h => h) (Or.inl ⟨by rfl, ?_⟩) h2 ?_
      rotate_left
      · intro w' hS'
        (try dsimp only at hS')
        go_simp
        try with_reducible rfl
      try simp only [Act.put, List.setIfInBounds_toArray, List.set_cons_zero, List.set_cons_succ]
      refine wpAnyH_all (rs := [7]) (by kernel_rfl) (by simp) ?_
      intro ix hix
      obtain rfl : ix = 7 := by simpa using hix
      clear hix
      refine wpOp_step rfl (fun K hK => ?_)
      have HK := Lib.hid hK
      clear hK
      go_simp
      have oz := alloc_new wp (.cells zSt 79)
      have h3 := h2.alloc h2.size (.cells zSt 79)
      refine HK.out _ _ ⟨h3, ?_⟩
      clear HK
      have oz2 := oz
      refine wpAnyH_all (rs := [8]) (by kernel_rfl) (by simp) ?_
      intro ix hix
      obtain rfl : ix = 8 := by simpa using hix
      clear hix
      refine wpOp_step rfl (fun K hK => ?_)
      have HK := Lib.hid hK
      clear hK
      rw [if_pos (by rfl)]
      have hcC : cC.size = 37 := hC.size
      refine wp_store_whole 79 (.tmp 5) (.tmp 23) rfl wp.heap.size rfl 79 zSt cC rfl oz2 (by rw [hcC]; exact Try.sizeSt) (by rw [hcC]; rfl) hC.c.one ?_
      intro w5 hobj5 hupd5
      have h4 : Below w3.heap.size w3 w5 := h3.trans (hupd5.below (h3.size) (fun k hk hb => by change _ = _ at hb; have q1 := h1.size; have q2 := h2.size; (try simp at q1); (try simp at q2); omega))
      refine HK.out _ _ ⟨h4, ?_⟩
      clear HK
      try simp only [Act.put, List.setIfInBounds_toArray, List.set_cons_zero, List.set_cons_succ]
      refine wpAnyH_take (i := 9) (v := ?_) rfl (by kernel_rfl) (by kernel_rfl) (by kernel_rfl) (fun _ _ _ h => h) (Or.inl ⟨by rfl, ?_⟩) h4 ?_
      rotate_left
      · intro w' hS'
        (try dsimp only at hS')
        go_simp
        try with_reducible rfl
      try simp only [Act.put, List.setIfInBounds_toArray, List.set_cons_zero, List.set_cons_succ]
      refine wpAnyH_done (by kernel_rfl) ?_ _
      have e17 := (obj_cell (below_obj h4 HB3.out.obj hw23) 12).trans (HB3.out.own.num 0 (by decide))
      have e20 := (obj_cell hobj5 12).trans (hC.num 0 (by decide))
      rw [show sB.p.getD 0 0 = 17 from rfl] at e17
      rw [show sC.p.getD 0 0 = 20 from rfl] at e20
      have Hfin := Lib.hid (Hbw3.out.trans (h4.mono Hbw3.out.size))
      clear hobj5 hupd5 h4
      go_wp2
      go_ret
      exact ⟨rfl, Hfin.out⟩
    · refine wpOp_step rfl (fun K hK => ?_)
      have HK := Lib.hid hK
      clear hK
      go_simp
      have oz := alloc_new wi (.cells zSt 79)
      have h2 := h1.alloc h1.size (.cells zSt 79)
      refine HK.out _ _ ⟨h2, ?_⟩
      clear HK
      refine wpAnyH_all (rs := [3]) (by kernel_rfl) (by simp) ?_
      intro ix hix
      obtain rfl : ix = 3 := by simpa using hix
      clear hix
      refine wpOp_step rfl (fun K hK => ?_)
      have HK := Lib.hid hK
      clear hK
      go_simp
      refine (applyB _ _ (HB3.out.own.c.all h2)).mono ?_
      rintro x wp ⟨cC, rfl, hC, hbp⟩
      rw [if_pos rfl] at hC
      rw [errV_zero]
      go_wp2_with fail
      have h3 := h2.trans (hbp.mono h2.size)
      refine HK.out _ _ ⟨h3, ?_⟩
      clear HK
      try simp only [Act.put, List.setIfInBounds_toArray, List.set_cons_zero, List.set_cons_succ]
      refine wpAnyH_take (i := 4) (v := ?_) rfl (by kernel_rfl) (by kernel_rfl) (by kernel_rfl) (fun _ _ _ h => h) (Or.inl ⟨by rfl, ?_⟩) h3 ?_
      rotate_left
      · intro w' hS'
        (try dsimp only at hS')
        go_simp
        try with_reducible rfl
      try simp only [Act.put, List.setIfInBounds_toArray, List.set_cons_zero, List.set_cons_succ]
      refine wpAnyH_take (i := 5) (v := ?_) rfl (by kernel_rfl) (by kernel_rfl) (by kernel_rfl) (fun _ _ _ h => h) (Or.inl ⟨by rfl, ?_⟩) h3 ?_
      rotate_left
      · intro w' hS'
        (try dsimp only at hS')
        go_simp
        try with_reducible rfl
      try simp only [Act.put, List.setIfInBounds_toArray, List.set_cons_zero, List.set_cons_succ]
      refine wpAnyH_take (i := 6) (v := ?_) rfl (by kernel_rfl) (by kernel_rfl) (by kernel_rfl) (fun _ _ _ h => h) (Or.inl ⟨by rfl, ?_⟩) h3 ?_
      rotate_left
      · intro w' hS'
        (try dsimp only at hS')
        go_simp
        try with_reducible rfl
      try simp only [Act.put, List.setIfInBounds_toArray, List.set_cons_zero, List.set_cons_succ]
      have oz2 := below_obj hbp oz (by simp)
      refine wpAnyH_all (rs := [8]) (by kernel_rfl) (by simp) ?_
      intro ix hix
      obtain rfl : ix = 8 := by simpa using hix
      clear hix
      refine wpOp_step rfl (fun K hK => ?_)
      have HK := Lib.hid hK
      clear hK
      rw [if_pos (by rfl)]
      have hcC : cC.size = 37 := hC.size
      refine wp_store_whole 79 (.tmp 5) (.tmp 23) rfl wi.heap.size rfl 79 zSt cC rfl oz2 (by rw [hcC]; exact Try.sizeSt) (by rw [hcC]; rfl) hC.c.one ?_
      intro w5 hobj5 hupd5
      have h4 : Below w3.heap.size w3 w5 := h3.trans (hupd5.below (h3.size) (fun k hk hb => by change _ = _ at hb; have q1 := h1.size; have q2 := h2.size; (try simp at q1); (try simp at q2); omega))
      refine HK.out _ _ ⟨h4, ?_⟩
      clear HK
      try simp only [Act.put, List.setIfInBounds_toArray, List.set_cons_zero, List.set_cons_succ]
      refine wpAnyH_take (i := 9) (v := ?_) rfl (by kernel_rfl) (by kernel_rfl) (by kernel_rfl) (fun _ _ _ h => h) (Or.inl ⟨by rfl, ?_⟩) h4 ?_
      rotate_left
      · intro w' hS'
        (try dsimp only at hS')
        go_simp
        try with_reducible rfl
      try simp only [Act.put, List.setIfInBounds_toArray, List.set_cons_zero, List.set_cons_succ]
      refine wpAnyH_done (by kernel_rfl) ?_ _
      have e17 := (obj_cell (below_obj h4 HB3.out.obj hw23) 12).trans (HB3.out.own.num 0 (by decide))
      have e20 := (obj_cell hobj5 12).trans (hC.num 0 (by decide))
      rw [show sB.p.getD 0 0 = 17 from rfl] at e17
      rw [show sC.p.getD 0 0 = 20 from rfl] at e20
      have Hfin := Lib.hid (Hbw3.out.trans (h4.mono Hbw3.out.size))
      clear hobj5 hupd5 h4
      go_wp2
      go_ret
      exact ⟨rfl, Hfin.out⟩
  · refine wpOp_step rfl (fun K hK => ?_)
    have HK := Lib.hid hK
    clear hK
    go_simp
    have oz := alloc_new w3.drew (.cells zSt 79)
    have h1 := hHeld.alloc hHeld.size (.cells zSt 79)
    refine HK.out _ _ ⟨h1, ?_⟩
    clear HK
    refine wpAnyH_all (rs := [2]) (by kernel_rfl) (by simp) ?_
    intro ix hix
    obtain rfl : ix = 2 := by simpa using hix
    clear hix
    refine wpOp_step rfl (fun K hK => ?_)
    have HK := Lib.hid hK
    clear hK
    go_simp
    refine (invert _ eA).mono ?_
    rintro x wi ⟨rfl, hbi⟩
    rw [show inv eA = eB by decide]
    go_wp2_with fail
    have h2 := h1.trans (hbi.mono h1.size)
    refine HK.out _ _ ⟨h2, ?_⟩
    clear HK
    refine wpAnyH_all (rs := [3]) (by kernel_rfl) (by simp) ?_
    intro ix hix
    obtain rfl : ix = 3 := by simpa using hix
    clear hix
    refine wpOp_step rfl (fun K hK => ?_)
    have HK := Lib.hid hK
    clear hK
    go_simp
    refine (applyB _ _ (HB3.out.own.c.all h2)).mono ?_
    rintro x wp ⟨cC, rfl, hC, hbp⟩
    rw [if_pos rfl] at hC
    rw [errV_zero]
    go_wp2_with fail
    have h3 := h2.trans (hbp.mono h2.size)
    refine HK.out _ _ ⟨h3, ?_⟩
    clear HK
    try simp only [Act.put, List.setIfInBounds_toArray, List.set_cons_zero, List.set_cons_succ]
    refine wpAnyH_take (i := 4) (v := ?_) rfl (by kernel_rfl) (by kernel_rfl) (by kernel_rfl) (fun _ _ _ h => h) (Or.inl ⟨by rfl, ?_⟩) h3 ?_
    rotate_left
    · intro w' hS'
      (try dsimp only at hS')
      go_simp
      try with_reducible rfl
    try simp only [Act.put, List.setIfInBounds_toArray, List.set_cons_zero, List.set_cons_succ]
    refine wpAnyH_take (i := 5) (v := ?_) rfl (by kernel_rfl) (by kernel_rfl) (by kernel_rfl) (fun _ _ _ h => h) (Or.inl ⟨by rfl, ?_⟩) h3 ?_
    rotate_left
    · intro w' hS'
      (try dsimp only at hS')
      go_simp
      try with_reducible rfl
    try simp only [Act.put, List.setIfInBounds_toArray, List.set_cons_zero, List.set_cons_succ]
    refine wpAnyH_take (i := 6) (v := ?_) rfl (by kernel_rfl) (by kernel_rfl) (by kernel_rfl) (fun _ _ _ h => h) (Or.inl ⟨by rfl, ?_⟩) h3 ?_
    rotate_left
    · intro w' hS'
      (try dsimp only at hS')
      go_simp
      try with_reducible rfl
    try simp only [Act.put, List.setIfInBounds_toArray, List.set_cons_zero, List.set_cons_succ]
    have oz2 := below_obj hbp (below_obj hbi oz (by simp)) (by have := hbi.size; simp at this; exact this)
    refine wpAnyH_all (rs := [8]) (by kernel_rfl) (by simp) ?_
    intro ix hix
    obtain rfl : ix = 8 := by simpa using hix
    clear hix
    refine wpOp_step rfl (fun K hK => ?_)
    have HK := Lib.hid hK
    clear hK
    rw [if_pos (by rfl)]
    have hcC : cC.size = 37 := hC.size
    refine wp_store_whole 79 (.tmp 5) (.tmp 23) rfl w3.heap.size rfl 79 zSt cC rfl oz2 (by rw [hcC]; exact Try.sizeSt) (by rw [hcC]; rfl) hC.c.one ?_
    intro w5 hobj5 hupd5
    have h4 : Below w3.heap.size w3 w5 := h3.trans (hupd5.below (h3.size) (fun k hk hb => by change _ = _ at hb; have q1 := h1.size; have q2 := h2.size; (try simp at q1); (try simp at q2); omega))
    refine HK.out _ _ ⟨h4, ?_⟩
    clear HK
    try simp only [Act.put, List.setIfInBounds_toArray, List.set_cons_zero, List.set_cons_succ]
    refine wpAnyH_take (i := 9) (v := ?_) rfl (by kernel_rfl) (by kernel_rfl) (by kernel_rfl) (fun _ _ _ h => h) (Or.inl ⟨by rfl, ?_⟩) h4 ?_
    rotate_left
    · intro w' hS'
      (try dsimp only at hS')
      go_simp
      try with_reducible rfl
    try simp only [Act.put, List.setIfInBounds_toArray, List.set_cons_zero, List.set_cons_succ]
    refine wpAnyH_done (by kernel_rfl) ?_ _
    have e17 := (obj_cell (below_obj h4 HB3.out.obj hw23) 12).trans (HB3.out.own.num 0 (by decide))
    have e20 := (obj_cell hobj5 12).trans (hC.num 0 (by decide))
    rw [show sB.p.getD 0 0 = 17 from rfl] at e17
    rw [show sC.p.getD 0 0 = 20 from rfl] at e20
    have Hfin := Lib.hid (Hbw3.out.trans (h4.mono Hbw3.out.size))
    clear hobj5 hupd5 h4
    go_wp2
    go_ret
    exact ⟨rfl, Hfin.out⟩
end Go.Proofs.Ytpbocficffbcbaa
