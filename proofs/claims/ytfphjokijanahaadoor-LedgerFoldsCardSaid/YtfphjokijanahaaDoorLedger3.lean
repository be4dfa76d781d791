import Derived.Test.YtfphjokijanahaaDoorLedger2
namespace Go.Proofs.YtfphjokijanahaaDoor
open Go Go.RowKit
set_option linter.unusedVariables false

theorem worst_bd (es : List Ent) (p : Int) : -1 ≤ worst es p := by
  unfold worst
  have gen : ∀ (es : List Ent) (a : Int), -1 ≤ a → -1 ≤ es.foldl (fun a e => if e.p = p then max a e.l else a) a := by
    intro es
    induction es with
    | nil => intro a h; exact h
    | cons e es ih =>
      intro a h
      simp only [List.foldl_cons]
      apply ih
      split <;> omega
  exact gen es (-1) (by omega)
theorem worst_snoc (es : List Ent) (e : Ent) (p : Int) : worst (es ++ [e]) p = if e.p = p then max (worst es p) e.l else worst es p := by
  unfold worst
  rw [List.foldl_append]
  rfl
theorem cntk_snoc (es : List Ent) (e : Ent) (p k : Int) : cntk (es ++ [e]) p k = cntk es p k + if p = e.p ∧ k = e.k then 1 else 0 := by
  unfold cntk
  rw [List.filter_append]
  by_cases h : p = e.p ∧ k = e.k
  · rw [if_pos h]
    simp [h.1, h.2]
  · rw [if_neg h]
    have : (e.p == p && e.k == k) = false := by
      rw [Bool.and_eq_false_iff]
      rcases Classical.em (p = e.p) with h1 | h1
      · exact .inr (by simp; exact fun h2 => h ⟨h1, h2.symm⟩)
      · exact .inl (by simp; exact fun h2 => h1 h2.symm)
    simp [this]
theorem cntk_bd (es : List Ent) (p k : Int) : 0 ≤ cntk es p k ∧ cntk es p k ≤ es.length := by
  unfold cntk
  have := List.length_filter_le (fun e : Ent => e.p == p && e.k == k) es
  omega
theorem levOf_bd (k c wp : Int) : 0 ≤ levOf k c wp ∧ levOf k c wp ≤ 3 := by
  unfold levOf base
  repeat' split
  all_goals omega

theorem SlAt.lit' (w : World) (cs : Array Value) (e : TypeId) (sz n n0 : Nat) (hn : n0 = w.heap.size) (hm : n ≤ maxLen) (hs : cs.size = n * sz) (h1 : ∀ u ∈ cs.toList, u.oneCell' = true) : SlAt (w.alloc (.cells cs e)) sz (some ⟨n0, 0, none⟩) n n cs.toList := by
  subst hn
  exact (RowAt.lit w cs e sz n hm hs h1).sl
theorem LedgerTo.fin {w W4 W5 : World} {bl br : Nat} {es : List Ent} {e : Ent} {ba a' : Option Addr} {cap cap' : Nat} {m' : List ((Int × Int) × Int)} {q : Nat} {x : Int} {C : Obj} {v : Value}
    (h : LedgerAt w bl br es ba cap) (oW4 : W4.heap[bl]? = some (.cells #[.slice ba es.length cap, .map (some br), .int .i64 (worst es 0), .int .i64 (worst es 1)] 56 (0, 0)))
    (mW4 : MapIs W4 br kcv icv m') (hl' : ∀ p k, look m' (p, k) 0 = cntk (es ++ [e]) p k) (uW4 : Upd (own3 bl br ba) w W4)
    (hq : (q = 2 ∧ x = worst (es ++ [e]) 0 ∧ worst (es ++ [e]) 1 = worst es 1) ∨ (q = 3 ∧ x = worst (es ++ [e]) 1 ∧ worst (es ++ [e]) 0 = worst es 0))
    (hrow : RowAt W5 37 4 a' (es.length + 1) cap' (es.flatMap entC ++ entC e)) (hupd : Upd (blk ba) ((W4.setCell ⟨bl, q, none⟩ (.int .i64 x)).alloc C).drew W5)
    (hloc : ∀ ad, a' = some ad → ba = some ad ∨ ((W4.setCell ⟨bl, q, none⟩ (.int .i64 x)).alloc C).drew.heap.size ≤ ad.block) :
    LedgerTo w bl br ba (es ++ [e]) v (.returned v) (W5.setCell ⟨bl, 0, none⟩ (.slice a' (es.length + 1) cap')) := by
  have hbl := obj_lt oW4
  have hbr := obj_lt mW4
  have hs := uW4.size
  have nbl : ¬ blk ba bl := fun ⟨ad, he, hb⟩ => (h.ne ad he).1 hb
  have nbr : ¬ blk ba br := fun ⟨ad, he, hb⟩ => (h.ne ad he).2 hb
  have o5 := hupd.obj (show ((W4.setCell ⟨bl, q, none⟩ (.int .i64 x)).alloc C).drew.heap[bl]? = _ from alloc_obj (obj_set oW4 q (.int .i64 x))) nbl
  have m5 : MapIs W5 br kcv icv m' := hupd.obj (show ((W4.setCell ⟨bl, q, none⟩ (.int .i64 x)).alloc C).drew.heap[br]? = _ from alloc_obj (setCell_obj mW4 (fun e => h.nbr e.symm))) nbr
  have o6 := obj_set o5 0 (.slice a' (es.length + 1) cap')
  have hsz5 : W4.heap.size + 1 ≤ W5.heap.size := by have := hupd.size; simpa using this
  have hl2 : ∀ ad, a' = some ad → ba = some ad ∨ W4.heap.size ≤ ad.block := fun ad he => (hloc ad he).imp id (fun h' => by simp at h'; omega)
  have hna : ∀ ad, a' = some ad → ad.block ≠ bl ∧ ad.block ≠ br := fun ad he => by
    rcases hl2 ad he with h' | h'
    · exact h.ne ad h'
    · omega
  refine ⟨a', cap', rfl, ⟨?_, ?_, ⟨m', setCell_obj m5 (fun e => h.nbr e.symm), hl'⟩, hna, h.nbr⟩, ?_, fun ad he => (hl2 ad he).imp id (fun h' => by omega)⟩
  · rcases hq with ⟨rfl, rfl, e1⟩ | ⟨rfl, rfl, e1⟩
    · rw [e1]; simpa using o6
    · rw [e1]; simpa using o6
  · have := hrow.setCell ⟨bl, 0, none⟩ (fun ad he => (hna ad he).1) (.slice a' (es.length + 1) cap')
    simpa using this
  · refine Upd.setCell ?_ _ (fun _ => .inl rfl) _
    refine Upd.trans (S := own3 bl br ba) (T := blk ba) (b := ((W4.setCell ⟨bl, q, none⟩ (.int .i64 x)).alloc C).drew) ?_ hupd (fun _ _ hb => .inr (.inr hb))
    exact (((uW4.setCell _ (fun _ => .inl rfl) _).alloc C).drew)

set_option maxRecDepth 100000 in
set_option maxHeartbeats 2000000 in
theorem addOk0 (w : World) (bl br : Nat) (es : List Ent) (ba : Option Addr) (cap : Nat) (k t : Int) (h : LedgerAt w bl br es ba cap) (hk : KindsAt w) (hb0 : ¬ own3 bl br ba 0) (ht : 0 ≤ t) (hk0 : 0 ≤ k) (hk6 : k < 6) (hlen : es.length < 1000) :
    Calls Tryd.prog 9 #[.pointer (some ⟨bl, 0, none⟩), .int .i64 0, .int .i64 k, .int .i64 t] w (LedgerTo w bl br ba (es ++ [⟨0, k, t, addLev es 0 k⟩]) (addV (addLev es 0 k) 0)) := by
  obtain ⟨m, hm, hl⟩ := h.mp
  have hcb := cntk_bd es 0 k
  obtain ⟨c, hc⟩ : ∃ c, c = cntk es 0 k := ⟨_, rfl⟩
  rw [← hc] at hcb
  -- the map's own steps
  have hmW : MapIs (w.alloc (.cells #[.int .i64 0, .int .i64 k] 59)).drew br kcv icv m := alloc_obj hm
  obtain ⟨W2, i, hE, hu2, hd2, hm2, hf2⟩ := run_mapEntry_is keyLaw Tryd.underlying53 hmW (d := (0 : Int)) (fun w => by kernel_rfl) ((0 : Int), k)
  rw [hl, ← hc] at hE hm2 hf2
  obtain ⟨W3, hS, hu3, hd3, hm3⟩ := run_entryStore_is (M := 53) (P := Tryd.prog) hm2 hf2 (c + 1)
  have hl1 := look_run hmW (show look m (0, k) 0 = c by rw [hl, hc])
  have hl2 := look_run hm2 (show look (put (0, k) c m) (0, k) 0 = c by rw [look_put, if_pos rfl])
  simp only [kcv, icv] at hE hS
  have huA : Upd (fun j => j = br) (w.alloc (.cells #[.int .i64 0, .int .i64 k] 59)).drew W3 := hu2.trans hu3 (fun _ _ h => h)
  have hbr := obj_lt hm
  have hbl := obj_lt h.obj
  have oW2 := hu2.obj (show (w.alloc (.cells #[.int .i64 0, .int .i64 k] 59)).drew.heap[bl]? = _ from alloc_obj h.obj) h.nbr
  have oW3 := huA.obj (show (w.alloc (.cells #[.int .i64 0, .int .i64 k] 59)).drew.heap[bl]? = _ from alloc_obj h.obj) h.nbr
  have kW3 := huA.obj (show (w.alloc (.cells #[.int .i64 0, .int .i64 k] 59)).drew.heap[w.heap.size]? = _ from alloc_new w _) (by omega)
  have y0 := obj_cell h.obj 0
  have y1 := obj_cell h.obj 1
  have x0 := obj_cell kW3 0
  have x1 := obj_cell kW3 1
  simp at y0 y1 x0 x1
  have hd : decide ((0 : Int) = 0 ∨ (0 : Int) = 1) = true := by decide
  have Hc := Lib.hid hc
  have Hl := Lib.hid hl
  have Hd2 := Lib.hid hd2
  have Hd3 := Lib.hid hd3
  have Hf2 := Lib.hid hf2
  clear hc hl hd2 hd3 hf2
  go_enter Tryd.func9, Tryd.ntmps9
  go_wp2_with (go_at_call 22; refine (playerOk _ _).mono ?_; rintro e w' ⟨rfl, rfl⟩; rw [hd])
  go_region
  have kz := hk.pos
  have br0 : br ≠ 0 := fun e => hb0 (.inr (.inl e.symm))
  have hk3 : KindsAt W3 := (hk.upd (w' := (w.alloc (.cells #[.int .i64 0, .int .i64 k] 59)).drew) (Upd.of_below (S := fun _ => False) (((Below.refl w.heap.size w).alloc (Nat.le_refl _) _).drew)) (fun f => f)).upd huA (fun e => br0 e.symm)
  clear hE hS hl1 hl2 hm2 hu2 hu3 oW2 Hd2 Hd3 Hf2 hmW
  go_wp2_with fail
  refine (level _ _ _ _ _ _ _ _ _ (c + 1) hk3 oW3 hm3 (by rw [look_put, if_pos rfl]) (by omega) (by omega) (.inl rfl) hk0 hk6).mono ?_
  rintro e W4 ⟨rfl, hb4⟩
  have hlevd : levOf k (c + 1) (if (0 : Int) = 0 then worst es 0 else worst es 1) = addLev es 0 k := by rw [if_pos rfl, Hc.out]; rfl
  rw [hlevd]
  have Hlev := Lib.hid (levOf_bd k (cntk es 0 k + 1) (worst es 0))
  have hlb : 0 ≤ addLev es 0 k ∧ addLev es 0 k ≤ 3 := Hlev.out
  clear hlevd Hlev
  have oW4 := below_obj hb4 oW3 (obj_lt oW3)
  have mW4 : MapIs W4 br kcv icv _ := below_obj hb4 hm3 (obj_lt hm3)
  have rW3 := (h.row.alloc (.cells #[.int .i64 0, .int .i64 k] 59)).drew.upd huA (fun ad he => (h.ne ad he).2)
  have rW4 := rW3.all hb4
  have uW4 : Upd (own3 bl br ba) w W4 := ((Upd.of_below (((Below.refl w.heap.size w).alloc (Nat.le_refl _) _).drew)).trans huA (fun _ _ e => .inr (.inl e))).trans (Upd.of_below (S := fun _ => False) hb4) (fun _ _ f => f.elim)
  have z2 := obj_cell oW4 2
  have f2 := obj_free oW4 2
  have z0 := obj_cell oW4 0
  have f0 := obj_free oW4 0
  simp at z0 z2
  have hwb := worst_bd es 0
  generalize hlv : addLev es 0 k = lev at *
  have Hlv := Lib.hid hlv
  clear hlv x0 x1 kW3 oW3 hm3 rW3 huA hb4 hk3 hm
  have hl' : ∀ p q, look (put ((0 : Int), k) (c + 1) (put (0, k) c m)) (p, q) 0 = cntk (es ++ [⟨0, k, t, lev⟩]) p q := by
    intro p q
    rw [look_put, look_put, Hl.out, cntk_snoc]
    by_cases hpq : p = 0 ∧ q = k
    · rw [if_pos (by rw [hpq.1, hpq.2]), if_pos hpq, hpq.1, hpq.2, Hc.out]
    · rw [if_neg (fun e => hpq (by simpa using e)), if_neg (fun e => hpq (by simpa using e)), if_neg hpq]
      omega
  by_cases hmx : worst es 0 < lev
  · have hx : lev = worst (es ++ [⟨0, k, t, lev⟩]) 0 := by rw [worst_snoc, if_pos rfl]; simp only; omega
    have Hx := Lib.hid hx
    clear hx
    go_wp2_with fail
    go_region
    go_wp2_with (at_builtin; refine wp_append rfl (.tmp 73) (.tmp 79) 34 rfl 37 (.agg #[.int .i64 0, .int .i64 0, .int .i64 0, .int .i64 0]) 4 32 Tryd.underlying34 Tryd.infoEntry rfl (by decide) rfl rfl ((rW4.setCell ⟨bl, 2, none⟩ (fun ad he => (h.ne ad he).1) (.int .i64 (lev))).alloc _).drew (SlAt.lit' (W4.setCell ⟨bl, 2, none⟩ (.int .i64 (lev))) #[.int .i64 0, .int .i64 k, .int .i64 t, .int .i64 lev] 37 4 1 W4.heap.size (by simp) (by decide) rfl (by simp [Value.oneCell'])).drew (by unfold maxLen; omega) (by omega) ?_; intro a' cap' W5 hrow hupd hloc hnil; have o5 := hupd.obj (show (World.drew _).heap[bl]? = _ from alloc_obj (obj_set oW4 2 (.int .i64 (lev)))) (fun ⟨ad, he, hb⟩ => (h.ne ad he).1 hb); have v0 := obj_cell o5 0; have g0 := obj_free o5 0; simp at v0)
    go_ret2
    exact LedgerTo.fin (e := ⟨0, k, t, lev⟩) h oW4 mW4 hl' uW4 (.inl ⟨rfl, Hx.out, by rw [worst_snoc, if_neg (by simp)]⟩) hrow hupd hloc
  · have hx : worst es 0 = worst (es ++ [⟨0, k, t, lev⟩]) 0 := by rw [worst_snoc, if_pos rfl]; simp only; omega
    have Hx := Lib.hid hx
    clear hx
    go_wp2_with fail
    go_region
    go_wp2_with (at_builtin; refine wp_append rfl (.tmp 73) (.tmp 79) 34 rfl 37 (.agg #[.int .i64 0, .int .i64 0, .int .i64 0, .int .i64 0]) 4 32 Tryd.underlying34 Tryd.infoEntry rfl (by decide) rfl rfl ((rW4.setCell ⟨bl, 2, none⟩ (fun ad he => (h.ne ad he).1) (.int .i64 (worst es 0))).alloc _).drew (SlAt.lit' (W4.setCell ⟨bl, 2, none⟩ (.int .i64 (worst es 0))) #[.int .i64 0, .int .i64 k, .int .i64 t, .int .i64 lev] 37 4 1 W4.heap.size (by simp) (by decide) rfl (by simp [Value.oneCell'])).drew (by unfold maxLen; omega) (by omega) ?_; intro a' cap' W5 hrow hupd hloc hnil; have o5 := hupd.obj (show (World.drew _).heap[bl]? = _ from alloc_obj (obj_set oW4 2 (.int .i64 (worst es 0)))) (fun ⟨ad, he, hb⟩ => (h.ne ad he).1 hb); have v0 := obj_cell o5 0; have g0 := obj_free o5 0; simp at v0)
    go_ret2
    exact LedgerTo.fin (e := ⟨0, k, t, lev⟩) h oW4 mW4 hl' uW4 (.inl ⟨rfl, Hx.out, by rw [worst_snoc, if_neg (by simp)]⟩) hrow hupd hloc
set_option maxRecDepth 100000 in
set_option maxHeartbeats 2000000 in
theorem addOk1 (w : World) (bl br : Nat) (es : List Ent) (ba : Option Addr) (cap : Nat) (k t : Int) (h : LedgerAt w bl br es ba cap) (hk : KindsAt w) (hb0 : ¬ own3 bl br ba 0) (ht : 0 ≤ t) (hk0 : 0 ≤ k) (hk6 : k < 6) (hlen : es.length < 1000) :
    Calls Tryd.prog 9 #[.pointer (some ⟨bl, 0, none⟩), .int .i64 1, .int .i64 k, .int .i64 t] w (LedgerTo w bl br ba (es ++ [⟨1, k, t, addLev es 1 k⟩]) (addV (addLev es 1 k) 0)) := by
  obtain ⟨m, hm, hl⟩ := h.mp
  have hcb := cntk_bd es 1 k
  obtain ⟨c, hc⟩ : ∃ c, c = cntk es 1 k := ⟨_, rfl⟩
  rw [← hc] at hcb
  -- the map's own steps
  have hmW : MapIs (w.alloc (.cells #[.int .i64 1, .int .i64 k] 59)).drew br kcv icv m := alloc_obj hm
  obtain ⟨W2, i, hE, hu2, hd2, hm2, hf2⟩ := run_mapEntry_is keyLaw Tryd.underlying53 hmW (d := (0 : Int)) (fun w => by kernel_rfl) ((1 : Int), k)
  rw [hl, ← hc] at hE hm2 hf2
  obtain ⟨W3, hS, hu3, hd3, hm3⟩ := run_entryStore_is (M := 53) (P := Tryd.prog) hm2 hf2 (c + 1)
  have hl1 := look_run hmW (show look m (1, k) 0 = c by rw [hl, hc])
  have hl2 := look_run hm2 (show look (put (1, k) c m) (1, k) 0 = c by rw [look_put, if_pos rfl])
  simp only [kcv, icv] at hE hS
  have huA : Upd (fun j => j = br) (w.alloc (.cells #[.int .i64 1, .int .i64 k] 59)).drew W3 := hu2.trans hu3 (fun _ _ h => h)
  have hbr := obj_lt hm
  have hbl := obj_lt h.obj
  have oW2 := hu2.obj (show (w.alloc (.cells #[.int .i64 1, .int .i64 k] 59)).drew.heap[bl]? = _ from alloc_obj h.obj) h.nbr
  have oW3 := huA.obj (show (w.alloc (.cells #[.int .i64 1, .int .i64 k] 59)).drew.heap[bl]? = _ from alloc_obj h.obj) h.nbr
  have kW3 := huA.obj (show (w.alloc (.cells #[.int .i64 1, .int .i64 k] 59)).drew.heap[w.heap.size]? = _ from alloc_new w _) (by omega)
  have y0 := obj_cell h.obj 0
  have y1 := obj_cell h.obj 1
  have x0 := obj_cell kW3 0
  have x1 := obj_cell kW3 1
  simp at y0 y1 x0 x1
  have hd : decide ((1 : Int) = 0 ∨ (1 : Int) = 1) = true := by decide
  have Hc := Lib.hid hc
  have Hl := Lib.hid hl
  have Hd2 := Lib.hid hd2
  have Hd3 := Lib.hid hd3
  have Hf2 := Lib.hid hf2
  clear hc hl hd2 hd3 hf2
  go_enter Tryd.func9, Tryd.ntmps9
  go_wp2_with (go_at_call 22; refine (playerOk _ _).mono ?_; rintro e w' ⟨rfl, rfl⟩; rw [hd])
  go_region
  have kz := hk.pos
  have br0 : br ≠ 0 := fun e => hb0 (.inr (.inl e.symm))
  have hk3 : KindsAt W3 := (hk.upd (w' := (w.alloc (.cells #[.int .i64 1, .int .i64 k] 59)).drew) (Upd.of_below (S := fun _ => False) (((Below.refl w.heap.size w).alloc (Nat.le_refl _) _).drew)) (fun f => f)).upd huA (fun e => br0 e.symm)
  clear hE hS hl1 hl2 hm2 hu2 hu3 oW2 Hd2 Hd3 Hf2 hmW
  go_wp2_with fail
  refine (level _ _ _ _ _ _ _ _ _ (c + 1) hk3 oW3 hm3 (by rw [look_put, if_pos rfl]) (by omega) (by omega) (.inr rfl) hk0 hk6).mono ?_
  rintro e W4 ⟨rfl, hb4⟩
  have hlevd : levOf k (c + 1) (if (1 : Int) = 0 then worst es 0 else worst es 1) = addLev es 1 k := by rw [if_neg (by decide), Hc.out]; rfl
  rw [hlevd]
  have Hlev := Lib.hid (levOf_bd k (cntk es 1 k + 1) (worst es 1))
  have hlb : 0 ≤ addLev es 1 k ∧ addLev es 1 k ≤ 3 := Hlev.out
  clear hlevd Hlev
  have oW4 := below_obj hb4 oW3 (obj_lt oW3)
  have mW4 : MapIs W4 br kcv icv _ := below_obj hb4 hm3 (obj_lt hm3)
  have rW3 := (h.row.alloc (.cells #[.int .i64 1, .int .i64 k] 59)).drew.upd huA (fun ad he => (h.ne ad he).2)
  have rW4 := rW3.all hb4
  have uW4 : Upd (own3 bl br ba) w W4 := ((Upd.of_below (((Below.refl w.heap.size w).alloc (Nat.le_refl _) _).drew)).trans huA (fun _ _ e => .inr (.inl e))).trans (Upd.of_below (S := fun _ => False) hb4) (fun _ _ f => f.elim)
  have z2 := obj_cell oW4 3
  have f2 := obj_free oW4 3
  have z0 := obj_cell oW4 0
  have f0 := obj_free oW4 0
  simp at z0 z2
  have hwb := worst_bd es 1
  generalize hlv : addLev es 1 k = lev at *
  have Hlv := Lib.hid hlv
  clear hlv x0 x1 kW3 oW3 hm3 rW3 huA hb4 hk3 hm
  have hl' : ∀ p q, look (put ((1 : Int), k) (c + 1) (put (1, k) c m)) (p, q) 0 = cntk (es ++ [⟨1, k, t, lev⟩]) p q := by
    intro p q
    rw [look_put, look_put, Hl.out, cntk_snoc]
    by_cases hpq : p = 1 ∧ q = k
    · rw [if_pos (by rw [hpq.1, hpq.2]), if_pos hpq, hpq.1, hpq.2, Hc.out]
    · rw [if_neg (fun e => hpq (by simpa using e)), if_neg (fun e => hpq (by simpa using e)), if_neg hpq]
      omega
  by_cases hmx : worst es 1 < lev
  · have hx : lev = worst (es ++ [⟨1, k, t, lev⟩]) 1 := by rw [worst_snoc, if_pos rfl]; simp only; omega
    have Hx := Lib.hid hx
    clear hx
    go_wp2_with fail
    go_region
    go_wp2_with (at_builtin; refine wp_append rfl (.tmp 73) (.tmp 79) 34 rfl 37 (.agg #[.int .i64 0, .int .i64 0, .int .i64 0, .int .i64 0]) 4 32 Tryd.underlying34 Tryd.infoEntry rfl (by decide) rfl rfl ((rW4.setCell ⟨bl, 3, none⟩ (fun ad he => (h.ne ad he).1) (.int .i64 (lev))).alloc _).drew (SlAt.lit' (W4.setCell ⟨bl, 3, none⟩ (.int .i64 (lev))) #[.int .i64 1, .int .i64 k, .int .i64 t, .int .i64 lev] 37 4 1 W4.heap.size (by simp) (by decide) rfl (by simp [Value.oneCell'])).drew (by unfold maxLen; omega) (by omega) ?_; intro a' cap' W5 hrow hupd hloc hnil; have o5 := hupd.obj (show (World.drew _).heap[bl]? = _ from alloc_obj (obj_set oW4 3 (.int .i64 (lev)))) (fun ⟨ad, he, hb⟩ => (h.ne ad he).1 hb); have v0 := obj_cell o5 0; have g0 := obj_free o5 0; simp at v0)
    go_ret2
    exact LedgerTo.fin (e := ⟨1, k, t, lev⟩) h oW4 mW4 hl' uW4 (.inr ⟨rfl, Hx.out, by rw [worst_snoc, if_neg (by simp)]⟩) hrow hupd hloc
  · have hx : worst es 1 = worst (es ++ [⟨1, k, t, lev⟩]) 1 := by rw [worst_snoc, if_pos rfl]; simp only; omega
    have Hx := Lib.hid hx
    clear hx
    go_wp2_with fail
    go_region
    go_wp2_with (at_builtin; refine wp_append rfl (.tmp 73) (.tmp 79) 34 rfl 37 (.agg #[.int .i64 0, .int .i64 0, .int .i64 0, .int .i64 0]) 4 32 Tryd.underlying34 Tryd.infoEntry rfl (by decide) rfl rfl ((rW4.setCell ⟨bl, 3, none⟩ (fun ad he => (h.ne ad he).1) (.int .i64 (worst es 1))).alloc _).drew (SlAt.lit' (W4.setCell ⟨bl, 3, none⟩ (.int .i64 (worst es 1))) #[.int .i64 1, .int .i64 k, .int .i64 t, .int .i64 lev] 37 4 1 W4.heap.size (by simp) (by decide) rfl (by simp [Value.oneCell'])).drew (by unfold maxLen; omega) (by omega) ?_; intro a' cap' W5 hrow hupd hloc hnil; have o5 := hupd.obj (show (World.drew _).heap[bl]? = _ from alloc_obj (obj_set oW4 3 (.int .i64 (worst es 1)))) (fun ⟨ad, he, hb⟩ => (h.ne ad he).1 hb); have v0 := obj_cell o5 0; have g0 := obj_free o5 0; simp at v0)
    go_ret2
    exact LedgerTo.fin (e := ⟨1, k, t, lev⟩) h oW4 mW4 hl' uW4 (.inr ⟨rfl, Hx.out, by rw [worst_snoc, if_neg (by simp)]⟩) hrow hupd hloc
/-- What Add answers and does. -/
theorem add (w : World) (bl br : Nat) (es : List Ent) (ba : Option Addr) (cap : Nat) (p k t : Int) (h : LedgerAt w bl br es ba cap) (hk : KindsAt w) (hb0 : ¬ own3 bl br ba 0) :
    Calls Tryd.prog 9 #[.pointer (some ⟨bl, 0, none⟩), .int .i64 p, .int .i64 k, .int .i64 t] w (LedgerTo w bl br ba (addNext es p k t) (addV (if addErr es p k t = 0 then addLev es p k else 0) (addErr es p k t))) := by
  by_cases he : addErr es p k t = 0
  · have hen : addNext es p k t = es ++ [⟨p, k, t, addLev es p k⟩] := if_pos he
    rw [hen, he, if_pos rfl]
    unfold addErr at he
    have h1 : ¬ ((p ≠ 0 ∧ p ≠ 1) ∨ t < 0) := fun h => by rw [if_pos h] at he; cases he
    rw [if_neg h1] at he
    have h2 : ¬ (k < 0 ∨ 6 ≤ k) := fun h => by rw [if_pos h] at he; cases he
    rw [if_neg h2] at he
    have h3 : ¬ 1000 ≤ es.length := fun h => by rw [if_pos h] at he; cases he
    have hp : p = 0 ∨ p = 1 := by omega
    rcases hp with rfl | rfl
    · exact addOk0 w bl br es ba cap k t h hk hb0 (by omega) (by omega) (by omega) (by omega)
    · exact addOk1 w bl br es ba cap k t h hk hb0 (by omega) (by omega) (by omega) (by omega)
  · rw [show addNext es p k t = es from if_neg he, if_neg he]
    exact addBad w bl br es ba cap p k t h he
end Go.Proofs.YtfphjokijanahaaDoor
