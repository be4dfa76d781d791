/- The law MatchPlays of layer 34 returns true for every input: what a match answers, call by call. No condition. -/
import Derived.Test.YtfphjokijanahaaMatchRef2
namespace Go.Proofs.Ytfphjokijanahaa
open Go Go.RowKit Go.ChangeShapes Go.WideShapes Go.ChangeAt
set_option linter.unusedVariables false

/-- The document's slice is valid and apart from the match. -/
def DocAp (w : World) (bm : Nat) (ba da : Option Addr) : Prop := ∀ ad, da = some ad → ad.block < w.heap.size ∧ ¬ own bm ba ad.block

def DoTo (w : World) (bm : Nat) (ba da : Option Addr) (gs' : List Int) (g' err : Int) (e : Ending) (w' : World) : Prop :=
  ∃ da' dcap' ba' cap', e = .returned (.tuple #[.agg #[.slice da' gs'.length dcap', .int .i64 g'], .int .i64 err, .int .i64 err]) ∧ MatchAt w' bm gs' g' ba' cap' ∧ SlAt w' 1 da' gs'.length dcap' (gs'.map (.int .i64)) ∧
    Upd (fun k => k = bm ∨ blk ba k) w w' ∧ (∀ ad, ba' = some ad → ba = some ad ∨ w.heap.size ≤ ad.block) ∧ DocAp w' bm ba' da' ∧ (∀ ad, da' = some ad → da = some ad ∨ w.heap.size ≤ ad.block)

theorem DoTo.fin {w w4 w5 : World} {bm : Nat} {gs0 gs' : List Int} {g0 g' err : Int} {ba ba5 da da' : Option Addr} {cap0 cap5 dcap' : Nat} {X : Obj} {u u' : Value}
    (h : MatchAt w bm gs0 g0 ba cap0) (hap : DocAp w bm ba da) (c4 : Below w.heap.size w w4) (hz : w.heap.size + 2 < w4.heap.size) (hs : SlAt w4 1 da' gs'.length dcap' (gs'.map (.int .i64)))
    (hloc : ∀ ad, da' = some ad → da = some ad ∨ (w.heap.size + 3 ≤ ad.block ∧ ad.block < w4.heap.size))
    (hm5 : MatchAt w5 bm gs' g' ba5 cap5) (hu5 : Upd (fun k => k = bm ∨ blk ba k) (w4.alloc X).drew w5) (hloc5 : ∀ ad, ba5 = some ad → ba = some ad ∨ (w4.alloc X).drew.heap.size ≤ ad.block) :
    DoTo w bm ba da gs' g' err (.returned (.tuple #[.agg #[.slice da' gs'.length dcap', .int .i64 g'], .int .i64 err, .int .i64 err])) ((w5.setCell ⟨w.heap.size + 1 + 1, 0, none⟩ u).setCell ⟨w.heap.size + 1 + 1, 1, none⟩ u') := by
  have hlt := fun (k : Nat) (hk : own bm ba k) => h.own_lt hk
  have hsz : w4.heap.size + 1 ≤ w5.heap.size := by have := hu5.size; simpa using this
  have hl5 : ∀ ad, ba5 = some ad → ba = some ad ∨ w4.heap.size + 1 ≤ ad.block := fun ad he => by simpa using hloc5 ad he
  have own5 : ∀ k, own bm ba5 k → own bm ba k ∨ w4.heap.size + 1 ≤ k := fun k hk => by
    rcases hk with rfl | ⟨ad, he, rfl⟩
    · exact .inl (.inl rfl)
    · exact (hl5 ad he).imp (fun h' => .inr ⟨ad, h', rfl⟩) id
  have no : ¬ own bm ba5 (w.heap.size + 1 + 1) := fun hk => by
    rcases own5 _ hk with h' | h'
    · have := hlt _ h'; omega
    · omega
  have dnot : ∀ ad, da' = some ad → ¬ own bm ba ad.block ∧ ad.block < w4.heap.size ∧ ad.block ≠ w.heap.size + 1 + 1 := fun ad he => by
    rcases hloc ad he with h' | ⟨h1, h2⟩
    · have := hap ad h'
      exact ⟨this.2, by omega, by omega⟩
    · exact ⟨fun hk => by have := hlt _ hk; omega, h2, by omega⟩
  refine ⟨da', dcap', ba5, cap5, rfl, (hm5.row_setCell no).row_setCell no, ?_, ?_, ?_, ?_, fun ad he => (hloc ad he).imp id (fun h' => by omega)⟩
  · exact (((hs.alloc X).drew.upd hu5 (fun ad he _ => (dnot ad he).1)).setCell _ (fun ad he _ => (dnot ad he).2.2) _).setCell _ (fun ad he _ => (dnot ad he).2.2) _
  · have c : Upd (fun k => k = bm ∨ blk ba k) w (w4.alloc X).drew := Upd.of_below ((c4.alloc (by omega) X).drew)
    exact ((c.trans hu5 (fun _ _ hb => hb)).setCell _ (fun hb => by simp at hb; omega) _).setCell _ (fun hb => by simp at hb; omega) _
  · intro ad he
    exact (hl5 ad he).imp id (fun h' => by omega)
  · intro ad he
    have := dnot ad he
    refine ⟨by simp; omega, fun hk => ?_⟩
    rcases own5 _ hk with h' | h'
    · exact this.1 h'
    · omega

set_option maxHeartbeats 800000 in
theorem doAct (w : World) (bm : Nat) (gs : List Int) (g : Int) (ba : Option Addr) (cap : Nat) (da : Option Addr) (dcap : Nat) (k0 a0 b0 : Int) (h : MatchAt w bm gs g ba cap) (ok : Ok gs g)
    (hd : SlAt w 1 da gs.length dcap (gs.map (.int .i64))) (hap : DocAp w bm ba da) :
    Calls Try.prog 15 #[.pointer (some ⟨bm, 0, none⟩), .agg #[.slice da gs.length dcap, .int .i64 g], .agg #[.int .i64 k0, .int .i64 a0, .int .i64 b0]] w
      (DoTo w bm ba da (actNext gs g k0 a0 b0) (actGiv gs g k0 a0 b0) (actErr gs g k0 a0 b0)) := by
  have h3 := ((h.alloc (.cells #[.slice da gs.length dcap, .int .i64 g] 42)).alloc (.cells #[.int .i64 k0, .int .i64 a0, .int .i64 b0] 27)).alloc (.cells #[.slice none 0 0, .int .i64 0] 42)
  have d3 := ((hd.alloc (.cells #[.slice da gs.length dcap, .int .i64 g] 42)).alloc (.cells #[.int .i64 k0, .int .i64 a0, .int .i64 b0] 27)).alloc (.cells #[.slice none 0 0, .int .i64 0] 42)
  have c3 : Below w.heap.size w (((w.alloc (.cells #[.slice da gs.length dcap, .int .i64 g] 42)).alloc (.cells #[.int .i64 k0, .int .i64 a0, .int .i64 b0] 27)).alloc (.cells #[.slice none 0 0, .int .i64 0] 42)) :=
    (((Below.refl w.heap.size w).alloc (Nat.le_refl _) _).alloc (by simp) _).alloc (by simp <;> omega) _
  have o1 := alloc_obj (x := .cells #[.slice none 0 0, .int .i64 0] 42) (alloc_new (w.alloc (.cells #[.slice da gs.length dcap, .int .i64 g] 42)) (.cells #[.int .i64 k0, .int .i64 a0, .int .i64 b0] 27))
  have o2 := alloc_new ((w.alloc (.cells #[.slice da gs.length dcap, .int .i64 g] 42)).alloc (.cells #[.int .i64 k0, .int .i64 a0, .int .i64 b0] 27)) (.cells #[.slice none 0 0, .int .i64 0] 42)
  have hmlt := fun (k : Nat) (hk : own bm ba k) => h.own_lt hk
  by_cases hk0 : k0 = 0
  · have hkb : (k0 == 0) = true := by simp [hk0]
    have Hk := Lib.hid hk0
    clear hk0
    go_enter Try.func15, Try.ntmps15
    go_wp2_with fail
    refine (refGame _ _ _ _ _ _ d3 ok.len).mono ?_
    rintro e w4 ⟨da', dcap', rfl, hs, hb, hloc⟩
    have o1' := alloc_obj (x := .cells #[.slice da' (gameNext gs g a0).length dcap', .int .i64 g] 42) (below_obj hb o1 (by simp <;> omega))
    have o2' := alloc_obj (x := .cells #[.slice da' (gameNext gs g a0).length dcap', .int .i64 g] 42) (below_obj hb o2 (by simp <;> omega))
    have o3' := alloc_new w4 (.cells #[.slice da' (gameNext gs g a0).length dcap', .int .i64 g] 42)
    have h4 := (h3.all hb).alloc (.cells #[.slice da' (gameNext gs g a0).length dcap', .int .i64 g] 42)
    have c4 := c3.trans (hb.mono c3.size)
    have hz : w.heap.size + 2 < w4.heap.size := by
      have := hb.size
      simp at this
      omega
    have e0 : _ = some (Value.slice da' (gameNext gs g a0).length dcap') := obj_cell o3' 0
    have e1 : _ = some (Value.int .i64 g) := obj_cell o3' 1
    have o2' : (w4.alloc (.cells #[.slice da' (gameNext gs g a0).length dcap', .int .i64 g] 42)).heap[w.heap.size + 1 + 1]? = some (Obj.cells #[.slice none 0 0, .int .i64 0] 42 (0, 0)) := by simpa using o2'
    have o1' : (w4.alloc (.cells #[.slice da' (gameNext gs g a0).length dcap', .int .i64 g] 42)).heap[w.heap.size + 1]? = some (Obj.cells #[.int .i64 k0, .int .i64 a0, .int .i64 b0] 27 (0, 0)) := by simpa using o1'
    have c1 : _ = some (Value.int .i64 a0) := obj_cell o1' 1
    have no1 : ¬ (w.heap.size + 1 = bm ∨ blk ba (w.heap.size + 1)) := fun h => by have := hmlt _ h; omega
    have no2 : ¬ (w.heap.size + 1 + 1 = bm ∨ blk ba (w.heap.size + 1 + 1)) := fun h => by have := hmlt _ h; omega
    have no3 : ¬ (w4.heap.size = bm ∨ blk ba w4.heap.size) := fun h => by have := hmlt _ h; omega
    have n1 : w.heap.size + 1 ≠ w.heap.size + 1 + 1 := by omega
    have n3 : w4.heap.size ≠ w.heap.size + 1 + 1 := by omega
    clear h3 d3 c3 o1 o2
    go_wp2_with fail
    go_region_held3 (fun x => x.cell? ⟨w4.heap.size, 0, none⟩ = some (.slice da' (gameNext gs g a0).length dcap') ∧ x.cell? ⟨w4.heap.size, 1, none⟩ = some (.int .i64 g) ∧ x.cell? ⟨w.heap.size + 1, 1, none⟩ = some (.int .i64 a0))
      (first | exact ⟨e0, e1, c1⟩ | exact ⟨e0', e1', c1'⟩ | exact ⟨cell_set_other (cell_set_other e0' n3) n3, cell_set_other (cell_set_other e1' n3) n3, cell_set_other (cell_set_other c1' n1) n1⟩)
      (first
        | (go_at_call 11; refine (game _ _ _ _ _ _ _ (h4.all ((Below.refl _ _).drew)) ok).mono ?_; rintro e w5 ⟨ba5, cap5, rfl, hm5, hu5, hloc5⟩; have p1 := hu5.obj o1' no1; have p2 := hu5.obj o2' no2; have p3 := hu5.obj o3' no3; have c1' := obj_cell p1 1; have e0' := obj_cell p3 0; have e1' := obj_cell p3 1; have r0 := obj_cell p2 0; have r1 := obj_cell p2 1; have q0 := obj_free p2 0; have q1 := obj_free p2 1; simp at c1' e0' e1' r0 r1 q0 q1)
        | (go_at_call 20; refine (num _ _).mono ?_; rintro e w' ⟨rfl, rfl⟩))
    go_wp2_with fail
    rw [show actNext gs g k0 a0 b0 = gameNext gs g a0 from if_pos Hk.out, show actGiv gs g k0 a0 b0 = g from if_pos Hk.out, show actErr gs g k0 a0 b0 = gameErr gs g a0 from if_pos Hk.out]
    refine bodyPost_ret (v := .tuple #[.agg #[.slice da' (gameNext gs g a0).length dcap', .int .i64 g], .int .i64 (gameErr gs g a0), .int .i64 (gameErr gs g a0)]) (by simp [results, Try.results15, go_sem, r0, r1]) rfl (DoTo.fin h hap c4 hz hs (fun ad he => by simpa using hloc ad he) hm5 hu5 hloc5)
  · have hkb : (k0 == 0) = false := by simp [hk0]
    have Hk := Lib.hid hk0
    clear hk0
    have hva : ∀ ad, da = some ad → ad.block < (((w.alloc (.cells #[.slice da gs.length dcap, .int .i64 g] 42)).alloc (.cells #[.int .i64 k0, .int .i64 a0, .int .i64 b0] 27)).alloc (.cells #[.slice none 0 0, .int .i64 0] 42)).heap.size := fun ad he => by have := (hap ad he).1; simp; omega
    go_enter Try.func15, Try.ntmps15
    go_wp2_with fail
    refine (refPenalty _ _ _ _ _ _ _ d3 ok.len hva).mono ?_
    rintro e w4 ⟨da', dcap', rfl, hs, hb, hloc⟩
    have o1' := alloc_obj (x := .cells #[.slice da' (penNext gs g a0 b0).length dcap', .int .i64 (penGiv gs g a0 b0)] 42) (below_obj hb o1 (by simp <;> omega))
    have o2' := alloc_obj (x := .cells #[.slice da' (penNext gs g a0 b0).length dcap', .int .i64 (penGiv gs g a0 b0)] 42) (below_obj hb o2 (by simp <;> omega))
    have o3' := alloc_new w4 (.cells #[.slice da' (penNext gs g a0 b0).length dcap', .int .i64 (penGiv gs g a0 b0)] 42)
    have h4 := (h3.all hb).alloc (.cells #[.slice da' (penNext gs g a0 b0).length dcap', .int .i64 (penGiv gs g a0 b0)] 42)
    have c4 := c3.trans (hb.mono c3.size)
    have hz : w.heap.size + 2 < w4.heap.size := by
      have := hb.size
      simp at this
      omega
    have e0 : _ = some (Value.slice da' (penNext gs g a0 b0).length dcap') := obj_cell o3' 0
    have e1 : _ = some (Value.int .i64 (penGiv gs g a0 b0)) := obj_cell o3' 1
    have o2' : (w4.alloc (.cells #[.slice da' (penNext gs g a0 b0).length dcap', .int .i64 (penGiv gs g a0 b0)] 42)).heap[w.heap.size + 1 + 1]? = some (Obj.cells #[.slice none 0 0, .int .i64 0] 42 (0, 0)) := by simpa using o2'
    have o1' : (w4.alloc (.cells #[.slice da' (penNext gs g a0 b0).length dcap', .int .i64 (penGiv gs g a0 b0)] 42)).heap[w.heap.size + 1]? = some (Obj.cells #[.int .i64 k0, .int .i64 a0, .int .i64 b0] 27 (0, 0)) := by simpa using o1'
    have c1 : _ = some (Value.int .i64 a0) := obj_cell o1' 1
    have c2 : _ = some (Value.int .i64 b0) := obj_cell o1' 2
    have no1 : ¬ (w.heap.size + 1 = bm ∨ blk ba (w.heap.size + 1)) := fun h => by have := hmlt _ h; omega
    have no2 : ¬ (w.heap.size + 1 + 1 = bm ∨ blk ba (w.heap.size + 1 + 1)) := fun h => by have := hmlt _ h; omega
    have no3 : ¬ (w4.heap.size = bm ∨ blk ba w4.heap.size) := fun h => by have := hmlt _ h; omega
    have n1 : w.heap.size + 1 ≠ w.heap.size + 1 + 1 := by omega
    have n3 : w4.heap.size ≠ w.heap.size + 1 + 1 := by omega
    clear h3 d3 c3 o1 o2
    go_wp2_with fail
    go_region_held3 (fun x => x.cell? ⟨w4.heap.size, 0, none⟩ = some (.slice da' (penNext gs g a0 b0).length dcap') ∧ x.cell? ⟨w4.heap.size, 1, none⟩ = some (.int .i64 (penGiv gs g a0 b0)) ∧ x.cell? ⟨w.heap.size + 1, 1, none⟩ = some (.int .i64 a0) ∧ x.cell? ⟨w.heap.size + 1, 2, none⟩ = some (.int .i64 b0))
      (first | exact ⟨e0, e1, c1, c2⟩ | exact ⟨e0', e1', c1', c2'⟩ | exact ⟨cell_set_other (cell_set_other e0' n3) n3, cell_set_other (cell_set_other e1' n3) n3, cell_set_other (cell_set_other c1' n1) n1, cell_set_other (cell_set_other c2' n1) n1⟩)
      (first
        | (go_at_call 12; refine (penalty _ _ _ _ _ _ _ _ (h4.all ((Below.refl _ _).drew)) ok).mono ?_; rintro e w5 ⟨ba5, cap5, rfl, hm5, hu5, hloc5⟩; have p1 := hu5.obj o1' no1; have p2 := hu5.obj o2' no2; have p3 := hu5.obj o3' no3; have c1' := obj_cell p1 1; have c2' := obj_cell p1 2; have e0' := obj_cell p3 0; have e1' := obj_cell p3 1; have r0 := obj_cell p2 0; have r1 := obj_cell p2 1; have q0 := obj_free p2 0; have q1 := obj_free p2 1; simp at c1' c2' e0' e1' r0 r1 q0 q1)
        | (go_at_call 20; refine (num _ _).mono ?_; rintro e w' ⟨rfl, rfl⟩))
    go_wp2_with fail
    rw [show actNext gs g k0 a0 b0 = penNext gs g a0 b0 from if_neg Hk.out, show actGiv gs g k0 a0 b0 = penGiv gs g a0 b0 from if_neg Hk.out, show actErr gs g k0 a0 b0 = penErr gs g a0 b0 from if_neg Hk.out]
    refine bodyPost_ret (v := .tuple #[.agg #[.slice da' (penNext gs g a0 b0).length dcap', .int .i64 (penGiv gs g a0 b0)], .int .i64 (penErr gs g a0 b0), .int .i64 (penErr gs g a0 b0)]) (by simp [results, Try.results15, go_sem, r0, r1]) rfl (DoTo.fin h hap c4 hz hs (fun ad he => by simpa using hloc ad he) hm5 hu5 hloc5)

set_option maxHeartbeats 800000 in
theorem isSame (w : World) (bm : Nat) (gs : List Int) (g : Int) (ba : Option Addr) (cap : Nat) (da : Option Addr) (dcap : Nat) (h : MatchAt w bm gs g ba cap) (ok : Ok gs g)
    (hd : SlAt w 1 da gs.length dcap (gs.map (.int .i64))) :
    Calls Try.prog 16 #[.pointer (some ⟨bm, 0, none⟩), .agg #[.slice da gs.length dcap, .int .i64 g]] w (fun e w' => e = .returned (.bool true) ∧ Below w.heap.size w w') := by
  have c0 := (Below.refl w.heap.size w).alloc (Nat.le_refl _) (.cells #[.slice da gs.length dcap, .int .i64 g] 42)
  have o0 := alloc_new w (.cells #[.slice da gs.length dcap, .int .i64 g] 42)
  go_enter Try.func16, Try.ntmps16
  go_wp2_with fail
  refine (score _ _ _ _ _ _ (h.alloc _) ok.len ok.res).mono ?_
  rintro e w1 ⟨rfl, hb1⟩
  have o1 := below_obj hb1 o0 (by simp)
  have c1 : Below w.heap.size w w1 := c0.trans (hb1.mono c0.size)
  have x0 : _ = some (Value.slice da gs.length dcap) := obj_cell o1 0
  have x1 : _ = some (Value.int .i64 g) := obj_cell o1 1
  go_wp2_with fail
  refine (refScore _ _ _ _ _ _ (hd.all c1) ok.len).mono ?_
  rintro e w2 ⟨rfl, hb2⟩
  have o2 := below_obj hb2 o1 (obj_lt o1)
  have c2 : Below w.heap.size w w2 := c1.trans (hb2.mono c1.size)
  have y0 : _ = some (Value.slice da gs.length dcap) := obj_cell o2 0
  have y1 : _ = some (Value.int .i64 g) := obj_cell o2 1
  have q1 : (cnt 1 gs == cnt 1 gs) = true := by simp
  have q2 : (cnt 2 gs == cnt 2 gs) = true := by simp
  have q3 : (result gs g == result gs g) = true := by simp
  have hbd : gs.length * 8 ≤ 140737488355328 := by have := ok.len; omega
  go_wp2_with fail
  go_region_held3 (fun x => x.cell? ⟨w.heap.size, 0, none⟩ = some (.slice da gs.length dcap) ∧ x.cell? ⟨w.heap.size, 1, none⟩ = some (.int .i64 g))
    (first | exact ⟨y0, y1⟩ | exact ⟨z0, z1⟩ | exact ⟨v0, v1⟩ | exact ⟨t0, t1⟩ | exact ⟨s0, s1⟩)
    (first
      | (go_at_call 9; refine (resultOf _ _ _ _ _ _ (h.all c2.drew) ok).mono ?_; rintro e w3 ⟨rfl, hb3⟩; have o3 := below_obj hb3 o2 (obj_lt o2); have c3 := c2.drew.trans (hb3.mono c2.size); have z0 : _ = some (Value.slice da gs.length dcap) := obj_cell o3 0; have z1 : _ = some (Value.int .i64 g) := obj_cell o3 1)
      | (go_at_call 24; refine (refResult _ _ _ _ _ (hd.all c3) ok.len).mono ?_; rintro e w4 ⟨rfl, hb4⟩; have o4 := below_obj hb4 o3 (obj_lt o3); have c4 := c3.trans (hb4.mono c3.size); have v0 : _ = some (Value.slice da gs.length dcap) := obj_cell o4 0; have v1 : _ = some (Value.int .i64 g) := obj_cell o4 1)
      | (go_at_call 10; refine (games _ _ _ _ _ _ (h.all c4) ok.len).mono ?_; rintro e w5 ⟨a5, cap5, rfl, hrow5, hfr5, hb5, hnil5⟩; have o5 := below_obj hb5 o4 (obj_lt o4); have c5 := c4.trans (hb5.mono c4.size); have t0 : _ = some (Value.slice da gs.length dcap) := obj_cell o5 0; have t1 : _ = some (Value.int .i64 g) := obj_cell o5 1)
      | (go_at_call 25; refine (ints _ _ _ _ _ _ _ _ _ hrow5.sl (hd.all c5)).mono ?_; rintro e w6 ⟨rfl, hq6⟩; rw [show decide (gs = gs) = true by simp]; have hb6 := hq6.below w5.heap.size; have o6 := below_obj hb6 o5 (obj_lt o5); have c6 := c5.trans (hb6.mono c5.size); have s0 : _ = some (Value.slice da gs.length dcap) := obj_cell o6 0; have s1 : _ = some (Value.int .i64 g) := obj_cell o6 1))
  go_wp2_with fail
  go_ret
  exact ⟨rfl, c6⟩

structure PlaysR (w : World) (B bm bd : Nat) (wr : World) (gs : List Int) (g : Int) (ba : Option Addr) (cap : Nat) (da : Option Addr) (dcap : Nat) : Prop where
  hm : MatchAt wr bm gs g ba cap
  ok : Ok gs g
  hd : SlAt wr 1 da gs.length dcap (gs.map (.int .i64))
  ob : wr.heap[bd]? = some (.cells #[.slice da gs.length dcap, .int .i64 g] 42 (0, 0))
  no : ¬ own bm ba bd
  ap : DocAp wr bm ba da
  nd : ∀ ad, da = some ad → ad.block ≠ bd
  fr : Fresh B ba
  bel : Below B w wr

set_option maxRecDepth 100000 in
set_option maxHeartbeats 800000 in
theorem walkPlays (w : World) (a : Option Addr) (n cap : Nat) (zs : List Int) (ha : SlAt w 3 a n cap (zs.map (Value.int .i64))) :
    Calls Try.prog 5 #[.slice a n cap] w (fun e w' => e = .returned (.bool true) ∧ Below w.heap.size w w') := by
  by_cases hn : 60 < n
  · go_enter Try.func5, Try.ntmps5
    go_wp2_with fail
    refine (aliveMatch _).mono ?_
    rintro e w1 ⟨rfl, hb1⟩
    go_wp2_with fail
    go_ret
    exact ⟨rfl, hb1⟩
  · go_enter Try.func5, Try.ntmps5
    go_wp2_with fail
    refine (aliveMatch _).mono ?_
    rintro e w1 ⟨rfl, hb1⟩
    go_wp2_with fail
    refine (matchNew _).mono ?_
    rintro e w2 ⟨bm, ba, mcap, rfl, hm, hbm, hfr, hb2⟩
    have c2 : Below w.heap.size w w2 := hb1.trans (hb2.mono hb1.size)
    have hlt := fun (k : Nat) (hk : own bm ba k) => hm.own_lt hk
    have hstart : ∃ ba cap da dcap, PlaysR w w.heap.size bm w2.heap.size (w2.alloc (.cells #[.slice none 0 0, .int .i64 0] 42)) [] 0 ba cap da dcap :=
      ⟨ba, mcap, none, 0, hm.alloc _, ok_nil, SlAt.null _ _, alloc_new _ _, (fun h => by have := hlt _ h; omega), (fun ad he => by cases he), (fun ad he => by cases he), hfr.mono hb1.size, c2.alloc c2.size _⟩
    have Hs := Lib.hid hstart
    have hge : w.heap.size ≤ bm := Nat.le_trans hb1.size hbm
    have hge2 : w.heap.size ≤ w2.heap.size := c2.size
    clear hstart hm hlt
    go_wp2_with fail
    go_loopw [20] (fun i wr => ∃ k : Nat, k ≤ n ∧ i = .int .i64 k ∧ ∃ gs g ba cap da dcap, PlaysR w w.heap.size bm w2.heap.size wr gs g ba cap da dcap) (fun i _ => n - (intOf i).toNat)
    case atStart =>
      obtain ⟨ba, cap, da, dcap, h⟩ := Hs.out
      exact ⟨0, Nat.zero_le _, rfl, [], 0, ba, cap, da, dcap, h⟩
    case round =>
      obtain ⟨k, hk, rfl, gs, g, ba, mcap, da, dcap, hr⟩ := hrel
      by_cases hlt : k < n
      · have ha' := ha.all hr.bel
        obtain ⟨b, off, rfl, hb, hc⟩ := ha'.nonempty (by omega)
        have hlen : zs.length = n * 3 := by simpa using ha.len
        have hc0 := hc (k * 3) _ (map_int_cell (by omega))
        have hc1 : wr.cell? ⟨b, off + k * 3 + 1, none⟩ = some _ := hc (k * 3 + 1) _ (map_int_cell (by omega))
        have hc2 : wr.cell? ⟨b, off + k * 3 + 2, none⟩ = some _ := hc (k * 3 + 2) _ (map_int_cell (by omega))
        generalize zs.getD (k * 3) 0 = k0 at *
        generalize zs.getD (k * 3 + 1) 0 = a0 at *
        generalize zs.getD (k * 3 + 2) 0 = b0 at *
        clear hlen hc
        have hsz := hr.bel.size
        have hbd := obj_lt hr.ob
        go_wp2_with fail
        have hm0 := hr.hm.alloc (.cells #[.int .i64 k0, .int .i64 a0, .int .i64 b0] 27)
        refine (matchCopy _ _ _ _ _ _ hm0 hr.ok.len).mono ?_
        rintro e w3 ⟨bo, bao, capo, rfl, hmo, hbo, hfo, hb3⟩
        have hm3 := hm0.all hb3
        have hact := below_obj hb3 (alloc_new wr (.cells #[.int .i64 k0, .int .i64 a0, .int .i64 b0] 27)) (by simp)
        have hob3 := below_obj hb3 (alloc_obj (x := .cells #[.int .i64 k0, .int .i64 a0, .int .i64 b0] 27) hr.ob) (by simp; omega)
        have hbo' : wr.heap.size + 1 ≤ bo := by simpa using hbo
        have hfo' : Fresh (wr.heap.size + 1) bao := by simpa using hfo
        have hz3 : wr.heap.size + 1 ≤ w3.heap.size := by have := hb3.size; simpa using this
        have cr3 : Below wr.heap.size wr w3 := ((Below.refl wr.heap.size wr).alloc (Nat.le_refl _) _).trans (hb3.mono (by simp))
        have hd3 := hr.hd.all cr3
        have x0 := obj_cell hact 0
        have x1 := obj_cell hact 1
        have x2 := obj_cell hact 2
        have y0 := obj_cell hob3 0
        have y1 := obj_cell hob3 1
        simp at x0 x1 x2 y0 y1
        have olt := fun (k : Nat) (hk : own bm ba k) => hr.hm.own_lt hk
        clear hc0 hc1 hc2 hbo hfo hb3 hm0 ha ha'
        go_wp2_with fail
        have hap3 : DocAp w3 bm ba da := fun ad he => ⟨by have := (hr.ap ad he).1; omega, (hr.ap ad he).2⟩
        refine (doAct _ _ _ _ _ _ _ _ _ _ _ hm3 hr.ok hd3 hap3).mono ?_
        rintro e w4 ⟨da', dcap', ba', cap', rfl, hm4, hd4, hu4, hloc4, hap4, hlocd⟩
        have hok' := hr.ok.act k0 a0 b0
        generalize actNext gs g k0 a0 b0 = gs' at *
        generalize actGiv gs g k0 a0 b0 = g' at *
        generalize actErr gs g k0 a0 b0 = err at *
        have hmo4 := hmo.upd hu4 (fun i hi hj => by
          have := olt i hj
          rcases hi with rfl | ⟨ad, he, rfl⟩
          · omega
          · have := hfo' ad he; omega)
        have hdo4 := hd3.upd hu4 (fun ad he _ => (hr.ap ad he).2)
        have hob4 := hu4.obj hob3 hr.no
        have hz4 := hu4.size
        have own4 : ∀ i, own bm ba' i → own bm ba i ∨ w3.heap.size ≤ i := fun i hi => by
          rcases hi with rfl | ⟨ad, he, rfl⟩
          · exact .inl (.inl rfl)
          · exact (hloc4 ad he).imp (fun h' => .inr ⟨ad, h', rfl⟩) id
        have hno4 : ¬ own bm ba' w2.heap.size := fun h => by
          rcases own4 _ h with h' | h'
          · exact hr.no h'
          · omega
        have hda4 : ∀ ad, da' = some ad → ad.block ≠ w2.heap.size := fun ad he => by
          rcases hlocd ad he with h' | h'
          · exact hr.nd ad h'
          · omega
        have hf4 : Fresh w.heap.size ba' := hr.fr.step (by omega) hloc4
        have cb4 : Below w.heap.size w w4 := (hr.bel.trans (cr3.mono hsz)).trans (belowMatch hu4 hge hr.fr (by omega))
        have hbd4 : w2.heap.size < w4.heap.size := by omega
        have z0 := obj_cell hob4 0
        have z1 := obj_cell hob4 1
        simp at z0 z1
        have heb : (err != err) = false := by simp
        clear x0 x1 x2 y0 y1 hact hmo hm3 hd3 hob3 hu4 hloc4 olt own4 hap3
        go_wp2_with fail
        have o8 := alloc_new w4 (.cells #[.slice da' gs'.length dcap', .int .i64 g'] 42)
        refine (isSame _ _ _ _ _ _ _ _ (hmo4.alloc _) hr.ok (hdo4.alloc _)).mono ?_
        rintro e w5 ⟨rfl, hb5⟩
        have hm5 := (hm4.alloc _).all hb5
        have hd5 := (hd4.alloc _).all hb5
        have ob5 := below_obj hb5 (alloc_obj hob4) (by simp; omega)
        have o85 := below_obj hb5 o8 (by simp)
        have s0 := obj_cell o85 0
        have s1 := obj_cell o85 1
        simp at s0 s1
        have hz5 : w4.heap.size + 1 ≤ w5.heap.size := by have := hb5.size; simpa using this
        have cb5 : Below w.heap.size w w5 := (cb4.alloc cb4.size _).trans (hb5.mono (by simp; omega))
        clear hmo4 hdo4 hob4 o8 z0 z1 hb5
        go_wp2_with fail
        refine (isSame _ _ _ _ _ _ _ _ hm5 hok' hd5).mono ?_
        rintro e w6 ⟨rfl, hb6⟩
        have hm6 := hm5.all hb6
        have hd6 := hd5.all hb6
        have ob6 := below_obj hb6 ob5 (obj_lt ob5)
        have o86 := below_obj hb6 o85 (obj_lt o85)
        have cb6 : Below w.heap.size w w6 := cb5.trans (hb6.mono cb5.size)
        have s0 := obj_cell o86 0
        have s1 := obj_cell o86 1
        have t0 := obj_cell ob6 0
        have t1 := obj_cell ob6 1
        have f0 := obj_free ob6 0
        have f1 := obj_free ob6 1
        simp at s0 s1 t0 t1 f0 f1
        have hz6 := hb6.size
        clear ob5 o85 hm5 hd5 hb6
        go_wp2_with fail
        go_roundw
        case rel =>
          refine ⟨k + 1, by omega, by go_num, gs', g', ba', cap', da', dcap', (hm6.row_setCell hno4).row_setCell hno4, hok', ((hd6.setCell _ (fun ad he _ => hda4 ad he) _).setCell _ (fun ad he _ => hda4 ad he) _), ?_, hno4, ?_, hda4, hf4, (cb6.setCell hge2 _).setCell hge2 _⟩
          · simpa using obj_set (obj_set ob6 0 (.slice da' gs'.length dcap')) 1 (.int .i64 g')
          · intro ad he
            exact ⟨by have := (hap4 ad he).1; simp; omega, (hap4 ad he).2⟩
        case measure => simp [intOf]; omega
      · obtain rfl : k = n := by omega
        go_wp2_with fail
        go_ret
        exact ⟨rfl, hr.bel⟩

namespace LawPlays
theorem own : ownKnob Try.prog.godebug = none := by kernel_rfl
set_option maxRecDepth 100000 in
theorem lifted (os : Os) (started : os.Started) (H : Type) (enc : TypeId × Value → H) :
    ReturnsInHanded {} Try.checked os 5 .any (Rows.matchPlaysSpec.pre6 enc Try.prog Try.f5 Rows.matchPlaysRow.domain false) (Rows.matchPlaysSpec.post enc Try.prog Try.f5 false true false false) := by
  refine returnsInHanded_of_change (C := Try.checked) own started (by kernel_rfl) Try.func5
    (ChangeSpec.witness6 (enc := enc) (C := Try.checked) false ⟨#[], #[.slice none 0 0], []⟩ 8 (by kernel_rfl) (by kernel_rfl) (by kernel_rfl) (by kernel_rfl)) ?_
  intro W base args ds gs before hval0 hW hcnd _
  have hval : ∀ (j : Nat) t v, Try.f5.params[j]? = some t → args[j]? = some v → Value.okWide Try.prog W .any base t v := hval0
  have hW' := hW
  have hlt := hW.lt
  obtain ⟨p, q, hA0, hV, rfl, hfz, hnd⟩ := hW
  have hA : DataW.TrodAll enc Try.prog W 0 (fun _ => true) true Try.f5.params.toList args.toList ds p := hA0
  rw [Try.params5] at hA hval
  obtain ⟨v0, vs0, d0, ds0, p0, q0, hargs, rfl, rfl, h0, r0⟩ := trodAll_cons hA
  obtain ⟨rfl, rfl, rfl⟩ := trodAll_nil r0
  obtain rfl : args = #[v0] := by cases args; simp_all
  obtain ⟨rfl, rfl⟩ := trodVars_none hV
  obtain ⟨fuel, hf⟩ := h0
  obtain ⟨a0, n0, c0, z0, hcs, hs0, hl0, hb0⟩ := open_rows Try.underlying22 (by decide) (by kernel_rfl) actCells hf
  obtain ⟨s0, s1, s2, rfl⟩ := okWide_slice Try.underlying22 (hval 0 22 v0 rfl rfl)
  simp only [Value.cells, List.cons.injEq, Value.slice.injEq, and_true] at hcs
  obtain ⟨rfl, rfl, rfl⟩ := hcs
  refine (walkPlays W s0 s1 s2 z0 hs0).mono fun e W' ⟨he, hb⟩ => ?_
  subst he
  exact ⟨_, rfl, post_true (by kernel_rfl) rfl Try.underlying4 (by kernel_rfl) rfl rfl hW' hb⟩

theorem proved : Rows.MatchPlaysSaid :=
  OpenClaim.holds_of_wide 5 Try.f5 rfl rfl rfl rfl rfl rfl rfl ⟨rfl, rfl, rfl, rfl, rfl⟩ rfl rfl rfl rfl rfl (by kernel_rfl) Try.func5 (by kernel_rfl)
    (of_decide_eq_true (by kernel_rfl)) (by unfold Func.isWrapper; first | (rw [if_pos (by decide +kernel)]; kernel_rfl) | (rw [if_neg (by decide +kernel)]; exact ⟨rfl, rfl⟩))
    (fun os started H enc _ => lifted os started H enc)
end LawPlays
end Go.Proofs.Ytfphjokijanahaa
