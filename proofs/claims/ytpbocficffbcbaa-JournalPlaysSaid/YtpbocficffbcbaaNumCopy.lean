import Derived.Test.YtpbocficffbcbaaState2
namespace Go.Proofs.Ytpbocficffbcbaa
open Go Go.RowKit
set_option linter.unusedVariables false

theorem appLit {w w' : World} {o : Obj} {n : Nat} (hn : n = w.heap.size) (h : Upd (blk (some ⟨n, 0, none⟩)) (w.alloc o) w') : Below w.heap.size w w' := by
  subst hn
  exact
    ((Below.refl _ w).alloc (Nat.le_refl _) _).trans (h.below (by simp) (fun k hk => by rintro ⟨ad, he, rfl⟩; obtain rfl := Option.some.inj he; simp at hk))
theorem appFresh {w : World} {o : Obj} {a' : Option Addr} {n : Nat} (hn : n = w.heap.size) (h : ∀ ad, a' = some ad → some (⟨n, 0, none⟩ : Addr) = some ad ∨ (w.alloc o).heap.size ≤ ad.block) : Fresh w.heap.size a' := fun ad he => by
  rcases h ad he with h1 | h1
  · obtain rfl := Option.some.inj h1
    exact Nat.le_of_eq hn.symm
  · simp at h1
    omega
set_option maxRecDepth 100000 in
set_option maxHeartbeats 3200000 in
theorem numCopy (w : World) (cs : Array Value) (s : St) (h : StC w cs s) (hL : ∀ i, i < 12 → lenOf s i ≤ 100000) :
    Calls Try.prog 56 #[.agg cs] w (StTo w s) := by
  have hsz : cs.size = 37 := h.size
  have h1 := h.all ((((Below.refl w.heap.size w).alloc (Nat.le_refl _) (.cells cs 79)).alloc (by simp) (.cells zSt 79)))
  have hb1 : Below w.heap.size w ((w.alloc (.cells cs 79)).alloc (.cells zSt 79)) := (((Below.refl w.heap.size w).alloc (Nat.le_refl _) (.cells cs 79)).alloc (by simp) (.cells zSt 79))
  have ob := alloc_obj (x := .cells zSt 79) (alloc_new w (.cells cs 79))
  have oz := alloc_new (w.alloc (.cells cs 79)) (.cells zSt 79)
  rw [World.size_alloc] at oz
  obtain ⟨a0, c0, e0, r0⟩ := h1.sl 0 (by decide)
  have hst : CopyR w w.heap.size cs s 0 ((w.alloc (.cells cs 79)).alloc (.cells zSt 79)) cs :=
    ⟨ob, hsz, fun i hi => absurd hi (Nat.not_lt_zero _), fun i j a b n m c d hi => absurd hi (Nat.not_lt_zero _), fun i _ => rfl, hb1, ⟨Nat.le_refl _, by omega⟩, by simp⟩
  have Hst := Lib.hid hst
  have k0 : ((w.alloc (.cells cs 79)).alloc (.cells zSt 79)).cell? ⟨w.heap.size, 0, none⟩ = some (.slice a0 (lenOf s 0) c0) := (obj_cell ob 0).trans e0
  have Hr0 := Lib.hid r0
  have e0' := Lib.hid e0
  have rl := RowAt.lit ((w.alloc (.cells cs 79)).alloc (.cells zSt 79)) #[] 108 18 0 (Nat.zero_le _) rfl (by simp)
  simp only [World.size_alloc] at rl
  have Rl := Lib.hid rl
  clear hst ob e0 r0 rl
  go_enter Try.func56, Try.ntmps56
  go_wp2_with (at_builtin; refine wp_append rfl (.tmp 4) (.tmp 6) 73 rfl 108 zObj 18 144 Try.underlying73 Try.infoObj rfl (by decide) rfl rfl Rl.out (Hr0.out.alloc _) (by have := Hr0.out.le; have := Hr0.out.max; omega) (by have := hL 0 (by decide); omega) ?_; intro a1 c1 wa hrow hupd hloc hnil; simp only [Nat.zero_add, List.nil_append] at hrow; have hf := appFresh (by simp) hloc; have hbel := appLit (by simp) hupd; have kf := obj_free (below_obj hbel (Hst.out.obj) (by simp; omega)) 0; have kc := (obj_cell (below_obj hbel (Hst.out.obj) (by simp; omega)) 0).trans e0'.out; have Hst1 := Lib.hid (Hst.out.step (by decide) hbel hrow hf); have Hz1 := Lib.hid (setCell_obj (p := ⟨w.heap.size, 0, none⟩) (u := .slice a1 (lenOf s 0) c1) (below_obj hbel oz (by simp)) (by simp)); clear k0 hbel hrow hf hupd hloc hnil)
  clear oz Hst Hr0 hb1
  go_loopw [9] (fun i wr => ∃ z : Nat, z ≤ 11 ∧ i = .int .i64 z ∧ ∃ cz, CopyR w w.heap.size cs s (z + 1) wr cz ∧ wr.heap[w.heap.size + 1]? = some (.cells zSt 79 (0, 0))) (fun i _ => 11 - (intOf i).toNat)
  case atStart => exact ⟨0, by omega, rfl, _, Hst1.out, Hz1.out⟩
  case round =>
    obtain ⟨z, hz, rfl, cz, hcr, hzz⟩ := hrel
    have hbel := hcr.bel
    have hsz := hcr.hz
    by_cases hlt : z < 11
    · obtain ⟨a2, c2, e2, r2⟩ := h.sl (z + 1) (by omega)
      rw [← hcr.rest (z + 1) (by omega)] at e2
      have r3 := r2.all hbel
      have k2 : wr.cell? ⟨w.heap.size, 1 + z, none⟩ = some (.slice a2 (lenOf s (z + 1)) c2) := by rw [show 1 + z = z + 1 by omega]; exact (obj_cell hcr.obj _).trans e2
      have hsz1 : szOf (z + 1) = 1 := rfl
      have hty1 : tyOf (z + 1) = 3 := rfl
      have hro1 : rowOf s (z + 1) = (s.l.getD z []).map (.int .i64) := by simp [rowOf]
      rw [hsz1, hro1] at r3
      have H3 := Lib.hid r3
      have Hcr := Lib.hid hcr
      have Hzz := Lib.hid hzz
      clear r3 r2 e2 hcr hzz hbel
      have hr1 := obj_lt Hcr.out.obj
      go_wp2_with (at_builtin; refine wp_append rfl (.tmp 13) (.tmp 17) 22 rfl 3 (.int .i64 0) 1 8 Try.underlying22 Try.infoInt rfl (by decide) rfl rfl (RowAt.lit wr #[] _ 1 0 (Nat.zero_le _) rfl (by simp)) (H3.out.alloc _) (by have := H3.out.le; have := H3.out.max; omega) (by have := hL (z + 1) (by omega); omega) ?_; intro a4 c4 wb hrow hupd hloc hnil; simp only [Nat.zero_add, List.nil_append] at hrow; have hf := appFresh rfl hloc; have hbel := appLit rfl hupd; have kf := obj_free (below_obj hbel (Hcr.out.obj) hr1) (1 + z); have kd := (obj_cell (below_obj hbel (Hcr.out.obj) hr1) (1 + z)).trans ((obj_cell Hcr.out.obj (1 + z)).symm.trans k2); have Hst1 := Lib.hid (Hcr.out.step (by omega) hbel (by rw [hsz1, hty1, hro1]; exact hrow) hf); have Hz2 := Lib.hid (setCell_obj (p := ⟨w.heap.size, z + 1, none⟩) (u := .slice a4 (lenOf s (z + 1)) c4) (below_obj hbel Hzz.out (obj_lt Hzz.out)) (by simp)); clear k2 hbel hrow hf hupd hloc hnil)
      go_roundw
      case rel => exact ⟨z + 1, by omega, by go_num, _, by rw [show 1 + z = z + 1 by omega]; exact Hst1.out, by rw [show 1 + z = z + 1 by omega]; exact Hz2.out⟩
      case measure => simp [intOf]; omega
    · obtain rfl : z = 11 := by omega
      have Hcr := Lib.hid hcr
      have Hzz := Lib.hid hzz
      have Ho := Lib.hid (hcr.stO h)
      clear hcr hzz hbel
      go_wp2_with (first | (refine wpList_load_whole rfl 79 (.tmp 1) rfl w.heap.size rfl 79 cz (0, 0) Hcr.out.obj _ Try.underlying79 rfl (by rw [Hcr.out.size]; exact Try.sizeSt) ?_) | (refine wpList_store_whole rfl 79 (.tmp 2) (.tmp 22) rfl (w.heap.size + 1) rfl 79 zSt cz rfl Hzz.out (by rw [Hcr.out.size]; exact Try.sizeSt) (by rw [Hcr.out.size]; rfl) Ho.out.c.one ?_; intro wc hobj hupd))
      refine bodyPost_ret (results_cell_row rfl _ wc (w.heap.size + 1) 79 cz (0, 0) _ rfl hobj Try.underlying79 rfl (by rw [Hcr.out.size]; exact Try.sizeSt)) rfl ?_
      exact ⟨cz, rfl, (Ho.out.upd hupd (fun i a c hi he ad hd hb => by have := Ho.out.fresh i a c hi he ad hd; omega)).mono (by omega), Hcr.out.bel.trans (hupd.below (by omega) (fun k hk hb => by omega))⟩
end Go.Proofs.Ytpbocficffbcbaa
