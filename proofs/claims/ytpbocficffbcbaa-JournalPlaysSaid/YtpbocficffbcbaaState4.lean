import Derived.Test.YtpbocficffbcbaaState3
namespace Go.Proofs.Ytpbocficffbcbaa
open Go Go.RowKit
set_option linter.unusedVariables false

/-- The state that is nothing. -/
def st0 : St := ⟨[], List.replicate 11 [], List.replicate 25 0⟩
theorem st0_ok : StOk st0 := ⟨by simp [st0], by simp [st0], by simp [st0]⟩
theorem lenOf_st0 (i : Nat) : lenOf st0 i = 0 := by
  unfold lenOf
  split
  · rfl
  · simp only [st0, List.getD, List.getElem?_replicate]
    split <;> rfl
theorem rowOf_st0 (i : Nat) : rowOf st0 i = [] := by
  unfold rowOf
  split
  · rfl
  · simp only [st0, List.getD, List.getElem?_replicate]
    split <;> rfl
theorem zSt_O (B : Nat) (w : World) : StO B w zSt st0 where
  size := rfl
  sl := fun i hi => ⟨none, 0, by rw [lenOf_st0]; match i, hi with | 0, _ | 1, _ | 2, _ | 3, _ | 4, _ | 5, _ | 6, _ | 7, _ | 8, _ | 9, _ | 10, _ | 11, _ => rfl, by rw [lenOf_st0, rowOf_st0]; exact RowAt.null _ _ _, fresh_none⟩
  dis := fun i j a b n m c d hi hj hij h1 h2 x y hx => by
    subst hx
    exfalso
    match i, hi with | 0, _ | 1, _ | 2, _ | 3, _ | 4, _ | 5, _ | 6, _ | 7, _ | 8, _ | 9, _ | 10, _ | 11, _ => simp [zSt] at h1
  num := fun j hj => by
    simp only [st0, List.getD, List.getElem?_replicate, if_pos hj]
    match j, hj with
    | k + 25, hk => exact absurd hk (by omega)
    | 0, _ | 1, _ | 2, _ | 3, _ | 4, _ | 5, _ | 6, _ | 7, _ | 8, _ | 9, _ | 10, _ | 11, _ | 12, _ | 13, _ | 14, _ | 15, _ | 16, _ | 17, _ | 18, _ | 19, _ | 20, _ | 21, _ | 22, _ | 23, _ | 24, _ => rfl

theorem StO.lt {B : Nat} {w : World} {cs : Array Value} {s : St} (h : StO B w cs s) : ∀ i a c, i < 12 → cs[i]? = some (.slice a (lenOf s i) c) → ∀ ad, a = some ad → ad.block < w.heap.size := fun i a c hi he ad hd => by
  obtain ⟨a', c', h1, h2, h3⟩ := h.sl i hi
  rw [h1] at he
  simp at he
  rw [← he.1] at hd
  exact h2.lt ad hd
/-- A state stored into a new block. -/
theorem StAt.stored {B : Nat} {w w' : World} {cs : Array Value} {s : St} {o : Obj} (h : StO B w cs s) (ho : w'.heap[w.heap.size]? = some (.cells cs 79 (0, 0))) (k : Upd (fun k => k = w.heap.size) (w.alloc o) w') : StAt w' B w.heap.size s cs := by
  refine ⟨ho, (h.all ((Below.refl _ w).alloc (Nat.le_refl _) o)).upd k (fun i a c hi he ad hd hk => ?_), fun i a c hi he ad hd hk => ?_⟩
  · have := h.lt i a c hi he ad hd
    change _ = _ at hk
    omega
  · have := h.lt i a c hi he ad hd
    omega

theorem results_cell_slot {P : Program} {fn : Func} {p q : Tmp} {ty : TypeId} (h : fn.results = #[.cell p ty, .tmp q]) (tmps : Array Value) (w : World) (g : Nat) (t : TypeId) (cs : Array Value) (fr : Nat × Nat) (d : TypeDesc)
    (hp : tmps.getD p undef = .pointer (some ⟨g, 0, none⟩)) (hg : w.heap[g]? = some (.cells cs t fr))
    (hu : P.underlying ty = some d) (hd : (match d with | .struct _ | .array _ _ => true | _ => false) = true) (hi : (P.info? ty).map (·.size) = some cs.size) :
    (results fn tmps).run P w = .ok (.tuple #[.agg cs, tmps.getD q undef]) w := by
  have hp' : tmps[p]?.getD undef = .pointer (some ⟨g, 0, none⟩) := by simpa using hp
  simp [results, h, hp', asAddr, run_loadVar_row w g t ty cs fr d hg hu hd hi]

/-- Behind Apply. -/
def ApTo (w : World) (t : St) (n : Int) (x : Ending) (w' : World) : Prop :=
  ∃ cs, x = .returned (.tuple #[.agg cs, errV 32 n]) ∧ StO w.heap.size w' cs (if n = 0 then t else st0) ∧ Below w.heap.size w w'

set_option maxRecDepth 100000 in
set_option maxHeartbeats 800000 in
theorem apply_of (w : World) (cs : Array Value) (s t : St) (e : Ev) (n : Int) (h : StC w cs s) (hL : ∀ i, i < 12 → lenOf s i ≤ 100000)
    (hdo : ∀ (w : World) (B g : Nat) (cs : Array Value), StAt w B g s cs → B ≤ w.heap.size → Calls Try.prog 62 #[.pointer (some ⟨g, 0, none⟩), evV e] w (DoTo w B g s t n)) :
    Calls Try.prog 57 #[.agg cs, evV e] w (ApTo w t n) := by
  have hsz : cs.size = 37 := h.size
  have Hh := Lib.hid h
  have Hdo := Lib.hid hdo
  clear h hdo
  go_enter Try.func57, Try.ntmps57
  have b1 : Below w.heap.size w (((w.alloc (.cells cs 79)).alloc (.cells (evA e) 64)).alloc (.cells zSt 79)) := ((((Below.refl _ w).alloc (Nat.le_refl _) _).alloc (by simp) _).alloc (by simp; omega) _)
  have oc := alloc_obj (x := .cells zSt 79) (alloc_obj (x := .cells (evA e) 64) (alloc_new w (.cells cs 79)))
  have oe := alloc_obj (x := .cells zSt 79) (alloc_new (w.alloc (.cells cs 79)) (.cells (evA e) 64))
  have oz := alloc_new ((w.alloc (.cells cs 79)).alloc (.cells (evA e) 64)) (.cells zSt 79)
  simp only [World.size_alloc] at oe oz
  have Oc := Lib.hid oc
  have Oe := Lib.hid oe
  have Oz := Lib.hid oz
  have H1 := Lib.hid (Hh.out.all b1)
  have Hb1 := Lib.hid b1
  clear oc oe oz b1
  go_wp2_with (refine wpList_load_whole rfl 79 (.tmp 2) rfl w.heap.size rfl 79 cs (0, 0) Oc.out _ Try.underlying79 rfl (by rw [hsz]; exact Try.sizeSt) ?_)
  refine (stateCopy _ _ _ H1.out hL).mono ?_
  rintro x wa ⟨cz, rfl, hown, hba⟩
  have hcz : cz.size = 37 := hown.size
  have h3 : w.heap.size + 3 ≤ wa.heap.size := by have := hba.size; simp at this; omega
  have Oe1 := Lib.hid (alloc_obj (x := .cells zSt 79) (below_obj hba Oe.out (by simp)))
  have Oz1 := Lib.hid (alloc_obj (x := .cells zSt 79) (below_obj hba Oz.out (by simp)))
  have On1 := Lib.hid (alloc_new wa (.cells zSt 79))
  have Hba := Lib.hid hba
  have Hown := Lib.hid hown
  clear hba hown
  go_wp2_with (refine wpList_store_whole rfl 79 (.tmp 6) (.tmp 9) rfl wa.heap.size rfl 79 zSt cz rfl On1.out (by rw [hcz]; exact Try.sizeSt) (by rw [hcz]; rfl) Hown.out.c.one ?_; intro wb hobj hupd; obtain ⟨c0, c1, c2, c3, c4, c5⟩ := EvCells.of (hupd.obj Oe1.out (by intro hk; change _ = _ at hk; omega)))
  refine (Hdo.out _ _ _ _ (StAt.stored Hown.out hobj hupd) (by have h1 := hupd.size; have h2 := Hba.out.size; rw [World.size_alloc] at h1; omega)).mono ?_
  rintro x wd ⟨rfl, hu, cd, hst⟩
  have Hst := Lib.hid hst
  have Hbd := Lib.hid (show Below w.heap.size w wd from Hb1.out.trans ((Hba.out.mono (by simp; omega)).trans ((((Below.refl _ wa).alloc (Nat.le_refl _) _).mono (by omega)).trans ((hupd.below (by simp; omega) (fun k hk hb => by change _ = _ at hb; omega)).trans (hu.below (by have := hupd.size; simp at this; omega) (fun k hk hb => by change _ = _ at hb; omega))))))
  have Oz2 := Lib.hid (hu.obj (hupd.obj Oz1.out (by intro hk; change _ = _ at hk; omega)) (by intro hk; change _ = _ at hk; omega))
  have hlt := obj_lt Oz2.out
  clear hst hu hupd hobj c0 c1 c2 c3 c4 c5
  have hcd : cd.size = 37 := Hst.out.own.size
  by_cases hn : n = 0
  · have hs2 := Hst.out
    rw [if_pos hn] at hs2
    have Hs2 := Lib.hid hs2
    subst hn
    rw [errV_zero]
    clear hs2
    go_wp2_with (first | (refine wpList_load_whole rfl 79 (.tmp 6) rfl wa.heap.size rfl 79 cd (0, 0) Hs2.out.obj _ Try.underlying79 rfl (by rw [hcd]; exact Try.sizeSt) ?_) | (refine wpList_store_whole rfl 79 (.tmp 4) (.tmp 16) rfl (w.heap.size + 1 + 1) rfl 79 zSt cd rfl Oz2.out (by rw [hcd]; exact Try.sizeSt) (by rw [hcd]; rfl) Hs2.out.own.c.one ?_; intro we hobj hupd))
    refine bodyPost_ret (results_cell_slot rfl _ we (w.heap.size + 1 + 1) 79 cd (0, 0) _ rfl hobj Try.underlying79 rfl (by rw [hcd]; exact Try.sizeSt)) rfl ?_
    refine ⟨cd, rfl, ?_, Hbd.out.trans (hupd.below (by have := Hbd.out.size; omega) (fun k hk hb => by change _ = _ at hb; omega))⟩
    rw [if_pos rfl]
    exact (Hs2.out.own.upd hupd (fun i a c hi he ad hd hb => by have := Hs2.out.own.fresh i a c hi he ad hd; simp at this; change _ = _ at hb; omega)).mono (by simp; omega)
  · rw [errV_pos _ _ hn]
    have Hn := Lib.hid hn
    clear hn
    go_wp2_with (first | (refine wpList_store_whole rfl 79 (.tmp 4) (.tmp 14) rfl (w.heap.size + 1 + 1) rfl 79 zSt zSt rfl Oz2.out Try.sizeSt rfl (zSt_O 0 w).c.one ?_; intro we hobj hupd))
    refine bodyPost_ret (results_cell_slot rfl _ we (w.heap.size + 1 + 1) 79 zSt (0, 0) _ rfl hobj Try.underlying79 rfl Try.sizeSt) rfl ?_
    refine ⟨zSt, by rw [errV_pos _ _ Hn.out]; rfl, ?_, Hbd.out.trans (hupd.below (by have := Hbd.out.size; omega) (fun k hk hb => by change _ = _ at hb; omega))⟩
    rw [if_neg Hn.out]
    exact zSt_O _ _
end Go.Proofs.Ytpbocficffbcbaa
