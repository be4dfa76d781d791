import Derived.Test.YtpbocficffbcbaaState
namespace Go.Proofs.Ytpbocficffbcbaa
open Go Go.RowKit
set_option linter.unusedVariables false

abbrev zSt : Array Value := #[.slice none 0 0, .slice none 0 0, .slice none 0 0, .slice none 0 0, .slice none 0 0, .slice none 0 0, .slice none 0 0, .slice none 0 0, .slice none 0 0, .slice none 0 0, .slice none 0 0, .slice none 0 0,
  .int .i64 0, .int .i64 0, .int .i64 0, .int .i64 0, .int .i64 0, .int .i64 0, .int .i64 0, .int .i64 0, .int .i64 0, .int .i64 0, .int .i64 0, .int .i64 0, .int .i64 0, .int .i64 0, .int .i64 0, .int .i64 0, .int .i64 0, .int .i64 0, .int .i64 0, .int .i64 0, .int .i64 0, .int .i64 0, .int .i64 0, .int .i64 0, .int .i64 0]

/-- The first m slices of the block b are new clones. -/
structure CopyR (w : World) (b : Nat) (cs : Array Value) (s : St) (m : Nat) (wr : World) (cz : Array Value) : Prop where
  obj : wr.heap[b]? = some (.cells cz 79 (0, 0))
  size : cz.size = 37
  sl : ∀ i, i < m → ∃ a c, cz[i]? = some (.slice a (lenOf s i) c) ∧ RowAt wr (tyOf i) (szOf i) a (lenOf s i) c (rowOf s i) ∧ Fresh (w.heap.size + 2) a
  dis : ∀ i j a b n m' c d, i < m → j < m → i ≠ j → cz[i]? = some (.slice a n c) → cz[j]? = some (.slice b m' d) → ∀ x y, a = some x → b = some y → x.block ≠ y.block
  rest : ∀ i, m ≤ i → cz[i]? = cs[i]?
  bel : Below w.heap.size w wr
  ge : w.heap.size ≤ b ∧ b < w.heap.size + 2
  hz : w.heap.size + 2 ≤ wr.heap.size
theorem CopyR.step {w : World} {b : Nat} {cs : Array Value} {s : St} {m : Nat} {wr w' : World} {cz : Array Value} (h : CopyR w b cs s m wr cz) (hm : m < 12) (k : Below wr.heap.size wr w') {a : Option Addr} {c : Nat}
    (hr : RowAt w' (tyOf m) (szOf m) a (lenOf s m) c (rowOf s m)) (hf : Fresh wr.heap.size a) : CopyR w b cs s (m + 1) (w'.setCell ⟨b, m, none⟩ (.slice a (lenOf s m) c)) (cz.setIfInBounds m (.slice a (lenOf s m) c)) := by
  have hb : b < wr.heap.size := obj_lt h.obj
  have hne : ∀ {i a' c'}, i < m → cz[i]? = some (.slice a' (lenOf s i) c') → RowAt wr (tyOf i) (szOf i) a' (lenOf s i) c' (rowOf s i) → ∀ ad, a' = some ad → ad.block < wr.heap.size := fun _ _ hr => hr.lt
  have hbf : ∀ {a' : Option Addr}, Fresh (w.heap.size + 2) a' → ∀ ad, a' = some ad → ad.block ≠ b := fun hf' ad he hb' => by have := hf' ad he; have := h.ge; omega
  have hfm : Fresh (w.heap.size + 2) a := hf.mono h.hz
  refine ⟨obj_set (below_obj k h.obj hb) m _, by simp [h.size], fun i hi => ?_, fun i j a1 b1 n1 m1 c1 d1 hi hj hij h1 h2 x y hx hy => ?_, fun i hi => ?_, (h.bel.trans (k.mono h.bel.size)).setCell h.ge.1 _, h.ge, by have := k.size; have := h.hz; simp; omega⟩
  · by_cases him : i = m
    · subst him
      exact ⟨a, c, Array.getElem?_setIfInBounds_self_of_lt (by rw [h.size]; omega), hr.setCell _ (hbf hfm) _, hfm⟩
    · obtain ⟨a', c', h1, h2, h3⟩ := h.sl i (by omega)
      exact ⟨a', c', by rw [Array.getElem?_setIfInBounds_ne (Ne.symm him)]; exact h1, (h2.all k).setCell _ (hbf h3) _, h3⟩
  · have key : ∀ i a1 n1 c1, i < m + 1 → (cz.setIfInBounds m (.slice a (lenOf s m) c))[i]? = some (.slice a1 n1 c1) → (i = m ∧ a1 = a) ∨ (i < m ∧ cz[i]? = some (.slice a1 n1 c1) ∧ ∀ ad, a1 = some ad → ad.block < wr.heap.size) := fun i a1 n1 c1 hi h1 => by
      by_cases him : i = m
      · subst him
        rw [Array.getElem?_setIfInBounds_self_of_lt (by rw [h.size]; omega)] at h1
        simp at h1
        exact .inl ⟨rfl, h1.1.symm⟩
      · rw [Array.getElem?_setIfInBounds_ne (Ne.symm him)] at h1
        obtain ⟨a', c', h1', h2', _⟩ := h.sl i (by omega)
        rw [h1'] at h1
        simp at h1
        obtain ⟨rfl, rfl, rfl⟩ := h1
        exact .inr ⟨by omega, h1', h2'.lt⟩
    rcases key i a1 n1 c1 hi h1 with ⟨e1, e2⟩ | ⟨e1, e2, e3⟩ <;> rcases key j b1 m1 d1 hj h2 with ⟨g1, g2⟩ | ⟨g1, g2, g3⟩
    · omega
    · subst e2
      have := hf x hx
      have := g3 y hy
      omega
    · subst g2
      have := hf y hy
      have := e3 x hx
      omega
    · exact h.dis i j a1 b1 n1 m1 c1 d1 e1 g1 hij e2 g2 x y hx hy
  · rw [Array.getElem?_setIfInBounds_ne (by omega)]
    exact h.rest i (by omega)
theorem CopyR.all {w : World} {b : Nat} {cs : Array Value} {s : St} {m : Nat} {wr w' : World} {cz : Array Value} (h : CopyR w b cs s m wr cz) (k : Below wr.heap.size wr w') : CopyR w b cs s m w' cz :=
  ⟨below_obj k h.obj (obj_lt h.obj), h.size, fun i hi => by obtain ⟨a, c, h1, h2, h3⟩ := h.sl i hi; exact ⟨a, c, h1, h2.all k, h3⟩, h.dis, h.rest, h.bel.trans (k.mono h.bel.size), h.ge, Nat.le_trans h.hz k.size⟩

theorem StO.upd {S : Nat → Prop} {B : Nat} {w w' : World} {cs : Array Value} {s : St} (h : StO B w cs s) (k : Upd S w w') (hs : ∀ i a c, i < 12 → cs[i]? = some (.slice a (lenOf s i) c) → ∀ ad, a = some ad → ¬ S ad.block) : StO B w' cs s :=
  ⟨h.size, fun i hi => by
    obtain ⟨a, c, h1, h2, h3⟩ := h.sl i hi
    exact ⟨a, c, h1, h2.upd k (hs i a c hi h1), h3⟩, h.dis, h.num⟩
theorem StO.mono {B C : Nat} {w : World} {cs : Array Value} {s : St} (h : StO B w cs s) (hC : C ≤ B) : StO C w cs s :=
  ⟨h.size, fun i hi => by
    obtain ⟨a, c, h1, h2, h3⟩ := h.sl i hi
    exact ⟨a, c, h1, h2, h3.mono hC⟩, h.dis, h.num⟩
theorem StO.fresh {B : Nat} {w : World} {cs : Array Value} {s : St} (h : StO B w cs s) : ∀ i a c, i < 12 → cs[i]? = some (.slice a (lenOf s i) c) → Fresh B a := fun i a c hi he => by
  obtain ⟨a', c', h1, h2, h3⟩ := h.sl i hi
  rw [h1] at he
  simp at he
  rw [← he.1]
  exact h3
theorem CopyR.stO {w : World} {b : Nat} {cs : Array Value} {s : St} {wr : World} {cz : Array Value} (h : CopyR w b cs s 12 wr cz) (hc : StC w cs s) : StO (w.heap.size + 2) wr cz s :=
  ⟨h.size, fun i hi => h.sl i hi, h.dis, fun j hj => by rw [h.rest (12 + j) (by omega)]; exact hc.num j hj⟩

/-- Behind a call that hands back a new state. -/
def StTo (w : World) (s : St) (e : Ending) (w' : World) : Prop := ∃ cs, e = .returned (.agg cs) ∧ StO w.heap.size w' cs s ∧ Below w.heap.size w w'

set_option maxRecDepth 100000 in
set_option maxHeartbeats 3200000 in
theorem stateCopy (w : World) (cs : Array Value) (s : St) (h : StC w cs s) (hL : ∀ i, i < 12 → lenOf s i ≤ 100000) :
    Calls Try.prog 91 #[.agg cs] w (StTo w s) := by
  have hsz : cs.size = 37 := h.size
  have h1 := h.all ((((Below.refl w.heap.size w).alloc (Nat.le_refl _) (.cells cs 79)).alloc (by simp) (.cells zSt 79)))
  have hb1 : Below w.heap.size w ((w.alloc (.cells cs 79)).alloc (.cells zSt 79)) := (((Below.refl w.heap.size w).alloc (Nat.le_refl _) (.cells cs 79)).alloc (by simp) (.cells zSt 79))
  have ob := alloc_obj (x := .cells zSt 79) (alloc_new w (.cells cs 79))
  have oz := alloc_new (w.alloc (.cells cs 79)) (.cells zSt 79)
  rw [World.size_alloc] at oz
  obtain ⟨a0, c0, e0, r0⟩ := h1.sl 0 (by decide)
  have hst : CopyR w w.heap.size cs s 0 ((w.alloc (.cells cs 79)).alloc (.cells zSt 79)) cs :=
    ⟨ob, hsz, fun i hi => absurd hi (Nat.not_lt_zero _), fun i j a b n m c d hi => absurd hi (Nat.not_lt_zero _), fun i _ => rfl, hb1, ⟨Nat.le_refl _, by omega⟩, by simp⟩
  have Hst := Lib.hid hst
  have k0 : ((w.alloc (.cells cs 79)).alloc (.cells zSt 79)).cell? ⟨w.heap.size, 0, none⟩ = some (.slice a0 (lenOf s 0) c0) := (obj_cell ob 0).trans e0
  have Hr0 := Lib.hid r0
  have e0' := Lib.hid e0
  clear hst ob e0 r0
  go_enter Try.func91, Try.ntmps91
  go_wp2_with fail
  refine (cloneObjs _ _ _ _ _ Hr0.out (by have := hL 0 (by decide); omega)).mono ?_
  rintro e wa ⟨a1, c1, rfl, hrow, hf, hbel, hnil⟩
  have hst1 := Hst.out.step (by decide) hbel hrow hf
  have Hz1 := Lib.hid (setCell_obj (p := ⟨w.heap.size, 0, none⟩) (u := .slice a1 (lenOf s 0) c1) (below_obj hbel oz (by simp)) (by simp))
  have kf := obj_free (below_obj hbel (Hst.out.obj) (by simp; omega)) 0
  have kc := (obj_cell (below_obj hbel (Hst.out.obj) (by simp; omega)) 0).trans e0'.out
  have Hst1 := Lib.hid hst1
  clear hst1 oz k0 Hst Hr0 hb1 hbel hnil hrow hf
  go_wp2_with fail
  go_loopw [8] (fun i wr => ∃ z : Nat, z ≤ 11 ∧ i = .int .i64 z ∧ ∃ cz, CopyR w w.heap.size cs s (z + 1) wr cz ∧ wr.heap[w.heap.size + 1]? = some (.cells zSt 79 (0, 0))) (fun i _ => 11 - (intOf i).toNat)
  case atStart => exact ⟨0, by omega, rfl, _, Hst1.out, Hz1.out⟩
  case round =>
    obtain ⟨z, hz, rfl, cz, hcr, hzz⟩ := hrel
    have hbel := hcr.bel
    have hsz := hcr.hz
    by_cases hlt : z < 11
    · obtain ⟨a2, c2, e2, r2⟩ := h.sl (z + 1) (by omega)
      rw [← hcr.rest (z + 1) (by omega)] at e2
      have r3 := r2.all hbel
      have k2 : wr.cell? ⟨w.heap.size, 1 + z, none⟩ = some (.slice a2 (lenOf s (z + 1)) c2) := by rw [show 1 + z = z + 1 by omega]; exact (obj_cell hcr.obj _).trans e2
      have hsz1 : szOf (z + 1) = 1 := rfl
      have hty1 : tyOf (z + 1) = 3 := rfl
      have hro1 : rowOf s (z + 1) = (s.l.getD z []).map (.int .i64) := by simp [rowOf]
      rw [hsz1, hro1] at r3
      have H3 := Lib.hid r3
      have Hcr := Lib.hid hcr
      have Hzz := Lib.hid hzz
      clear r3 r2 e2 hcr hzz hbel
      go_wp2_with fail
      refine (cloneInts _ _ _ _ _ H3.out (by have := hL (z + 1) (by omega); omega)).mono ?_
      rintro e wb ⟨a4, c4, rfl, hrow, hf, hbel, hnil⟩
      have hst1 := Hcr.out.step (by omega) hbel (by rw [hsz1, hty1, hro1]; exact hrow) hf
      have hr1 := obj_lt Hcr.out.obj
      have Hz2 := Lib.hid (setCell_obj (p := ⟨w.heap.size, z + 1, none⟩) (u := .slice a4 (lenOf s (z + 1)) c4) (below_obj hbel Hzz.out (obj_lt Hzz.out)) (by simp))
      have kf := obj_free (below_obj hbel (Hcr.out.obj) hr1) (1 + z)
      have kc := (below_obj hbel (Hcr.out.obj) hr1)
      have kd := (obj_cell kc (1 + z)).trans ((obj_cell Hcr.out.obj (1 + z)).symm.trans k2)
      have Hst1 := Lib.hid hst1
      clear hst1 k2 kc hbel hnil hrow hf
      go_wp2_with fail
      go_roundw
      case rel => exact ⟨z + 1, by omega, by go_num, _, by rw [show 1 + z = z + 1 by omega]; exact Hst1.out, by rw [show 1 + z = z + 1 by omega]; exact Hz2.out⟩
      case measure => simp [intOf]; omega
    · obtain rfl : z = 11 := by omega
      have Hcr := Lib.hid hcr
      have Hzz := Lib.hid hzz
      have Ho := Lib.hid (hcr.stO h)
      clear hcr hzz hbel
      go_wp2_with (first | (refine wpList_load_whole rfl 79 (.tmp 1) rfl w.heap.size rfl 79 cz (0, 0) Hcr.out.obj _ Try.underlying79 rfl (by rw [Hcr.out.size]; exact Try.sizeSt) ?_) | (refine wpList_store_whole rfl 79 (.tmp 2) (.tmp 20) rfl (w.heap.size + 1) rfl 79 zSt cz rfl Hzz.out (by rw [Hcr.out.size]; exact Try.sizeSt) (by rw [Hcr.out.size]; rfl) Ho.out.c.one ?_; intro wc hobj hupd))
      refine bodyPost_ret (results_cell_row rfl _ wc (w.heap.size + 1) 79 cz (0, 0) _ rfl hobj Try.underlying79 rfl (by rw [Hcr.out.size]; exact Try.sizeSt)) rfl ?_
      exact ⟨cz, rfl, (Ho.out.upd hupd (fun i a c hi he ad hd hb => by have := Ho.out.fresh i a c hi he ad hd; omega)).mono (by omega), Hcr.out.bel.trans (hupd.below (by omega) (fun k hk hb => by omega))⟩
end Go.Proofs.Ytpbocficffbcbaa
