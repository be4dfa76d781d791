import Derived.Test.YtpbocficffbcbaaNumCopy
import Derived.Test.YtpbocficffbcbaaEv4
import Derived.Test.YtpbocficffbcbaaDoG
import Derived.Test.YtpbocficffbcbaaHeldT
import Derived.Test.YtpbocficffbcbaaRefP
namespace Go.Proofs.Ytpbocficffbcbaa
open Go Go.RowKit
set_option linter.unusedVariables false

/-- Another slice at place i of a state, grown by append: in its own row, or new. -/
theorem StAt.setApp {w w2 : World} {B g : Nat} {s s' : St} {cs : Array Value} (h : StAt w B g s cs) (hB : B ≤ w.heap.size) (i : Nat) (hi : i < 12) {a0 : Option Addr} {n0 c0 : Nat} (h0 : cs[i]? = some (.slice a0 n0 c0)) (k : Upd (blk a0) w w2) {a : Option Addr} {n c : Nat} (hn : n = lenOf s' i)
    (hr : RowAt w2 (tyOf i) (szOf i) a n c (rowOf s' i)) (hloc : ∀ ad, a = some ad → a0 = some ad ∨ w.heap.size ≤ ad.block)
    (hl : ∀ j, j < 12 → j ≠ i → lenOf s' j = lenOf s j ∧ rowOf s' j = rowOf s j) (hp : s'.p = s.p) :
    StAt (w2.setCell ⟨g, i, none⟩ (.slice a n c)) B g s' (cs.setIfInBounds i (.slice a n c)) := by
  subst hn
  obtain ⟨a1, c1, e1, r1, f1⟩ := h.own.sl i hi
  have e2 := h0.symm.trans e1
  simp at e2
  obtain ⟨rfl, rfl, rfl⟩ := e2
  have hoff := h.off i a0 c0 hi h0
  have hg : g < w.heap.size := obj_lt h.obj
  have hfr : ∀ ad, a = some ad → B ≤ ad.block ∧ ad.block ≠ g := fun ad he => by
    rcases hloc ad he with h1 | h1
    · exact ⟨f1 ad h1, hoff ad h1⟩
    · exact ⟨by omega, by omega⟩
  have hdis : ∀ j b m d, j < 12 → j ≠ i → cs[j]? = some (.slice b m d) → ∀ x y, a = some x → b = some y → x.block ≠ y.block := fun j b m d hj hji he x y hx hy => by
    rcases hloc x hx with h1 | h1
    · exact h.own.dis i j a0 b _ m c0 d hi hj (Ne.symm hji) h0 he x y h1 hy
    · have := h.own.lt' hj he y hy
      omega
  have hne : ∀ j, j ≠ i → (cs.setIfInBounds i (.slice a (lenOf s' i) c))[j]? = cs[j]? := fun j hj => Array.getElem?_setIfInBounds_ne (Ne.symm hj)
  have hself : (cs.setIfInBounds i (.slice a (lenOf s' i) c))[i]? = some (.slice a (lenOf s' i) c) := Array.getElem?_setIfInBounds_self_of_lt (by rw [h.own.size]; omega)
  refine ⟨obj_set (k.obj h.obj (by rintro ⟨ad, he, hb⟩; exact hoff ad he hb)) i _, ⟨by simp [h.own.size], fun j hj => ?_, fun j l a1 b1 n1 m1 c1 d1 hj hl1 hjl h1 h2 x y hx hy => ?_, fun j hj => ?_⟩, fun j a1 c1 hj he ad hd => ?_⟩
  · by_cases hji : j = i
    · subst hji
      exact ⟨a, c, hself, hr.setCell _ (fun ad he => (hfr ad he).2) _, fun ad he => (hfr ad he).1⟩
    · obtain ⟨a1, c1, h1, h2, h3⟩ := h.own.sl j hj
      rw [hne j hji, (hl j hj hji).1, (hl j hj hji).2]
      exact ⟨a1, c1, h1, (h2.upd k (fun ad he => by rintro ⟨ad0, he0, hb0⟩; exact h.own.dis i j a0 a1 _ _ _ _ hi hj (Ne.symm hji) h0 h1 ad0 ad he0 he hb0)).setCell _ (h.off j a1 c1 hj h1) _, h3⟩
  · by_cases hji : j = i
    · subst hji
      rw [hself] at h1
      simp at h1
      rw [hne l (Ne.symm hjl)] at h2
      exact hdis l b1 m1 d1 hl1 (Ne.symm hjl) h2 x y (h1.1.trans hx) hy
    · rw [hne j hji] at h1
      by_cases hli : l = i
      · subst hli
        rw [hself] at h2
        simp at h2
        exact (hdis j a1 n1 c1 hj hji h1 y x (h2.1.trans hy) hx).symm
      · rw [hne l hli] at h2
        exact h.own.dis j l a1 b1 n1 m1 c1 d1 hj hl1 hjl h1 h2 x y hx hy
  · rw [hne _ (by omega), hp]
    exact h.own.num j hj
  · by_cases hji : j = i
    · subst hji
      rw [hself] at he
      simp at he
      exact (hfr ad (he.1.trans hd)).2
    · rw [hne j hji, (hl j hj hji).1] at he
      exact h.off j a1 c1 hj he ad hd

theorem six_set {x : World} {k : Nat} {v0 v1 v2 v3 v4 v5 : Value} (h : x.cell? ⟨k, 0, none⟩ = some v0 ∧ x.cell? ⟨k, 1, none⟩ = some v1 ∧ x.cell? ⟨k, 2, none⟩ = some v2 ∧ x.cell? ⟨k, 3, none⟩ = some v3 ∧ x.cell? ⟨k, 4, none⟩ = some v4 ∧ x.cell? ⟨k, 5, none⟩ = some v5) {p : Addr} (hp : k ≠ p.block) (u : Value) :
    (x.setCell p u).cell? ⟨k, 0, none⟩ = some v0 ∧ (x.setCell p u).cell? ⟨k, 1, none⟩ = some v1 ∧ (x.setCell p u).cell? ⟨k, 2, none⟩ = some v2 ∧ (x.setCell p u).cell? ⟨k, 3, none⟩ = some v3 ∧ (x.setCell p u).cell? ⟨k, 4, none⟩ = some v4 ∧ (x.setCell p u).cell? ⟨k, 5, none⟩ = some v5 :=
  ⟨cell_set_other h.1 hp, cell_set_other h.2.1 hp, cell_set_other h.2.2.1 hp, cell_set_other h.2.2.2.1 hp, cell_set_other h.2.2.2.2.1 hp, cell_set_other h.2.2.2.2.2 hp⟩
abbrev zOA : Array Value := #[.int .i64 0, .int .i64 0, .int .i64 0, .int .i64 0, .int .i64 0, .int .i64 0, .int .i64 0, .int .i64 0, .int .i64 0, .int .i64 0, .int .i64 0, .int .i64 0, .int .i64 0, .int .i64 0, .int .i64 0, .int .i64 0, .int .i64 0, .int .i64 0]
theorem lit1 (W : World) (n : Nat) (hn : n = W.heap.size) (v : Int) : SlAt (W.alloc (.cells #[.int .i64 v] 3)) 1 (some ⟨n, 0, none⟩) 1 1 [.int .i64 v] := by
  subst hn
  exact (RowAt.lit W #[.int .i64 v] 3 1 1 (by decide) rfl (by simp [Value.oneCell'])).sl
theorem zOA_one : zOA.all (·.oneCell') = true := intsA_one [0, 0, 0, 0, 0, 0, 0, 0, 0, 0, 0, 0, 0, 0, 0, 0, 0, 0]
theorem Try.sizeObj : (Try.prog.info? 108).map (·.size) = some 18 := by kernel_rfl

set_option maxRecDepth 100000 in
set_option maxHeartbeats 1600000 in
theorem refMakeFull (w : World) (cs : Array Value) (s t : St) (h : StC w cs s) (ok : StOk s) (fits : Fits s 100000) (e : Ev) (hk : chk e = 0) (r : Int) (hek : e.k = 0) (hlen : 400 ≤ s.o.length) (hr : r = 5) :
    Calls Try.prog 58 #[.agg cs, evV e] w (RefTo w t r) := by
  have hsz : cs.size = 37 := h.size
  have b1 : Below w.heap.size w (((w.alloc (.cells cs 79)).alloc (.cells (evA e) 64)).alloc (.cells zSt 79)) := ((((Below.refl _ w).alloc (Nat.le_refl _) _).alloc (by simp) _).alloc (by simp; omega) _)
  have oc := alloc_obj (x := .cells zSt 79) (alloc_obj (x := .cells (evA e) 64) (alloc_new w (.cells cs 79)))
  have oe := alloc_obj (x := .cells zSt 79) (alloc_new (w.alloc (.cells cs 79)) (.cells (evA e) 64))
  have oz := alloc_new ((w.alloc (.cells cs 79)).alloc (.cells (evA e) 64)) (.cells zSt 79)
  simp only [World.size_alloc] at oe oz
  have Oc := Lib.hid oc
  have Oe := Lib.hid oe
  have Oz := Lib.hid oz
  have H1 := Lib.hid (h.all b1)
  have Hb1 := Lib.hid b1
  have Hk := Lib.hid hk
  have Ok := Lib.hid ok
  have Fi := Lib.hid fits
  have hfo := fits.o
  have H_hek := Lib.hid hek
  clear hek
  have H_hr := Lib.hid hr
  clear hr
  clear oc oe oz b1 h hk ok fits
  go_enter Try.func58, Try.ntmps58
  go_wp2_with fail
  refine (refCheck _ e).mono ?_
  rintro x w1 ⟨rfl, hb1⟩
  rw [Hk.out]
  have Oc1 := Lib.hid (below_obj hb1 Oc.out (by simp; omega))
  have Oe1 := Lib.hid (below_obj hb1 Oe.out (by simp))
  have Oz1 := Lib.hid (below_obj hb1 Oz.out (by simp))
  have H2 := Lib.hid (H1.out.all hb1)
  have Hb2 := Lib.hid (Hb1.out.trans (hb1.mono (by simp; omega)))
  have hw1 : w.heap.size + 3 ≤ w1.heap.size := by have := hb1.size; simp at this; omega
  clear hb1
  go_wp2_with (refine wpList_load_whole rfl 79 (.tmp 2) rfl w.heap.size rfl 79 cs (0, 0) Oc1.out _ Try.underlying79 rfl (by rw [hsz]; exact Try.sizeSt) ?_)
  refine (numCopy _ cs s H2.out (fun i hi => Fi.out.len i)).mono ?_
  rintro x wa ⟨cz, rfl, hown, hba⟩
  have hcz : cz.size = 37 := hown.size
  have On1 := Lib.hid (alloc_new wa (.cells zSt 79))
  have hwa := hba.size
  have Hba := Lib.hid hba
  have Hown := Lib.hid hown
  clear hba hown
  go_wp2_with (first | (refine wpList_store_whole rfl 79 (.tmp 7) (.tmp 19) rfl wa.heap.size rfl 79 zSt cz rfl On1.out (by rw [hcz]; exact Try.sizeSt) (by rw [hcz]; rfl) Hown.out.c.one ?_; intro wb hobj hupd; have Hst := Lib.hid (StAt.stored Hown.out hobj hupd); have hwb := hupd.size; rw [World.size_alloc] at hwb; have Oeb := Lib.hid (hupd.obj (alloc_obj (x := .cells zSt 79) (below_obj Hba.out Oe1.out (by omega))) (by intro hq; change _ = _ at hq; omega)); have Ozb := Lib.hid (hupd.obj (alloc_obj (x := .cells zSt 79) (below_obj Hba.out Oz1.out (by omega))) (by intro hq; change _ = _ at hq; omega)); have Hbb := Lib.hid (Hb2.out.trans ((Hba.out.mono (by omega)).trans ((((Below.refl _ wa).alloc (Nat.le_refl _) _).mono (by omega)).trans (hupd.below (by simp; omega) (fun k hk hb => by change _ = _ at hb; omega))))); obtain ⟨a0, c0, h0, r0, f0⟩ := Hst.out.own.sz0; have k0 := (obj_cell Hst.out.obj 0).trans h0; have hc0 := r0.le; have hm0 := r0.max; unfold maxLen at hm0; have R0 := Lib.hid r0; have H0 := Lib.hid h0; obtain ⟨x0, x1, x2, x3, x4, x5⟩ := EvCells.layR (EvCells.of Oeb.out) H_hek.out rfl rfl rfl rfl rfl; clear hobj hupd h0 r0 f0) | (refine wpList_store_whole rfl 79 (.tmp 4) (.tmp 44) rfl (w.heap.size + 1 + 1) rfl 79 zSt zSt rfl Ozb.out Try.sizeSt rfl (zSt_O 0 w).c.one ?_; intro wz hobj hupdz))
  refine bodyPost_ret (results_cell_slot rfl _ wz (w.heap.size + 1 + 1) 79 zSt (0, 0) _ rfl hobj Try.underlying79 rfl Try.sizeSt) rfl ?_
  exact ⟨zSt, by rw [H_hr.out]; rfl, by rw [H_hr.out, if_neg (by decide)]; exact zSt_O _ _, (Hbb.out).trans (hupdz.below (by have := Hbb.out.size; have := (Hbb.out).size; omega) (fun k hk hb => by change _ = _ at hb; omega))⟩

theorem rowOf_mk' (s : St) (e : Ev) : rowOf ⟨s.o ++ [madeL e], s.l, s.p⟩ 0 = objs s.o ++ (madeA e).toList := by
  simp [rowOf, objs]
  rfl

set_option maxRecDepth 100000 in
set_option maxHeartbeats 1600000 in
theorem refMake (w : World) (cs : Array Value) (s t : St) (h : StC w cs s) (ok : StOk s) (fits : Fits s 100000) (e : Ev) (hk : chk e = 0) (r : Int) (hek : e.k = 0) (hlen : s.o.length < 400) (hr : r = 0) (ht : t = mkS s e) :
    Calls Try.prog 58 #[.agg cs, evV e] w (RefTo w t r) := by
  have hsz : cs.size = 37 := h.size
  have b1 : Below w.heap.size w (((w.alloc (.cells cs 79)).alloc (.cells (evA e) 64)).alloc (.cells zSt 79)) := ((((Below.refl _ w).alloc (Nat.le_refl _) _).alloc (by simp) _).alloc (by simp; omega) _)
  have oc := alloc_obj (x := .cells zSt 79) (alloc_obj (x := .cells (evA e) 64) (alloc_new w (.cells cs 79)))
  have oe := alloc_obj (x := .cells zSt 79) (alloc_new (w.alloc (.cells cs 79)) (.cells (evA e) 64))
  have oz := alloc_new ((w.alloc (.cells cs 79)).alloc (.cells (evA e) 64)) (.cells zSt 79)
  simp only [World.size_alloc] at oe oz
  have Oc := Lib.hid oc
  have Oe := Lib.hid oe
  have Oz := Lib.hid oz
  have H1 := Lib.hid (h.all b1)
  have Hb1 := Lib.hid b1
  have Hk := Lib.hid hk
  have Ok := Lib.hid ok
  have Fi := Lib.hid fits
  have hfo := fits.o
  have H_hek := Lib.hid hek
  clear hek
  have H_hr := Lib.hid hr
  clear hr
  have H_ht := Lib.hid ht
  clear ht
  clear oc oe oz b1 h hk ok fits
  go_enter Try.func58, Try.ntmps58
  go_wp2_with fail
  refine (refCheck _ e).mono ?_
  rintro x w1 ⟨rfl, hb1⟩
  rw [Hk.out]
  have Oc1 := Lib.hid (below_obj hb1 Oc.out (by simp; omega))
  have Oe1 := Lib.hid (below_obj hb1 Oe.out (by simp))
  have Oz1 := Lib.hid (below_obj hb1 Oz.out (by simp))
  have H2 := Lib.hid (H1.out.all hb1)
  have Hb2 := Lib.hid (Hb1.out.trans (hb1.mono (by simp; omega)))
  have hw1 : w.heap.size + 3 ≤ w1.heap.size := by have := hb1.size; simp at this; omega
  clear hb1
  go_wp2_with (refine wpList_load_whole rfl 79 (.tmp 2) rfl w.heap.size rfl 79 cs (0, 0) Oc1.out _ Try.underlying79 rfl (by rw [hsz]; exact Try.sizeSt) ?_)
  refine (numCopy _ cs s H2.out (fun i hi => Fi.out.len i)).mono ?_
  rintro x wa ⟨cz, rfl, hown, hba⟩
  have hcz : cz.size = 37 := hown.size
  have On1 := Lib.hid (alloc_new wa (.cells zSt 79))
  have hwa := hba.size
  have Hba := Lib.hid hba
  have Hown := Lib.hid hown
  clear hba hown
  go_wp2_with (first | (refine wpList_store_whole rfl 79 (.tmp 7) (.tmp 19) rfl wa.heap.size rfl 79 zSt cz rfl On1.out (by rw [hcz]; exact Try.sizeSt) (by rw [hcz]; rfl) Hown.out.c.one ?_; intro wb hobj hupd; have Hst := Lib.hid (StAt.stored Hown.out hobj hupd); have hwb := hupd.size; rw [World.size_alloc] at hwb; have Oeb := Lib.hid (hupd.obj (alloc_obj (x := .cells zSt 79) (below_obj Hba.out Oe1.out (by omega))) (by intro hq; change _ = _ at hq; omega)); have Ozb := Lib.hid (hupd.obj (alloc_obj (x := .cells zSt 79) (below_obj Hba.out Oz1.out (by omega))) (by intro hq; change _ = _ at hq; omega)); have Hbb := Lib.hid (Hb2.out.trans ((Hba.out.mono (by omega)).trans ((((Below.refl _ wa).alloc (Nat.le_refl _) _).mono (by omega)).trans (hupd.below (by simp; omega) (fun k hk hb => by change _ = _ at hb; omega))))); obtain ⟨a0, c0, h0, r0, f0⟩ := Hst.out.own.sz0; have k0 := (obj_cell Hst.out.obj 0).trans h0; have hc0 := r0.le; have hm0 := r0.max; unfold maxLen at hm0; have R0 := Lib.hid r0; have H0 := Lib.hid h0; obtain ⟨x0, x1, x2, x3, x4, x5⟩ := EvCells.layR (EvCells.of Oeb.out) H_hek.out rfl rfl rfl rfl rfl; clear hobj hupd h0 r0 f0) | (refine wpList_store_whole rfl 108 (.tmp 9) (.tmp 45) rfl wb.heap.size rfl 108 zOA zOA rfl (alloc_new wb _) Try.sizeObj rfl zOA_one ?_; intro wc hobjc hupdc; have Hobjc := Lib.hid hobjc; have Hupdc := Lib.hid hupdc; clear hobjc hupdc x0 x1 x2 x3 x4 x5 k0))
  have hne : w.heap.size + 1 ≠ wb.heap.size := by omega
  have Oec := Lib.hid (Hupdc.out.obj (alloc_obj (x := (.cells #[.int .i64 0, .int .i64 0, .int .i64 0, .int .i64 0, .int .i64 0, .int .i64 0, .int .i64 0, .int .i64 0, .int .i64 0, .int .i64 0, .int .i64 0, .int .i64 0, .int .i64 0, .int .i64 0, .int .i64 0, .int .i64 0, .int .i64 0, .int .i64 0] 108)) Oeb.out) (by intro hq; change _ = _ at hq; omega))
  have Hbc : Hid (Below wb.heap.size wb wc) := Lib.hid (((Below.refl _ wb).alloc (Nat.le_refl _) _).trans (Hupdc.out.below (by simp) (fun k hk hb => by change _ = _ at hb; omega)))
  have hz0 := EvCells.layR (EvCells.of Oec.out) H_hek.out rfl rfl rfl rfl rfl
  refine wp_region_held_drew (S := fun x => x.cell? ⟨w.heap.size + 1, 0, none⟩ = some (.int .i64 0) ∧ x.cell? ⟨w.heap.size + 1, 1, none⟩ = some (.int .i64 e.a) ∧ x.cell? ⟨w.heap.size + 1, 2, none⟩ = some (.int .i64 e.b) ∧ x.cell? ⟨w.heap.size + 1, 3, none⟩ = some (.int .i64 e.c) ∧ x.cell? ⟨w.heap.size + 1, 4, none⟩ = some (.int .i64 e.d) ∧ x.cell? ⟨w.heap.size + 1, 5, none⟩ = some (.int .i64 e.e)) (by kernel_rfl) (show wc.drew.cell? ⟨w.heap.size + 1, 0, none⟩ = some (.int .i64 0) ∧ wc.drew.cell? ⟨w.heap.size + 1, 1, none⟩ = some (.int .i64 e.a) ∧ wc.drew.cell? ⟨w.heap.size + 1, 2, none⟩ = some (.int .i64 e.b) ∧ wc.drew.cell? ⟨w.heap.size + 1, 3, none⟩ = some (.int .i64 e.c) ∧ wc.drew.cell? ⟨w.heap.size + 1, 4, none⟩ = some (.int .i64 e.d) ∧ wc.drew.cell? ⟨w.heap.size + 1, 5, none⟩ = some (.int .i64 e.e) from hz0) (fun hHeld => ?_)
  have hz : wc.drew.cell? ⟨w.heap.size + 1, 0, none⟩ = some (.int .i64 0) ∧ wc.drew.cell? ⟨w.heap.size + 1, 1, none⟩ = some (.int .i64 e.a) ∧ wc.drew.cell? ⟨w.heap.size + 1, 2, none⟩ = some (.int .i64 e.b) ∧ wc.drew.cell? ⟨w.heap.size + 1, 3, none⟩ = some (.int .i64 e.c) ∧ wc.drew.cell? ⟨w.heap.size + 1, 4, none⟩ = some (.int .i64 e.d) ∧ wc.drew.cell? ⟨w.heap.size + 1, 5, none⟩ = some (.int .i64 e.e) := hHeld
  clear hHeld
  have Hob0 : Hid (wc.drew.heap[wb.heap.size]? = some (.cells zOA 108 (0, 0))) := Lib.hid Hobjc.out
  have Hbw0 := Lib.hid (Hbc.out.drew)
  generalize wc.drew = v0 at *
  have hHeld := hz
  refine wpAnyH_take (i := 0) (oi := ⟨some 46, _, _, _, _, _⟩) (v := ?_) rfl (by kernel_rfl) (by kernel_rfl) (by kernel_rfl) (fun _ _ _ h => h) (Or.inl ⟨by rfl, ?_⟩) hHeld ?_
  rotate_left
  · intro w' hS'
    (try dsimp only at hS')
    go_simp
    try with_reducible rfl
  try simp only [Act.put, List.setIfInBounds_toArray, List.set_cons_zero, List.set_cons_succ]
  refine wpAnyH_take (i := 1) (oi := ⟨some 47, _, _, _, _, _⟩) (v := ?_) rfl (by kernel_rfl) (by kernel_rfl) (by kernel_rfl) (fun _ _ _ h => h) (Or.inl ⟨by rfl, ?_⟩) hHeld ?_
  rotate_left
  · intro w' hS'
    (try dsimp only at hS')
    go_simp
    try with_reducible rfl
  try simp only [Act.put, List.setIfInBounds_toArray, List.set_cons_zero, List.set_cons_succ]
  refine wpAnyH_take (i := 2) (oi := ⟨some 48, _, _, _, _, _⟩) (v := ?_) rfl (by kernel_rfl) (by kernel_rfl) (by kernel_rfl) (fun _ _ _ h => h) (Or.inl ⟨by rfl, ?_⟩) hHeld ?_
  rotate_left
  · intro w' hS'
    (try dsimp only at hS')
    go_simp
    try with_reducible rfl
  try simp only [Act.put, List.setIfInBounds_toArray, List.set_cons_zero, List.set_cons_succ]
  refine wpAnyH_take (i := 3) (oi := ⟨some 49, _, _, _, _, _⟩) (v := ?_) rfl (by kernel_rfl) (by kernel_rfl) (by kernel_rfl) (fun _ _ _ h => h) (Or.inl ⟨by rfl, ?_⟩) hHeld ?_
  rotate_left
  · intro w' hS'
    (try dsimp only at hS')
    go_simp
    try with_reducible rfl
  try simp only [Act.put, List.setIfInBounds_toArray, List.set_cons_zero, List.set_cons_succ]
  refine wpAnyH_take (i := 4) (oi := ⟨some 50, _, _, _, _, _⟩) (v := ?_) rfl (by kernel_rfl) (by kernel_rfl) (by kernel_rfl) (fun _ _ _ h => h) (Or.inl ⟨by rfl, ?_⟩) hHeld ?_
  rotate_left
  · intro w' hS'
    (try dsimp only at hS')
    go_simp
    try with_reducible rfl
  try simp only [Act.put, List.setIfInBounds_toArray, List.set_cons_zero, List.set_cons_succ]
  refine wpAnyH_take (i := 5) (oi := ⟨some 51, _, _, _, _, _⟩) (v := ?_) rfl (by kernel_rfl) (by kernel_rfl) (by kernel_rfl) (fun _ _ _ h => h) (Or.inl ⟨by rfl, ?_⟩) hHeld ?_
  rotate_left
  · intro w' hS'
    (try dsimp only at hS')
    go_simp
    try with_reducible rfl
  try simp only [Act.put, List.setIfInBounds_toArray, List.set_cons_zero, List.set_cons_succ]
  refine wpAnyH_take (i := 6) (oi := ⟨some 52, _, _, _, _, _⟩) (v := ?_) rfl (by kernel_rfl) (by kernel_rfl) (by kernel_rfl) (fun _ _ _ h => h) (Or.inl ⟨by rfl, ?_⟩) hHeld ?_
  rotate_left
  · intro w' hS'
    (try dsimp only at hS')
    go_simp
    try with_reducible rfl
  try simp only [Act.put, List.setIfInBounds_toArray, List.set_cons_zero, List.set_cons_succ]
  refine wpAnyH_take (i := 7) (oi := ⟨some 53, _, _, _, _, _⟩) (v := ?_) rfl (by kernel_rfl) (by kernel_rfl) (by kernel_rfl) (fun _ _ _ h => h) (Or.inl ⟨by rfl, ?_⟩) hHeld ?_
  rotate_left
  · intro w' hS'
    (try dsimp only at hS')
    go_simp
    try with_reducible rfl
  try simp only [Act.put, List.setIfInBounds_toArray, List.set_cons_zero, List.set_cons_succ]
  refine wpAnyH_take (i := 8) (oi := ⟨some 54, _, _, _, _, _⟩) (v := ?_) rfl (by kernel_rfl) (by kernel_rfl) (by kernel_rfl) (fun _ _ _ h => h) (Or.inl ⟨by rfl, ?_⟩) hHeld ?_
  rotate_left
  · intro w' hS'
    (try dsimp only at hS')
    go_simp
    try with_reducible rfl
  try simp only [Act.put, List.setIfInBounds_toArray, List.set_cons_zero, List.set_cons_succ]
  refine wpAnyH_all (rs := [9]) (by kernel_rfl) (by simp) ?_
  intro ix hix
  obtain rfl : ix = 9 := by simpa using hix
  clear hix
  refine wpOp_step (o := ⟨none, _, _, _, _, _⟩) rfl (fun K hK => ?_)
  have HK := Lib.hid hK
  clear hK
  have kf := obj_free Hob0.out 0
  have kc : v0.cell? ⟨wb.heap.size, 0, none⟩ = some (.int .i64 0) := (obj_cell Hob0.out 0).trans rfl
  go_simp
  go_wp2_with fail
  refine HK.out _ _ ⟨(six_set hz (p := ⟨wb.heap.size, 0, none⟩) hne (.int .i64 (e.a))), ?_⟩
  clear HK
  try clear hHeld
  have hHeld := (six_set hz (p := ⟨wb.heap.size, 0, none⟩) hne (.int .i64 (e.a)))
  try simp only [Act.put, List.setIfInBounds_toArray, List.set_cons_zero, List.set_cons_succ]
  have Hob1 := Lib.hid (obj_set Hob0.out 0 (.int .i64 (e.a)))
  have Hbw1 := Lib.hid (Hbw0.out.setCell (p := ⟨wb.heap.size, 0, none⟩) (Nat.le_refl _) (.int .i64 (e.a)))
  clear hz kf kc
  have hz := hHeld
  clear hHeld
  generalize v0.setCell ⟨wb.heap.size, 0, none⟩ (.int .i64 (e.a)) = v1 at *
  have hHeld := hz
  refine wpAnyH_take (i := 10) (oi := ⟨some 55, _, _, _, _, _⟩) (v := ?_) rfl (by kernel_rfl) (by kernel_rfl) (by kernel_rfl) (fun _ _ _ h => h) (Or.inl ⟨by rfl, ?_⟩) hHeld ?_
  rotate_left
  · intro w' hS'
    (try dsimp only at hS')
    go_simp
    try with_reducible rfl
  try simp only [Act.put, List.setIfInBounds_toArray, List.set_cons_zero, List.set_cons_succ]
  refine wpAnyH_all (rs := [11]) (by kernel_rfl) (by simp) ?_
  intro ix hix
  obtain rfl : ix = 11 := by simpa using hix
  clear hix
  refine wpOp_step (o := ⟨none, _, _, _, _, _⟩) rfl (fun K hK => ?_)
  have HK := Lib.hid hK
  clear hK
  have kf := obj_free Hob1.out 1
  have kc : v1.cell? ⟨wb.heap.size, 1, none⟩ = some (.int .i64 0) := (obj_cell Hob1.out 1).trans rfl
  go_simp
  go_wp2_with fail
  refine HK.out _ _ ⟨(six_set hz (p := ⟨wb.heap.size, 1, none⟩) hne (.int .i64 (e.b))), ?_⟩
  clear HK
  try clear hHeld
  have hHeld := (six_set hz (p := ⟨wb.heap.size, 1, none⟩) hne (.int .i64 (e.b)))
  try simp only [Act.put, List.setIfInBounds_toArray, List.set_cons_zero, List.set_cons_succ]
  have Hob2 := Lib.hid (obj_set Hob1.out 1 (.int .i64 (e.b)))
  have Hbw2 := Lib.hid (Hbw1.out.setCell (p := ⟨wb.heap.size, 1, none⟩) (Nat.le_refl _) (.int .i64 (e.b)))
  clear hz kf kc
  have hz := hHeld
  clear hHeld
  generalize v1.setCell ⟨wb.heap.size, 1, none⟩ (.int .i64 (e.b)) = v2 at *
  have hHeld := hz
  refine wpAnyH_take (i := 12) (oi := ⟨some 56, _, _, _, _, _⟩) (v := ?_) rfl (by kernel_rfl) (by kernel_rfl) (by kernel_rfl) (fun _ _ _ h => h) (Or.inl ⟨by rfl, ?_⟩) hHeld ?_
  rotate_left
  · intro w' hS'
    (try dsimp only at hS')
    go_simp
    try with_reducible rfl
  try simp only [Act.put, List.setIfInBounds_toArray, List.set_cons_zero, List.set_cons_succ]
  refine wpAnyH_all (rs := [13]) (by kernel_rfl) (by simp) ?_
  intro ix hix
  obtain rfl : ix = 13 := by simpa using hix
  clear hix
  refine wpOp_step (o := ⟨none, _, _, _, _, _⟩) rfl (fun K hK => ?_)
  have HK := Lib.hid hK
  clear hK
  have kf := obj_free Hob2.out 2
  have kc : v2.cell? ⟨wb.heap.size, 2, none⟩ = some (.int .i64 0) := (obj_cell Hob2.out 2).trans rfl
  go_simp
  go_wp2_with fail
  refine HK.out _ _ ⟨(six_set hz (p := ⟨wb.heap.size, 2, none⟩) hne (.int .i64 (e.b))), ?_⟩
  clear HK
  try clear hHeld
  have hHeld := (six_set hz (p := ⟨wb.heap.size, 2, none⟩) hne (.int .i64 (e.b)))
  try simp only [Act.put, List.setIfInBounds_toArray, List.set_cons_zero, List.set_cons_succ]
  have Hob3 := Lib.hid (obj_set Hob2.out 2 (.int .i64 (e.b)))
  have Hbw3 := Lib.hid (Hbw2.out.setCell (p := ⟨wb.heap.size, 2, none⟩) (Nat.le_refl _) (.int .i64 (e.b)))
  clear hz kf kc
  have hz := hHeld
  clear hHeld
  generalize v2.setCell ⟨wb.heap.size, 2, none⟩ (.int .i64 (e.b)) = v3 at *
  have hHeld := hz
  refine wpAnyH_take (i := 14) (oi := ⟨some 57, _, _, _, _, _⟩) (v := ?_) rfl (by kernel_rfl) (by kernel_rfl) (by kernel_rfl) (fun _ _ _ h => h) (Or.inl ⟨by rfl, ?_⟩) hHeld ?_
  rotate_left
  · intro w' hS'
    (try dsimp only at hS')
    go_simp
    try with_reducible rfl
  try simp only [Act.put, List.setIfInBounds_toArray, List.set_cons_zero, List.set_cons_succ]
  refine wpAnyH_all (rs := [15]) (by kernel_rfl) (by simp) ?_
  intro ix hix
  obtain rfl : ix = 15 := by simpa using hix
  clear hix
  refine wpOp_step (o := ⟨none, _, _, _, _, _⟩) rfl (fun K hK => ?_)
  have HK := Lib.hid hK
  clear hK
  have kf := obj_free Hob3.out 3
  have kc : v3.cell? ⟨wb.heap.size, 3, none⟩ = some (.int .i64 0) := (obj_cell Hob3.out 3).trans rfl
  go_simp
  go_wp2_with fail
  refine HK.out _ _ ⟨(six_set hz (p := ⟨wb.heap.size, 3, none⟩) hne (.int .i64 (10))), ?_⟩
  clear HK
  try clear hHeld
  have hHeld := (six_set hz (p := ⟨wb.heap.size, 3, none⟩) hne (.int .i64 (10)))
  try simp only [Act.put, List.setIfInBounds_toArray, List.set_cons_zero, List.set_cons_succ]
  have Hob4 := Lib.hid (obj_set Hob3.out 3 (.int .i64 (10)))
  have Hbw4 := Lib.hid (Hbw3.out.setCell (p := ⟨wb.heap.size, 3, none⟩) (Nat.le_refl _) (.int .i64 (10)))
  clear hz kf kc
  have hz := hHeld
  clear hHeld
  generalize v3.setCell ⟨wb.heap.size, 3, none⟩ (.int .i64 (10)) = v4 at *
  have hHeld := hz
  refine wpAnyH_take (i := 16) (oi := ⟨some 58, _, _, _, _, _⟩) (v := ?_) rfl (by kernel_rfl) (by kernel_rfl) (by kernel_rfl) (fun _ _ _ h => h) (Or.inl ⟨by rfl, ?_⟩) hHeld ?_
  rotate_left
  · intro w' hS'
    (try dsimp only at hS')
    go_simp
    try with_reducible rfl
  try simp only [Act.put, List.setIfInBounds_toArray, List.set_cons_zero, List.set_cons_succ]
  refine wpAnyH_all (rs := [17]) (by kernel_rfl) (by simp) ?_
  intro ix hix
  obtain rfl : ix = 17 := by simpa using hix
  clear hix
  refine wpOp_step (o := ⟨none, _, _, _, _, _⟩) rfl (fun K hK => ?_)
  have HK := Lib.hid hK
  clear hK
  have kf := obj_free Hob4.out 13
  have kc : v4.cell? ⟨wb.heap.size, 13, none⟩ = some (.int .i64 0) := (obj_cell Hob4.out 13).trans rfl
  go_simp
  go_wp2_with fail
  refine HK.out _ _ ⟨(six_set hz (p := ⟨wb.heap.size, 13, none⟩) hne (.int .i64 (e.c))), ?_⟩
  clear HK
  try clear hHeld
  have hHeld := (six_set hz (p := ⟨wb.heap.size, 13, none⟩) hne (.int .i64 (e.c)))
  try simp only [Act.put, List.setIfInBounds_toArray, List.set_cons_zero, List.set_cons_succ]
  have Hob5 := Lib.hid (obj_set Hob4.out 13 (.int .i64 (e.c)))
  have Hbw5 := Lib.hid (Hbw4.out.setCell (p := ⟨wb.heap.size, 13, none⟩) (Nat.le_refl _) (.int .i64 (e.c)))
  clear hz kf kc
  have hz := hHeld
  clear hHeld
  generalize v4.setCell ⟨wb.heap.size, 13, none⟩ (.int .i64 (e.c)) = v5 at *
  have hHeld := hz
  refine wpAnyH_take (i := 18) (oi := ⟨some 59, _, _, _, _, _⟩) (v := ?_) rfl (by kernel_rfl) (by kernel_rfl) (by kernel_rfl) (fun _ _ _ h => h) (Or.inl ⟨by rfl, ?_⟩) hHeld ?_
  rotate_left
  · intro w' hS'
    (try dsimp only at hS')
    go_simp
    try with_reducible rfl
  try simp only [Act.put, List.setIfInBounds_toArray, List.set_cons_zero, List.set_cons_succ]
  refine wpAnyH_all (rs := [19]) (by kernel_rfl) (by simp) ?_
  intro ix hix
  obtain rfl : ix = 19 := by simpa using hix
  clear hix
  refine wpOp_step (o := ⟨none, _, _, _, _, _⟩) rfl (fun K hK => ?_)
  have HK := Lib.hid hK
  clear hK
  have kf := obj_free Hob5.out 17
  have kc : v5.cell? ⟨wb.heap.size, 17, none⟩ = some (.int .i64 0) := (obj_cell Hob5.out 17).trans rfl
  go_simp
  go_wp2_with fail
  refine HK.out _ _ ⟨(six_set hz (p := ⟨wb.heap.size, 17, none⟩) hne (.int .i64 (3))), ?_⟩
  clear HK
  try clear hHeld
  have hHeld := (six_set hz (p := ⟨wb.heap.size, 17, none⟩) hne (.int .i64 (3)))
  try simp only [Act.put, List.setIfInBounds_toArray, List.set_cons_zero, List.set_cons_succ]
  have Hob6 := Lib.hid (obj_set Hob5.out 17 (.int .i64 (3)))
  have Hbw6 := Lib.hid (Hbw5.out.setCell (p := ⟨wb.heap.size, 17, none⟩) (Nat.le_refl _) (.int .i64 (3)))
  clear hz kf kc
  have hz := hHeld
  clear hHeld
  generalize v5.setCell ⟨wb.heap.size, 17, none⟩ (.int .i64 (3)) = v6 at *
  have hHeld := hz
  refine wpAnyH_done (by kernel_rfl) ?_ _
  clear hz hHeld hz0
  have Hbw := Lib.hid Hbw6.out
  have Ond : Hid (v6.heap[wb.heap.size]? = some (.cells (madeA e) 108 (0, 0))) := Lib.hid Hob6.out
  generalize v6 = wd at *
  have Hd := Lib.hid (Hst.out.all Hbw.out)
  have Rd := Lib.hid (R0.out.all Hbw.out)
  have Ozd := Lib.hid (below_obj Hbw.out Ozb.out (obj_lt Ozb.out))
  have hbws := Hbw.out.size
  have Hbd := Lib.hid (Hbb.out.trans (Hbw.out.mono Hbb.out.size))
  have Fd := Lib.hid (Hd.out.own.fresh 0 _ _ (by decide) H0.out)
  obtain ⟨a1, c1, h11, r11, f11⟩ := Hd.out.own.szl 10 (by decide)
  have H11x : Hid (cz[11]? = some (.slice a1 (lenOf s 11) c1)) := Lib.hid h11
  have hml := Fi.out.l 10
  obtain ⟨l, hl⟩ : ∃ l, l = s.l.getD 10 [] := ⟨_, rfl⟩
  rw [← hl] at h11 r11 hml
  obtain ⟨m, hm⟩ : ∃ m, m = l.length := ⟨_, rfl⟩
  rw [← hm] at h11 r11 hml
  have Hl := Lib.hid hl
  have Hm := Lib.hid hm
  clear hl hm
  have H11 : Hid (cz[11]? = some (.slice a1 m c1)) := Lib.hid h11
  have R11 := Lib.hid r11
  have F11 := Lib.hid f11
  have hc11 := r11.le
  have hm11 := r11.max
  unfold maxLen at hm11
  clear h11 r11 f11
  have k0 := (obj_cell Hd.out.obj 0).trans H0.out
  go_wp2_with (first | (refine wpList_load_whole rfl 108 (.tmp 9) rfl wb.heap.size rfl 108 (madeA e) (0, 0) Ond.out _ Try.underlying108 rfl Try.sizeObj ?_) | (at_builtin; refine wp_append rfl (.tmp 61) (.tmp 63) 73 rfl 108 zObj 18 144 Try.underlying73 Try.infoObj rfl (by decide) rfl rfl (Rd.out.alloc (.cells (madeA e) 108)) (RowAt.lit wd (madeA e) 108 18 1 (by decide) rfl (by simp [Value.oneCell'])).sl (by unfold maxLen; omega) (by omega) ?_; intro a' cap' w2 hrow hupd hloc hnil; have hst2 := (Hd.out.all ((Below.refl _ wd).alloc (Nat.le_refl _) (.cells (madeA e) 108))).setApp (by simp; omega) 0 (by decide) H0.out hupd (s' := ⟨s.o ++ [madeL e], s.l, s.p⟩) (a := a') (n := s.o.length + 1) (c := cap') (by simp [lenOf]) (by rw [rowOf_mk']; exact hrow) hloc (fun j hj hj2 => ⟨by simp [lenOf, hj2], by simp [rowOf, hj2]⟩) rfl; have Hst2 := Lib.hid hst2; have kf := obj_free (hupd.obj (alloc_obj Hd.out.obj) (by rintro ⟨ad, he, hb⟩; exact Hd.out.off 0 _ _ (by decide) H0.out ad he hb)) 0; have kc := (obj_cell (hupd.obj (alloc_obj Hd.out.obj) (by rintro ⟨ad, he, hb⟩; exact Hd.out.off 0 _ _ (by decide) H0.out ad he hb)) 0).trans H0.out; have kf11 := obj_free (hupd.obj (alloc_obj Hd.out.obj) (by rintro ⟨ad, he, hb⟩; exact Hd.out.off 0 _ _ (by decide) H0.out ad he hb)) 11; have kc11 := (obj_cell (hupd.obj (alloc_obj Hd.out.obj) (by rintro ⟨ad, he, hb⟩; exact Hd.out.off 0 _ _ (by decide) H0.out ad he hb)) 11).trans H11.out; have Hbz2 := Lib.hid (Hbd.out.trans ((((Below.refl _ wd).alloc (Nat.le_refl _) (.cells (madeA e) 108)).mono Hbd.out.size).trans (appendBelow (Fd.out.mono (by omega)) (by simp; omega) hupd))); have Oz2 := Lib.hid (hupd.obj (alloc_obj Ozd.out) (by rintro ⟨ad, he, hb⟩; have := Fd.out ad he; omega)); have R11b := Lib.hid (((R11.out.alloc (.cells (madeA e) 108)).upd hupd (fun ad he => by rintro ⟨ad0, he0, hb0⟩; exact Hd.out.own.dis 0 11 _ _ _ _ _ _ (by decide) (by decide) (by decide) H0.out H11.out ad0 ad he0 he hb0)).setCell ⟨wa.heap.size, 0, none⟩ (fun ad he => Hd.out.off 11 _ _ (by decide) H11x.out ad he) (.slice a' (s.o.length + 1) cap')); have hw2s := hupd.size; rw [World.size_alloc] at hw2s; clear hst2 hrow hupd hloc hnil) | (at_builtin; refine wp_append rfl (.tmp 68) (.tmp 70) 22 rfl 3 (.int .i64 0) 1 8 Try.underlying22 Try.infoInt rfl (by decide) rfl rfl (R11b.out.alloc (.cells #[.int .i64 (s.o.length : Int)] 3)) (lit1 (w2.setCell ⟨wa.heap.size, 0, none⟩ (.slice a' (s.o.length + 1) cap')) _ (by simp) (s.o.length : Int)) (by unfold maxLen; omega) (by omega) ?_; intro a3 cap3 w4 hrow hupd hloc hnil; have H11b := Lib.hid ((Array.getElem?_setIfInBounds_ne (xs := cz) (i := 0) (j := 11) (a := .slice a' (s.o.length + 1) cap') (by decide)).trans H11.out); have Hst3 := Lib.hid ((Hst2.out.all ((Below.refl _ _).alloc (Nat.le_refl _) (.cells #[.int .i64 (s.o.length : Int)] 3))).setApp (by simp; omega) 11 (by decide) H11b.out hupd (s' := mkS s e) (a := a3) (n := m + 1) (c := cap3) (by rw [show mkS s e = ⟨s.o ++ [madeL e], s.l.set 10 (l ++ [(s.o.length : Int)]), s.p⟩ by rw [Hl.out]; rfl, (set_self ⟨s.o ++ [madeL e], s.l, s.p⟩ 10 (by rw [Ok.out.l]; decide) _).1, Hm.out]; simp) (by rw [show mkS s e = ⟨s.o ++ [madeL e], s.l.set 10 (l ++ [(s.o.length : Int)]), s.p⟩ by rw [Hl.out]; rfl, (set_self ⟨s.o ++ [madeL e], s.l, s.p⟩ 10 (by rw [Ok.out.l]; decide) _).2, List.map_append]; exact hrow) hloc (fun j hj hj2 => set_other ⟨s.o ++ [madeL e], s.l, s.p⟩ 10 _ j hj2) rfl); rw [← H_ht.out] at Hst3; have kf := obj_free (hupd.obj (alloc_obj Hst2.out.obj) (by rintro ⟨ad, he, hb⟩; exact Hd.out.off 11 _ _ (by decide) H11x.out ad he hb)) 11; have kc := (obj_cell (hupd.obj (alloc_obj Hst2.out.obj) (by rintro ⟨ad, he, hb⟩; exact Hd.out.off 11 _ _ (by decide) H11x.out ad he hb)) 11).trans H11b.out; have Hb3 := Lib.hid (((Hbz2.out.setCell (p := ⟨wa.heap.size, 0, none⟩) (by show w.heap.size ≤ wa.heap.size; omega) (.slice a' (s.o.length + 1) cap')).trans ((((Below.refl _ (w2.setCell ⟨wa.heap.size, 0, none⟩ (.slice a' (s.o.length + 1) cap'))).alloc (Nat.le_refl _) (.cells #[.int .i64 (s.o.length : Int)] 3)).mono (by simp; omega)).trans (appendBelow (F11.out.mono (by omega)) (by simp; omega) hupd))).setCell (p := ⟨wa.heap.size, 11, none⟩) (by show w.heap.size ≤ wa.heap.size; omega) (.slice a3 (m + 1) cap3)); have Oz3 := Lib.hid (setCell_obj (p := ⟨wa.heap.size, 11, none⟩) (u := (.slice a3 (m + 1) cap3)) (hupd.obj (alloc_obj (setCell_obj (p := ⟨wa.heap.size, 0, none⟩) (u := .slice a' (s.o.length + 1) cap') Oz2.out (by show w.heap.size + 1 + 1 ≠ wa.heap.size; omega))) (by rintro ⟨ad, he, hb⟩; have := F11.out ad he; omega)) (by show w.heap.size + 1 + 1 ≠ wa.heap.size; omega)); have hcd := Hst3.out.own.size; clear hrow hupd hloc hnil) | (refine wpList_load_whole rfl 79 (.tmp 7) rfl wa.heap.size rfl 79 _ (0, 0) Hst3.out.obj _ Try.underlying79 rfl (by rw [hcd]; exact Try.sizeSt) ?_) | (refine wpList_store_whole rfl 79 (.tmp 4) (.tmp 266) rfl (w.heap.size + 1 + 1) rfl 79 zSt _ rfl Oz3.out (by rw [hcd]; exact Try.sizeSt) (by rw [hcd]; rfl) Hst3.out.own.c.one ?_; intro wz hobj hupdz))
  refine bodyPost_ret (results_cell_slot rfl _ wz (w.heap.size + 1 + 1) 79 _ (0, 0) _ rfl hobj Try.underlying79 rfl (by rw [hcd]; exact Try.sizeSt)) rfl ?_
  exact ⟨_, by rw [H_hr.out]; rfl, by rw [H_hr.out, if_pos rfl]; exact (Hst3.out.own.upd hupdz (fun i a c hi he ad hd hb => by have h9 := Hst3.out.own.fresh i a c hi he ad hd; change _ = _ at hb; omega)).mono (by omega), (Hb3.out).trans (hupdz.below (by have := (Hb3.out).size; omega) (fun k hk hb => by change _ = _ at hb; omega))⟩
end Go.Proofs.Ytpbocficffbcbaa
