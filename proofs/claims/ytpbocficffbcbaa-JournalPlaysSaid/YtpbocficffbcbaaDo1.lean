import Derived.Test.YtpbocficffbcbaaState4
import Derived.Test.YtpbocficffbcbaaStep
import Derived.Deep.RegionLaw
namespace Go.Proofs.Ytpbocficffbcbaa
open Go Go.RowKit
set_option linter.unusedVariables false

/-- The object that an event makes. -/
def madeL (e : Ev) : List Int := [e.a, e.b, e.b, 10, 0, 0, 0, 0, 0, 0, 0, 0, 0, e.c, 0, 0, 0, 3]
abbrev madeA (e : Ev) : Array Value := #[.int .i64 e.a, .int .i64 e.b, .int .i64 e.b, .int .i64 10, .int .i64 0, .int .i64 0, .int .i64 0, .int .i64 0, .int .i64 0, .int .i64 0, .int .i64 0, .int .i64 0, .int .i64 0, .int .i64 e.c, .int .i64 0, .int .i64 0, .int .i64 0, .int .i64 3]
theorem madeA_eq (e : Ev) : (madeA e).toList = objC (madeL e) := rfl

/-- Another slice at place i of a state. -/
theorem StAt.setSl {w w1 : World} {B g : Nat} {s s' : St} {cs : Array Value} (h : StAt w B g s cs) (k : Below w.heap.size w w1) (hB : B ≤ w.heap.size) (i : Nat) (hi : i < 12) {a : Option Addr} {n c : Nat} (hn : n = lenOf s' i)
    (hr : RowAt w1 (tyOf i) (szOf i) a n c (rowOf s' i)) (hloc : ∀ ad, a = some ad → w.heap.size ≤ ad.block ∨ ∃ a0 n0 c0, cs[i]? = some (.slice (some a0) n0 c0) ∧ a0.block = ad.block)
    (hl : ∀ j, j < 12 → j ≠ i → lenOf s' j = lenOf s j ∧ rowOf s' j = rowOf s j) (hp : s'.p = s.p) :
    StAt (w1.setCell ⟨g, i, none⟩ (.slice a n c)) B g s' (cs.setIfInBounds i (.slice a n c)) := by
  subst hn
  have hg : g < w.heap.size := obj_lt h.obj
  have hne : ∀ j, j ≠ i → (cs.setIfInBounds i (.slice a (lenOf s' i) c))[j]? = cs[j]? := fun j hj => Array.getElem?_setIfInBounds_ne (Ne.symm hj)
  have hself : (cs.setIfInBounds i (.slice a (lenOf s' i) c))[i]? = some (.slice a (lenOf s' i) c) := Array.getElem?_setIfInBounds_self_of_lt (by rw [h.own.size]; omega)
  have hold : ∀ j a' n' c', j < 12 → cs[j]? = some (.slice a' n' c') → n' = lenOf s j := fun j a' n' c' hj he => by
    obtain ⟨a1, c1, h1, _⟩ := h.own.sl j hj
    rw [h1] at he
    simp at he
    exact he.2.1.symm
  have hfr : ∀ ad, a = some ad → B ≤ ad.block ∧ ad.block ≠ g := fun ad he => by
    rcases hloc ad he with h1 | ⟨a0, n0, c0, h1, h2⟩
    · exact ⟨by omega, by omega⟩
    · obtain rfl := hold i _ _ _ hi h1
      rw [← h2]
      exact ⟨h.own.fresh i _ _ hi h1 a0 rfl, h.off i _ _ hi h1 a0 rfl⟩
  have hdis : ∀ j b m d, j < 12 → j ≠ i → cs[j]? = some (.slice b m d) → ∀ x y, a = some x → b = some y → x.block ≠ y.block := fun j b m d hj hji he x y hx hy => by
    have hm := hold j _ _ _ hj he
    rcases hloc x hx with h1 | ⟨a0, n0, c0, h1, h2⟩
    · have := h.own.lt j b d hj (by rw [← hm]; exact he) y hy
      omega
    · rw [← h2]
      exact h.own.dis i j (some a0) b n0 m c0 d hi hj (Ne.symm hji) h1 he a0 y rfl hy
  refine ⟨obj_set (below_obj k h.obj hg) i _, ⟨by simp [h.own.size], fun j hj => ?_, fun j l a1 b1 n1 m1 c1 d1 hj hl1 hjl h1 h2 x y hx hy => ?_, fun j hj => ?_⟩, fun j a1 c1 hj he ad hd => ?_⟩
  · by_cases hji : j = i
    · subst hji
      exact ⟨a, c, hself, hr.setCell _ (fun ad he => (hfr ad he).2) _, fun ad he => (hfr ad he).1⟩
    · obtain ⟨a1, c1, h1, h2, h3⟩ := h.own.sl j hj
      rw [hne j hji, (hl j hj hji).1, (hl j hj hji).2]
      exact ⟨a1, c1, h1, (h2.all k).setCell _ (h.off j a1 c1 hj h1) _, h3⟩
  · by_cases hji : j = i
    · subst hji
      rw [hself] at h1
      simp at h1
      rw [hne l (Ne.symm hjl)] at h2
      exact hdis l b1 m1 d1 hl1 (Ne.symm hjl) h2 x y (h1.1.trans hx) hy
    · rw [hne j hji] at h1
      by_cases hli : l = i
      · subst hli
        rw [hself] at h2
        simp at h2
        exact (hdis j a1 n1 c1 hj hji h1 y x (h2.1.trans hy) hx).symm
      · rw [hne l hli] at h2
        exact h.own.dis j l a1 b1 n1 m1 c1 d1 hj hl1 hjl h1 h2 x y hx hy
  · rw [hne _ (by omega), hp]
    exact h.own.num j hj
  · by_cases hji : j = i
    · subst hji
      rw [hself] at he
      simp at he
      exact (hfr ad (he.1.trans hd)).2
    · rw [hne j hji, (hl j hj hji).1] at he
      exact h.off j a1 c1 hj he ad hd

set_option maxRecDepth 100000 in
set_option maxHeartbeats 400000 in
theorem made (w : World) (e : Ev) : Calls Try.prog 117 #[evV e] w (fun x w' => x = .returned (.agg (madeA e)) ∧ Below w.heap.size w w') := by
  go_enter Try.func117, Try.ntmps117
  go_wp2_with fail
  have oz := alloc_new (w.alloc (.cells (evA e) 64)) (.cells (madeA e) 108)
  rw [World.size_alloc] at oz
  exact bodyPost_ret (results_cell_row rfl _ _ (w.heap.size + 1) 108 (madeA e) (0, 0) _ rfl oz Try.underlying108 rfl (by kernel_rfl)) rfl ⟨rfl, ((Below.refl _ w).alloc (Nat.le_refl _) _).alloc (by simp) _⟩

/-- The state with a new object. -/
def mkS (s : St) (e : Ev) : St := ⟨s.o ++ [madeL e], s.l.set 10 (s.l.getD 10 [] ++ [(s.o.length : Int)]), s.p⟩
end Go.Proofs.Ytpbocficffbcbaa
