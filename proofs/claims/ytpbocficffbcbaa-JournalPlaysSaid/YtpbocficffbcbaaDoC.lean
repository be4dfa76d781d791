import Derived.Test.YtpbocficffbcbaaDoA
import Derived.Test.YtpbocficffbcbaaEqI
namespace Go.Proofs.Ytpbocficffbcbaa
open Go Go.RowKit
set_option linter.unusedVariables false

/-- Another slice at place i of a state, wherever it lies apart from the others. -/
theorem StAt.setSlG {w : World} {B g : Nat} {s s' : St} {cs : Array Value} (h : StAt w B g s cs) (i : Nat) (hi : i < 12) {a : Option Addr} {n c : Nat} (hn : n = lenOf s' i)
    (hr : RowAt w (tyOf i) (szOf i) a n c (rowOf s' i)) (hfr : ∀ ad, a = some ad → B ≤ ad.block ∧ ad.block ≠ g)
    (hdis : ∀ j b m d, j < 12 → j ≠ i → cs[j]? = some (.slice b m d) → ∀ x y, a = some x → b = some y → x.block ≠ y.block)
    (hl : ∀ j, j < 12 → j ≠ i → lenOf s' j = lenOf s j ∧ rowOf s' j = rowOf s j) (hp : s'.p = s.p) :
    StAt (w.setCell ⟨g, i, none⟩ (.slice a n c)) B g s' (cs.setIfInBounds i (.slice a n c)) := by
  subst hn
  have hne : ∀ j, j ≠ i → (cs.setIfInBounds i (.slice a (lenOf s' i) c))[j]? = cs[j]? := fun j hj => Array.getElem?_setIfInBounds_ne (Ne.symm hj)
  have hself : (cs.setIfInBounds i (.slice a (lenOf s' i) c))[i]? = some (.slice a (lenOf s' i) c) := Array.getElem?_setIfInBounds_self_of_lt (by rw [h.own.size]; omega)
  refine ⟨obj_set h.obj i _, ⟨by simp [h.own.size], fun j hj => ?_, fun j l a1 b1 n1 m1 c1 d1 hj hl1 hjl h1 h2 x y hx hy => ?_, fun j hj => ?_⟩, fun j a1 c1 hj he ad hd => ?_⟩
  · by_cases hji : j = i
    · subst hji
      exact ⟨a, c, hself, hr.setCell _ (fun ad he => (hfr ad he).2) _, fun ad he => (hfr ad he).1⟩
    · obtain ⟨a1, c1, h1, h2, h3⟩ := h.own.sl j hj
      rw [hne j hji, (hl j hj hji).1, (hl j hj hji).2]
      exact ⟨a1, c1, h1, h2.setCell _ (h.off j a1 c1 hj h1) _, h3⟩
  · by_cases hji : j = i
    · subst hji
      rw [hself] at h1
      simp at h1
      rw [hne l (Ne.symm hjl)] at h2
      exact hdis l b1 m1 d1 hl1 (Ne.symm hjl) h2 x y (h1.1.trans hx) hy
    · rw [hne j hji] at h1
      by_cases hli : l = i
      · subst hli
        rw [hself] at h2
        simp at h2
        exact (hdis j a1 n1 c1 hj hji h1 y x (h2.1.trans hy) hx).symm
      · rw [hne l hli] at h2
        exact h.own.dis j l a1 b1 n1 m1 c1 d1 hj hl1 hjl h1 h2 x y hx hy
  · rw [hne _ (by omega), hp]
    exact h.own.num j hj
  · by_cases hji : j = i
    · subst hji
      rw [hself] at he
      simp at he
      exact (hfr ad (he.1.trans hd)).2
    · rw [hne j hji, (hl j hj hji).1] at he
      exact h.off j a1 c1 hj he ad hd

theorem RowAt.setAt {w : World} {e : TypeId} {sz n cap b off : Nat} {xs : List Value} (h : RowAt w e sz (some ⟨b, off, none⟩) n cap xs) (j : Nat) (hj : j < n * sz) (u : Value) (hu : u.oneCell' = true) :
    RowAt (w.setCell ⟨b, off + j, none⟩ u) e sz (some ⟨b, off, none⟩) n cap (xs.set j u) where
  len := by rw [List.length_set]; exact h.len
  le := h.le
  max := h.max
  nil := by simp
  one := fun v hv => by
    rcases List.mem_or_eq_of_mem_set hv with h1 | rfl
    · exact h.one v h1
    · exact hu
  row := fun ad he => by
    obtain rfl := Option.some.inj he
    obtain ⟨_, cur, hg, hfit, ht⟩ := h.row _ rfl
    have hle := h.le
    have hcap : n * sz ≤ cap * sz := Nat.mul_le_mul_right _ hle
    refine ⟨rfl, _, obj_set hg _ _, by simpa using hfit, ?_⟩
    rw [Array.toList_setIfInBounds]
    rw [← ht, List.drop_set, if_neg (by show ¬ off + j < off; omega), List.take_set]
    congr 1
    show off + j - off = j
    omega
theorem objs_set : ∀ (l : List (List Int)), (∀ x ∈ l, x.length = 18) → ∀ (i j : Nat) (z : Int), i < l.length → j < 18 → (objs l).set (i * 18 + j) (.int .i64 z) = objs (l.set i ((l.getD i []).set j z))
  | [], _, i, j, z, hi, _ => by simp at hi
  | a :: l, h, i, j, z, hi, hj => by
    have ha : (objC a).length = 18 := by rw [objC, List.length_map]; exact h a (by simp)
    show (objC a ++ objs l).set (i * 18 + j) _ = _
    cases i with
    | zero =>
      rw [List.set_append_left _ _ (by omega)]
      show _ = objC (a.set j z) ++ objs l
      rw [objC, objC, List.map_set, Nat.zero_mul, Nat.zero_add]
    | succ i =>
      rw [List.set_append_right _ _ (by omega), ha, show (i + 1) * 18 + j - 18 = i * 18 + j by omega, objs_set l (fun x hx => h x (by simp [hx])) i j z (by simpa using hi) hj]
      rfl
/-- A number of an object, stored. -/
theorem StAt.setObj {w : World} {B g : Nat} {s : St} {cs : Array Value} (h : StAt w B g s cs) (ok : ∀ x ∈ s.o, x.length = 18) {b off n c : Nat} (h0 : cs[0]? = some (.slice (some ⟨b, off, none⟩) n c)) (i j : Nat) (hi : i < s.o.length) (hj : j < 18) (z : Int) :
    StAt (w.setCell ⟨b, off + (i * 18 + j), none⟩ (.int .i64 z)) B g ⟨s.o.set i ((s.o.getD i []).set j z), s.l, s.p⟩ cs ∧ B ≤ b := by
  obtain ⟨a0, c0, e0, r0, f0⟩ := h.own.sz0
  rw [h0] at e0
  simp at e0
  obtain ⟨rfl, rfl, rfl⟩ := e0
  have hbg : b ≠ g := h.off 0 _ _ (by decide) h0 _ rfl
  refine ⟨⟨setCell_obj h.obj (Ne.symm hbg), ⟨h.own.size, fun k hk => ?_, fun k l a1 b1 n1 m1 c1 d1 => h.own.dis k l a1 b1 n1 m1 c1 d1, h.own.num⟩, fun k a1 c1 hk he => h.off k a1 c1 hk (by rw [he]; simp [lenOf])⟩, f0 _ rfl⟩
  obtain ⟨a1, c1, h1, h2, h3⟩ := h.own.sl k hk
  by_cases hk0 : k = 0
  · subst hk0
    rw [h0] at h1
    simp at h1
    obtain ⟨rfl, _, rfl⟩ := h1
    refine ⟨_, c, by rw [h0]; simp [lenOf], ?_, h3⟩
    have := r0.setAt (i * 18 + j) (by have : (i + 1) * 18 ≤ s.o.length * 18 := Nat.mul_le_mul_right _ hi; omega) (.int .i64 z) rfl
    rw [objs_set s.o ok i j z hi hj] at this
    have hl : lenOf ⟨s.o.set i ((s.o.getD i []).set j z), s.l, s.p⟩ 0 = s.o.length := by simp [lenOf]
    rw [hl]
    exact this
  · refine ⟨a1, c1, ?_, ?_, h3⟩
    · rw [h1]
      simp [lenOf, hk0]
    · have hr : rowOf ⟨s.o.set i ((s.o.getD i []).set j z), s.l, s.p⟩ k = rowOf s k := by simp [rowOf, hk0]
      have hl : lenOf ⟨s.o.set i ((s.o.getD i []).set j z), s.l, s.p⟩ k = lenOf s k := by simp [lenOf, hk0]
      rw [hr, hl]
      exact h2.setCell ⟨b, off + (i * 18 + j), none⟩ (fun ad hd => h.own.dis k 0 a1 _ _ _ _ _ hk (by decide) hk0 h1 h0 ad ⟨b, off, none⟩ hd rfl) _
end Go.Proofs.Ytpbocficffbcbaa
