/-
  What Do answers, and the state behind it, in plain lists.
-/
import Derived.Test.YtpbocficffbcbaaDo1
import Derived.Test.YtpbocficffbcbaaList2
import Derived.Test.YtpbocficffbcbaaEv2
namespace Go.Proofs.Ytpbocficffbcbaa
open Go Go.RowKit
set_option linter.unusedVariables false

def lst (s : St) (i : Int) : List Int := s.l.getD i.toNat []
def obj (s : St) (i : Int) : List Int := s.o.getD i.toNat []
/-- May the last object be unmade? -/
def rmB (s : St) (e : Ev) : Bool :=
  decide (0 < s.o.length) && (decide (0 < (lst s 10).length) && (decide ((lst s 10).getD ((lst s 10).length - 1) 0 = (s.o.length : Int) - 1) && decide (s.o.getD (s.o.length - 1) [] = madeL e)))
def rmS (s : St) : St := ⟨s.o.take (s.o.length - 1), s.l.set 10 ((lst s 10).take ((lst s 10).length - 1)), s.p⟩
def mvOut (s : St) (e : Ev) : List Int := remAt (lst s e.b) e.c.toNat
def mvTo (s : St) (e : Ev) : List Int := if e.d = e.b then mvOut s e else lst s e.d
def mvB (s : St) (e : Ev) : Bool := decide (e.c < (lst s e.b).length) && decide ((lst s e.b).getD e.c.toNat 0 = e.a)
def mvS (s : St) (e : Ev) : St := ⟨s.o.set e.a.toNat ((obj s e.a).set 3 e.d), (s.l.set e.b.toNat (mvOut s e)).set e.d.toNat (insAt (mvTo s e) e.e.toNat e.a), s.p⟩
def obS (s : St) (e : Ev) : St := ⟨s.o.set e.a.toNat ((obj s e.a).set e.b.toNat e.d), s.l, s.p⟩
def numAt (e : Ev) : Nat := if e.k = 3 then 9 * e.a.toNat + e.b.toNat else 18 + e.b.toNat

/-- What Do answers. -/
def doN (s : St) (e : Ev) : Int :=
  if chk e = 0 then
    if e.k = 0 then (if 400 ≤ s.o.length then 5 else 0)
    else if e.k = 5 then (if rmB s e then 0 else 20)
    else if e.k = 1 then (if (s.o.length : Int) ≤ e.a then 4 else if mvB s e then (if ((mvTo s e).length : Int) < e.e then 1 else 0) else 20)
    else if e.k = 2 then (if (s.o.length : Int) ≤ e.a then 4 else if (obj s e.a).getD e.b.toNat 0 = e.c then 0 else 20)
    else (if s.p.getD (numAt e) 0 = e.c then 0 else 20)
  else chk e
/-- The state behind it. -/
def doS (s : St) (e : Ev) : St :=
  if e.k = 0 then mkS s e else if e.k = 5 then rmS s else if e.k = 1 then mvS s e else if e.k = 2 then obS s e else setP s (numAt e) e.d

theorem chk_zero {e : Ev} (h : chk e = 0) : 0 ≤ e.k ∧ e.k < 6 ∧ spareB e = true ∧ rangesB e = true := by
  unfold chk at h
  split at h
  · split at h
    · split at h
      · rename_i h1 h2 h3
        simp [inB] at h1
        exact ⟨h1.1, h1.2, h2, h3⟩
      · cases h
    · cases h
  · cases h
theorem chk_pair {e : Ev} (h : chk e = 0) (hk : e.k = 0 ∨ e.k = 5) : e.d = 0 ∧ e.e = 0 ∧ 0 ≤ e.a ∧ e.a < 120 ∧ 0 ≤ e.b ∧ e.b < 2 ∧ 0 ≤ e.c ∧ e.c < 3 := by
  obtain ⟨_, _, h1, h2⟩ := chk_zero h
  have hm : makesB e = true := by rcases hk with hk | hk <;> simp [makesB, hk]
  simp [spareB, hm] at h1
  simp [rangesB, hm, inB] at h2
  omega
theorem chk_move {e : Ev} (h : chk e = 0) (hk : e.k = 1) : 0 ≤ e.a ∧ 0 ≤ e.b ∧ e.b < 11 ∧ 0 ≤ e.d ∧ e.d < 11 ∧ 0 ≤ e.c ∧ 0 ≤ e.e := by
  obtain ⟨_, _, h1, h2⟩ := chk_zero h
  have hm : makesB e = false := by simp [makesB, hk]
  simp [rangesB, hm, hk, inB] at h2
  omega
theorem chk_obj {e : Ev} (h : chk e = 0) (hk : e.k = 2) : 0 ≤ e.a ∧ 0 ≤ e.b ∧ e.b < 18 ∧ e.b ≠ 3 ∧ e.e = 0 ∧ -1073741824 ≤ e.d ∧ e.d ≤ 1073741824 := by
  obtain ⟨_, _, h1, h2⟩ := chk_zero h
  have hm : makesB e = false := by simp [makesB, hk]
  simp [spareB, hm, hk] at h1
  simp [rangesB, hm, hk, inB, smallB] at h2
  omega
theorem chk_play {e : Ev} (h : chk e = 0) (hk : e.k = 3) : 0 ≤ e.a ∧ e.a < 2 ∧ 0 ≤ e.b ∧ e.b < 9 ∧ e.e = 0 ∧ -1073741824 ≤ e.d ∧ e.d ≤ 1073741824 := by
  obtain ⟨_, _, h1, h2⟩ := chk_zero h
  have hm : makesB e = false := by simp [makesB, hk]
  simp [spareB, hm, hk] at h1
  simp [rangesB, hm, hk, inB, smallB] at h2
  omega
theorem chk_game {e : Ev} (h : chk e = 0) (hk : e.k = 4) : e.a = 0 ∧ 0 ≤ e.b ∧ e.b < 7 ∧ e.e = 0 ∧ -1073741824 ≤ e.d ∧ e.d ≤ 1073741824 := by
  obtain ⟨_, _, h1, h2⟩ := chk_zero h
  have hm : makesB e = false := by simp [makesB, hk]
  simp [spareB, hm, hk] at h1
  simp [rangesB, hm, hk, inB, smallB] at h2
  omega

theorem madeL_len (e : Ev) : (madeL e).length = 18 := rfl
theorem obj_len {s : St} (ok : StOk s) {i : Nat} (h : i < s.o.length) : (s.o.getD i []).length = 18 := by
  rw [show s.o.getD i [] = s.o[i] by simp [List.getD, h]]
  exact ok.o _ (List.getElem_mem h)
theorem set_ok {l : List (List Int)} {n : Nat} (h : ∀ x ∈ l, x.length = n) (i : Nat) {y : List Int} (hy : y.length = n) : ∀ x ∈ l.set i y, x.length = n := fun x hx => by
  rcases List.mem_or_eq_of_mem_set hx with h1 | rfl
  · exact h x h1
  · exact hy
theorem doS_ok {s : St} {e : Ev} (ok : StOk s) (h : doN s e = 0) : StOk (doS s e) := by
  have hc : chk e = 0 := by
    unfold doN at h
    split at h
    · assumption
    · exact h
  unfold doS
  split
  · exact ⟨fun x hx => by
      rcases List.mem_append.1 hx with h1 | h1
      · exact ok.o x h1
      · rw [List.mem_singleton.1 h1]; rfl, by simp [mkS, ok.l], ok.p⟩
  split
  · exact ⟨fun x hx => ok.o x (List.mem_of_mem_take hx), by simp [rmS, ok.l], ok.p⟩
  split
  · rename_i h0 h5 h1
    have ha := chk_move hc h1
    have hlt : e.a.toNat < s.o.length := by
      simp [doN, hc, h1] at h
      split at h
      · cases h
      · omega
    exact ⟨set_ok ok.o _ (by rw [List.length_set]; exact obj_len ok hlt), by simp [mvS, ok.l], ok.p⟩
  split
  · rename_i h0 h5 h1 h2
    have hlt : e.a.toNat < s.o.length := by
      have ha := chk_obj hc h2
      simp [doN, hc, h2] at h
      split at h
      · cases h
      · omega
    exact ⟨set_ok ok.o _ (by rw [List.length_set]; exact obj_len ok hlt), ok.l, ok.p⟩
  · exact ⟨ok.o, ok.l, by simp [setP, ok.p]⟩
/-- How much larger a state may be. -/
structure Fits (s : St) (n : Nat) : Prop where
  o : s.o.length ≤ n
  l : ∀ i, (s.l.getD i []).length ≤ n
theorem getD_set {l : List (List Int)} (i j : Nat) (y : List Int) : (l.set i y).getD j [] = if i = j ∧ j < l.length then y else l.getD j [] := by
  simp only [List.getD, List.getElem?_set]
  by_cases h : i = j
  · subst h
    by_cases h2 : i < l.length
    · simp [h2]
    · simp [h2]
  · simp [h]
theorem Fits.mono {s : St} {n m : Nat} (h : Fits s n) (hm : n ≤ m) : Fits s m := ⟨Nat.le_trans h.o hm, fun i => Nat.le_trans (h.l i) hm⟩
theorem Fits.len {s : St} {n : Nat} (h : Fits s n) (i : Nat) : lenOf s i ≤ n := by
  unfold lenOf
  split
  · exact h.o
  · exact h.l _
theorem remAt_le (zs : List Int) (i : Nat) : (remAt zs i).length ≤ zs.length := by simp [remAt]; omega
theorem Fits.do_ {s : St} {n : Nat} (h : Fits s n) (e : Ev) : Fits (doS s e) (n + 1) := by
  have h0 := h.o
  have hm : ∀ i, (lst s i).length ≤ n := fun i => h.l _
  unfold doS
  split
  · refine ⟨by simp [mkS]; omega, fun i => ?_⟩
    simp only [mkS, getD_set]
    split
    · simp; exact h.l 10
    · exact Nat.le_succ_of_le (h.l i)
  split
  · refine ⟨by simp [rmS]; omega, fun i => ?_⟩
    simp only [rmS, getD_set]
    split
    · have := hm 10
      simp
      omega
    · exact Nat.le_succ_of_le (h.l i)
  split
  · refine ⟨by simp [mvS]; omega, fun i => ?_⟩
    have hx : (mvTo s e).length ≤ n := by
      unfold mvTo
      split
      · exact Nat.le_trans (remAt_le _ _) (hm _)
      · exact hm _
    simp only [mvS, getD_set]
    split
    · rw [insAt_len]
      omega
    · split
      · exact Nat.le_succ_of_le (Nat.le_trans (remAt_le _ _) (hm _))
      · exact Nat.le_succ_of_le (h.l i)
  split
  · exact ⟨by simp [obS]; omega, fun i => Nat.le_succ_of_le (h.l i)⟩
  · exact ⟨Nat.le_succ_of_le h.o, fun i => Nat.le_succ_of_le (h.l i)⟩
end Go.Proofs.Ytpbocficffbcbaa
