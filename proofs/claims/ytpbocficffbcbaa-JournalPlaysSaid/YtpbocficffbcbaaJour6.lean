import Derived.Test.YtpbocficffbcbaaJour5
import Derived.Test.YtpbocficffbcbaaJour3
import Derived.Test.YtpbocficffbcbaaJNil
namespace Go.Proofs.Ytpbocficffbcbaa
open Go Go.RowKit
set_option linter.unusedVariables false

theorem RowAt.takeF {α : Type} {f : α → List Value} {sz : Nat} (hf : ∀ a, (f a).length = sz) {w : World} {e : TypeId} {a : Option Addr} {n cap : Nat} {l : List α} (h : RowAt w e sz a n cap (l.flatMap f)) (k : Nat) (hk : k ≤ n) :
    RowAt w e sz a k k ((l.take k).flatMap f) where
  len := by
    have := h.len
    rw [← flat_take f sz hf, List.length_take, this]
    exact Nat.min_eq_left (Nat.mul_le_mul_right _ hk)
  le := Nat.le_refl _
  max := by have := h.max; have := h.le; omega
  nil := fun hn => by have := h.nil hn; have := h.le; omega
  one := fun u hu => by
    rw [← flat_take f sz hf] at hu
    exact h.one u (List.mem_of_mem_take hu)
  row := fun ad he => by
    obtain ⟨hsp, cur, hg, hfit, ht⟩ := h.row ad he
    refine ⟨hsp, cur, hg, Nat.le_trans (Nat.add_le_add_left (Nat.mul_le_mul_right _ (Nat.le_trans hk h.le)) _) hfit, ?_⟩
    rw [← flat_take f sz hf, ← ht, List.take_take, Nat.min_eq_left (Nat.mul_le_mul_right _ hk)]

set_option maxRecDepth 100000 in
set_option maxHeartbeats 3200000 in
theorem cut (w : World) (bj : Nat) (es : List Ev) (ms : List Mk) (last : Int) (ea ma : Option Addr) (ec mc : Nat) (h : JAt w bj es ms last ea ec ma mc) (hm : ms.length < 1000000) (i : Nat) (n : Int) (k : Nat) (hi : ms[i]? = some (n, k)) (hk : k ≤ es.length) :
    Calls Try.prog 85 #[.pointer (some ⟨bj, 0, none⟩), .int .i64 i] w (JTo w bj ea ma (es.take k) (ms.take (i + 1)) last (.tuple #[])) := by
  have hil : i < ms.length := (List.getElem?_eq_some_iff.1 hi).1
  have hel := h.ev.le
  have hem := h.ev.max
  have hml := h.mkr.le
  have hmm := h.mkr.max
  unfold maxLen at hem hmm
  obtain ⟨mb, mo, m, hma, hmi, hmb, d0, d1⟩ := mk_at h.mkr.sl hil
  obtain rfl : m = (n, k) := Option.some.inj (hmi.symm.trans hi)
  subst hma
  simp only at d0 d1
  have c0 := obj_cell h.obj 0
  have c1 := obj_cell h.obj 1
  have f0 := fun j => obj_free h.obj j
  simp at c0 c1
  clear hmi hi d0
  go_enter Try.func85, Try.ntmps85
  go_wp2_with fail
  go_region
  have hbjm : ¬ bj = mb := fun e => h.nmk _ rfl e.symm
  have o1 := obj_set h.obj 0 (.slice ea k k)
  have c1' := obj_cell o1 1
  have f1' := obj_free o1 1
  simp at c1'
  have Ho := Lib.hid o1
  clear o1
  go_wp2_with fail
  go_end0
  have hkl : (es.take k).length = k := by rw [List.length_take]; omega
  have hil2 : (ms.take (i + 1)).length = i + 1 := by rw [List.length_take]; omega
  refine ⟨ea, k, some ⟨mb, mo, none⟩, i + 1, rfl, ⟨?_, ?_, ?_⟩, ?_, fun _ he => .inl he, fun _ he => .inl he⟩
  · rw [hkl, hil2]
    have := obj_set Ho.out 1 (.slice (some ⟨mb, mo, none⟩) (i + 1) (i + 1))
    simp at this
    exact this
  · rw [hkl]
    exact (((h.ev.takeF (f := evC) (fun _ => rfl) k hk).setCell _ (fun ad he => h.nev ad he) _).setCell _ (fun ad he => h.nev ad he) _).drew
  · rw [hil2]
    exact (((h.mkr.takeF (f := mkC) (fun _ => rfl) (i + 1) hil).setCell _ (fun ad he => h.nmk ad he) _).setCell _ (fun ad he => h.nmk ad he) _).drew
  · exact (((Upd.refl _ w).setCell _ (fun _ => .inl rfl) _).setCell _ (fun _ => .inl rfl) _).drew

theorem jok_cut {es : List Ev} {ms : List Mk} {last : Int} (ok : JOk es ms last) {i : Nat} {n : Int} {k : Nat} (hi : ms[i]? = some (n, k)) : JOk (es.take k) (ms.take (i + 1)) last := by
  have hil : i < ms.length := (List.getElem?_eq_some_iff.1 hi).1
  have hk : k ≤ es.length := ok.beh _ (List.mem_of_getElem? hi)
  have get : ∀ (j : Nat) (x : Mk), (ms.take (i + 1))[j]? = some x → j ≤ i ∧ ms[j]? = some x := fun j x h => by
    rw [List.getElem?_take] at h
    split at h
    · exact ⟨by omega, h⟩
    · cases h
  refine ⟨fun a b x y hx hy hab => ok.rise a b x y (get a x hx).2 (get b y hy).2 hab, fun m hm => ok.num m (List.mem_of_mem_take hm), fun m hm => ?_, fun a b x y hx hy hab => ok.mono a b x y (get a x hx).2 (get b y hy).2 hab, ok.last0⟩
  obtain ⟨j, hj⟩ := List.getElem?_of_mem hm
  obtain ⟨hji, hj2⟩ := get j m hj
  rw [List.length_take, Nat.min_eq_left hk]
  by_cases h : j = i
  · subst h
    rw [hi] at hj2
    cases hj2
    exact Nat.le_refl _
  · exact ok.mono j i m (n, k) hj2 hi (by omega)
theorem jok_add {es l : List Ev} {ms : List Mk} {last : Int} (ok : JOk es ms last) : JOk (es ++ l) ms last :=
  ⟨ok.rise, ok.num, fun m hm => by have := ok.beh m hm; simp; omega, ok.mono, ok.last0⟩
theorem jok_mark {es : List Ev} {ms : List Mk} {last : Int} (ok : JOk es ms last) : JOk es (ms ++ [(last + 1, es.length)]) (last + 1) := by
  have get : ∀ (j : Nat) (x : Mk), (ms ++ [(last + 1, es.length)])[j]? = some x → (j < ms.length ∧ ms[j]? = some x) ∨ (j = ms.length ∧ x = (last + 1, es.length)) := fun j x h => by
    rw [List.getElem?_append] at h
    split at h
    · exact .inl ⟨by assumption, h⟩
    · rename_i hj
      have h0 : j - ms.length = 0 := by
        rcases Nat.eq_zero_or_pos (j - ms.length) with h0 | h0
        · exact h0
        · rw [List.getElem?_eq_none (by simp; omega)] at h; cases h
      rw [h0] at h
      simp at h
      exact .inr ⟨by omega, h.symm⟩
  have h0 := ok.last0
  refine ⟨fun a b x y hx hy hab => ?_, fun m hm => ?_, fun m hm => ?_, fun a b x y hx hy hab => ?_, by omega⟩
  · rcases get a x hx with ⟨ha, hx⟩ | ⟨ha, rfl⟩ <;> rcases get b y hy with ⟨hb, hy⟩ | ⟨hb, rfl⟩
    · exact ok.rise a b x y hx hy hab
    · have := (ok.num x (List.mem_of_getElem? hx)).2
      simp; omega
    · omega
    · omega
  · rcases List.mem_append.1 hm with hm | hm
    · have := ok.num m hm; omega
    · simp at hm; subst hm; simp; omega
  · rcases List.mem_append.1 hm with hm | hm
    · exact ok.beh m hm
    · simp at hm; subst hm; simp
  · rcases get a x hx with ⟨ha, hx⟩ | ⟨ha, rfl⟩ <;> rcases get b y hy with ⟨hb, hy⟩ | ⟨hb, rfl⟩
    · exact ok.mono a b x y hx hy hab
    · exact ok.beh x (List.mem_of_getElem? hx)
    · omega
    · omega

theorem JTo.via {w w1 : World} {bj : Nat} {es es' : List Ev} {ms ms' : List Mk} {last last' : Int} {ea ma : Option Addr} {ec mc : Nat} {v : Value} {e : Ending} {w' : World} (k : Below w.heap.size w w1) (t : JTo w1 bj ea ma es' ms' last' v e w') : JTo w bj ea ma es' ms' last' v e w' := by
  obtain ⟨ea', ec', ma', mc', rfl, hj, hu, h1, h2⟩ := t
  exact ⟨ea', ec', ma', mc', rfl, hj, (Upd.of_below k).trans hu (fun _ _ h => h), fun ad he => (h1 ad he).imp id (fun h' => Nat.le_trans k.size h'), fun ad he => (h2 ad he).imp id (fun h' => Nat.le_trans k.size h')⟩
end Go.Proofs.Ytpbocficffbcbaa
