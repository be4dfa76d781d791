/-
  Arrays of ints, side by side; objects in a row.
-/
import Derived.Test.YtpbocficffbcbaaState
import Derived.ChangeKeysEq
import Derived.Deep.MidRow
namespace Go.Proofs.Ytpbocficffbcbaa
open Go Go.RowKit
set_option linter.unusedVariables false

abbrev intsA (l : List Int) : Array Value := (l.map (Value.int .i64)).toArray
theorem intsA_get (l : List Int) (i : Nat) (h : i < l.length) : (intsA l)[i]? = some (.int .i64 (l.getD i 0)) := by simp [h]
theorem intsA_one (l : List Int) : (intsA l).all (·.oneCell') = true := by
  rw [Array.all_eq_true_iff_forall_mem]
  intro v hv
  simp at hv
  obtain ⟨z, _, rfl⟩ := hv
  rfl
theorem eqItems_ints {P : Program} (d : Nat) {e : TypeId} (he : P.underlying e = some (.int .i64)) (w : World) (xs ys : List Int) : ∀ (is : List Nat), (∀ i ∈ is, i < xs.length ∧ i < ys.length) →
    (Op.eqItems (d + 1) e 1 (intsA xs) (intsA ys) is).run P w = .ok (is.all fun i => xs.getD i 0 == ys.getD i 0) w
  | [], _ => by simp [Op.eqItems]
  | i :: is, h => by
    have h1 := h i (by simp)
    have hp : P.plainKey e = true := by simp [Program.plainKey, he]
    have ih := eqItems_ints d he w xs ys is (fun j hj => h j (by simp [hj]))
    have px := run_part_plain (w := w) hp (intsA_get xs i h1.1)
    have py := run_part_plain (w := w) hp (intsA_get ys i h1.2)
    have pe := run_equalIn_int (P := P) w d e .i64 .i64 (xs.getD i 0) (ys.getD i 0) he
    simp only [Op.eqItems, Sem.run_bind, Nat.mul_one, px, py, pe, Result.andThen_ok, List.all_cons]
    cases hxy : (xs.getD i 0 == ys.getD i 0)
    · simp
    · simpa using ih
theorem all_getD {α : Type} [DecidableEq α] (d : α) {n : Nat} {xs ys : List α} (hx : xs.length = n) (hy : ys.length = n) : (List.range n).all (fun i => xs.getD i d == ys.getD i d) = decide (xs = ys) := by
  rw [Bool.eq_iff_iff]
  simp only [List.all_eq_true, List.mem_range, beq_iff_eq, decide_eq_true_eq]
  constructor
  · intro h
    refine List.ext_getElem (by omega) (fun i h1 h2 => ?_)
    have := h i (by omega)
    simpa [h1, h2] using this
  · rintro rfl _ _
    rfl
theorem equalIn_ints {P : Program} (d : Nat) {t e : TypeId} {n : Nat} {i : TypeInfo} (hu : P.underlying t = some (.array n e)) (he : P.underlying e = some (.int .i64)) (hi : P.info? e = some i) (hc : P.cellsOf e = 1) (w : World) (xs ys : List Int) (hx : xs.length = n) (hy : ys.length = n) :
    (Op.equalIn (d + 2) t (.agg (intsA xs)) (.agg (intsA ys))).run P w = .ok (decide (xs = ys)) w := by
  rw [show d + 2 = (d + 1) + 1 from rfl, run_equalIn_array w (d + 1) _ _ hu hi, hc, eqItems_ints d he w xs ys _ (fun j hj => by simp at hj; omega), all_getD 0 hx hy]
theorem run_part_agg {P : Program} {e : TypeId} {k n : Nat} {e' : TypeId} (hu : P.underlying e = some (.array n e')) (hk : (P.info? e).map (·.size) = some k) (w : World) (xs : Array Value) (off : Nat) : (part e xs off).run P w = .ok (.agg (xs.extract off (off + k))) w := by
  cases hq : P.info? e with
  | none => simp [hq] at hk
  | some i =>
    have hs : i.size = k := by simpa [hq] using hk
    simp [part, isAgg, Sem.run_bind, run_underlying hu w, sizeOf, typeInfo, hq, hs]
theorem intsA_part (l : List Int) (o k : Nat) : (intsA l).extract o (o + k) = intsA ((l.drop o).take k) := by
  apply Array.ext'
  simp [List.map_take, List.map_drop]
theorem eqItems_rows {P : Program} (d : Nat) {e e' : TypeId} {k : Nat} {i' : TypeInfo} (hu : P.underlying e = some (.array k e')) (he : P.underlying e' = some (.int .i64)) (hi : P.info? e' = some i') (hc : P.cellsOf e' = 1) (hk : (P.info? e).map (·.size) = some k) (w : World) (xs ys : List Int) :
    ∀ (is : List Nat), (∀ i ∈ is, i * k + k ≤ xs.length ∧ i * k + k ≤ ys.length) →
    (Op.eqItems (d + 2) e k (intsA xs) (intsA ys) is).run P w = .ok (is.all fun i => decide ((xs.drop (i * k)).take k = (ys.drop (i * k)).take k)) w
  | [], _ => by simp [Op.eqItems]
  | i :: is, h => by
    have h1 := h i (by simp)
    have ih := eqItems_rows d hu he hi hc hk w xs ys is (fun j hj => h j (by simp [hj]))
    have px := run_part_agg hu hk w (intsA xs) (i * k)
    have py := run_part_agg hu hk w (intsA ys) (i * k)
    rw [intsA_part] at px py
    have pe := equalIn_ints d hu he hi hc w ((xs.drop (i * k)).take k) ((ys.drop (i * k)).take k) (by simp; omega) (by simp; omega)
    simp only [Op.eqItems, Sem.run_bind, px, py, pe, Result.andThen_ok, List.all_cons]
    cases hxy : decide ((xs.drop (i * k)).take k = (ys.drop (i * k)).take k)
    · simp
    · simpa using ih
theorem two_rows (xs ys : List Int) (hx : xs.length = 18) (hy : ys.length = 18) : ((List.range 2).all fun i => decide ((xs.drop (i * 9)).take 9 = (ys.drop (i * 9)).take 9)) = decide (xs = ys) := by
  rw [Bool.eq_iff_iff]
  simp only [List.all_eq_true, List.mem_range, decide_eq_true_eq]
  constructor
  · intro h
    have h0 := h 0 (by decide)
    have h1 := h 1 (by decide)
    simp only [Nat.zero_mul, List.drop_zero, Nat.one_mul] at h0 h1
    rw [List.take_of_length_le (by simp; omega), List.take_of_length_le (by simp; omega)] at h1
    rw [← List.take_append_drop 9 xs, ← List.take_append_drop 9 ys, h0, h1]
  · rintro rfl _ _
    rfl

theorem obj_equal (w : World) (x y : List Int) (hx : x.length = 18) (hy : y.length = 18) : (Op.equal 108 (.agg (intsA x)) (.agg (intsA y))).run Try.prog w = .ok (decide (x = y)) w := by
  obtain ⟨i, hi, _⟩ := info_parts Try.infoInt
  exact equalIn_ints 9998 Try.underlying108 Try.underlying3 hi (by kernel_rfl) w x y hx hy
theorem obj_neq (w : World) (x y : List Int) (hx : x.length = 18) (hy : y.length = 18) : (binOp .neq 108 (.agg (intsA x)) (.agg (intsA y))).run Try.prog w = .ok (.bool (decide (x ≠ y))) w := by
  simp only [binOp, obj_equal w x y hx hy, Sem.run_bind, Result.andThen_ok, go_sem]
  simp
theorem game_equal (w : World) (x y : List Int) (hx : x.length = 7) (hy : y.length = 7) : (Op.equal 77 (.agg (intsA x)) (.agg (intsA y))).run Try.prog w = .ok (decide (x = y)) w := by
  obtain ⟨i, hi, _⟩ := info_parts Try.infoInt
  exact equalIn_ints 9998 Try.underlying77 Try.underlying3 hi (by kernel_rfl) w x y hx hy
theorem game_neq (w : World) (x y : List Int) (hx : x.length = 7) (hy : y.length = 7) : (binOp .neq 77 (.agg (intsA x)) (.agg (intsA y))).run Try.prog w = .ok (.bool (decide (x ≠ y))) w := by
  simp only [binOp, game_equal w x y hx hy, Sem.run_bind, Result.andThen_ok, go_sem]
  simp
theorem Try.info9 : ∃ i, Try.prog.info? 75 = some i ∧ i.size = 9 := by
  have h : (Try.prog.info? 75).map (·.size) = some 9 := by kernel_rfl
  cases hq : Try.prog.info? 75 with
  | none => simp [hq] at h
  | some i => exact ⟨i, rfl, by simpa [hq] using h⟩
theorem play_equal (w : World) (x y : List Int) (hx : x.length = 18) (hy : y.length = 18) : (Op.equal 76 (.agg (intsA x)) (.agg (intsA y))).run Try.prog w = .ok (decide (x = y)) w := by
  obtain ⟨i, hi, _⟩ := info_parts Try.infoInt
  obtain ⟨i9, hi9, hs9⟩ := Try.info9
  unfold Op.equal Op.maxDepth
  rw [show (10000 : Nat) = 9999 + 1 from rfl, run_equalIn_array w 9999 _ _ Try.underlying76 hi9, show Try.prog.cellsOf 75 = 9 by kernel_rfl,
    show (9999 : Nat) = 9997 + 2 from rfl, eqItems_rows 9997 Try.underlying75 Try.underlying3 hi (by kernel_rfl) (by rw [hi9, Option.map_some, hs9]) w x y _ (fun j hj => by simp at hj; omega), two_rows x y hx hy]
theorem play_neq (w : World) (x y : List Int) (hx : x.length = 18) (hy : y.length = 18) : (binOp .neq 76 (.agg (intsA x)) (.agg (intsA y))).run Try.prog w = .ok (.bool (decide (x ≠ y))) w := by
  simp only [binOp, play_equal w x y hx hy, Sem.run_bind, Result.andThen_ok, go_sem]
  simp

/-! ### objects in a row -/
theorem objs_get : ∀ (l : List (List Int)), (∀ x ∈ l, x.length = 18) → ∀ (i j : Nat), i < l.length → j < 18 → (objs l)[i * 18 + j]? = some (.int .i64 ((l.getD i []).getD j 0))
  | [], _, i, j, hi, _ => by simp at hi
  | a :: l, h, i, j, hi, hj => by
    have ha : (objC a).length = 18 := by rw [objC, List.length_map]; exact h a (by simp)
    show (objC a ++ objs l)[i * 18 + j]? = _
    cases i with
    | zero =>
      rw [List.getElem?_append_left (by omega)]
      have h18 := h a (by simp)
      simp [objC, show j < a.length by omega]
    | succ i =>
      rw [List.getElem?_append_right (by omega), ha, show (i + 1) * 18 + j - 18 = i * 18 + j by omega, objs_get l (fun x hx => h x (by simp [hx])) i j (by simpa using hi) hj]
      simp [List.getD]
theorem obj_at {w : World} {a : Option Addr} {n cap : Nat} {l : List (List Int)} (h : SlAt w 18 a n cap (objs l)) (ok : ∀ x ∈ l, x.length = 18) (hl : l.length = n) {k : Nat} (hk : k < n) :
    ∃ b o, a = some ⟨b, o, none⟩ ∧ b < w.heap.size ∧ w.rangeAt b (o + k * 18) (objC (l.getD k [])) := by
  obtain ⟨b, o, rfl, hb, hc⟩ := h.nonempty (by omega)
  refine ⟨b, o, rfl, hb, fun j v hv => ?_⟩
  have hx : (l.getD k []).length = 18 := by
    rw [show l.getD k [] = l[k] by simp [List.getD, show k < l.length by omega]]
    exact ok _ (List.getElem_mem _)
  have hj : j < 18 := by
    have := (List.getElem?_eq_some_iff.1 hv).1
    rw [objC, List.length_map, hx] at this
    exact this
  rw [objC, List.getElem?_map, List.getElem?_eq_getElem (by omega)] at hv
  simp only [Option.map_some, Option.some.injEq] at hv
  rw [Nat.add_assoc]
  refine hc _ _ ?_
  rw [objs_get l ok k j (by omega) hj, ← hv]
  have hgen : ∀ (x : List Int) (h : j < x.length), x.getD j 0 = x[j] := fun x h => by simp [h]
  rw [hgen _ (by omega)]
end Go.Proofs.Ytpbocficffbcbaa
