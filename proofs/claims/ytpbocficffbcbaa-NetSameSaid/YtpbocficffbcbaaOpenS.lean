/-
  A state that came in, opened.
-/
import Derived.Test.YtpbocficffbcbaaState
import Derived.Test.YtpbocficffbcbaaEvOpen
namespace Go.Proofs.Ytpbocficffbcbaa
open Go Go.RowKit Go.ChangeShapes Go.WideShapes
set_option linter.unusedVariables false

theorem objCells : IntCells Try.prog 108 18 :=
  intCells_array (n := 18) (k := 1) Try.underlying108 (by decide) (intCells_int Try.underlying3) (by kernel_rfl) (by kernel_rfl)
theorem playCells : IntCells Try.prog 76 18 :=
  intCells_array (n := 2) (k := 9) Try.underlying76 (by decide) (intCells_array (n := 9) (k := 1) Try.underlying75 (by decide) (intCells_int Try.underlying3) (by kernel_rfl) (by kernel_rfl)) (by kernel_rfl) (by kernel_rfl)
theorem gameCells : IntCells Try.prog 77 7 :=
  intCells_array (n := 7) (k := 1) Try.underlying77 (by decide) (intCells_int Try.underlying3) (by kernel_rfl) (by kernel_rfl)

theorem objs_of : ∀ (n : Nat) (zs : List Int), zs.length = n * 18 → ∃ ls : List (List Int), zs.map (Value.int .i64) = objs ls ∧ ls.length = n ∧ ∀ x ∈ ls, x.length = 18
  | 0, zs, h => ⟨[], by simpa using h, rfl, by simp⟩
  | n + 1, zs, h => by
    obtain ⟨ls, e, l, o⟩ := objs_of n (zs.drop 18) (by rw [List.length_drop, h]; omega)
    refine ⟨zs.take 18 :: ls, ?_, by simp [l], fun x hx => ?_⟩
    · show _ = objC (zs.take 18) ++ objs ls
      rw [← e, objC, ← List.map_append, List.take_append_drop]
    · rcases List.mem_cons.1 hx with rfl | h1
      · rw [List.length_take, h]
        omega
      · exact o x h1

theorem stC_of {w : World} {cs : Array Value} (hs : cs.size = 37) {a0 : Option Addr} {n0 c0 : Nat} {os : List (List Int)} (h0 : cs[0]? = some (.slice a0 n0 c0)) (s0 : SlAt w 18 a0 n0 c0 (objs os)) (ho : ∀ x ∈ os, x.length = 18) (hol : os.length = n0)
    (hl : ∀ i, i < 11 → ∃ a n c zs, cs[1 + i]? = some (.slice a n c) ∧ SlAt w 1 a n c (List.map (Value.int .i64) zs)) (ps : List Int) (hpl : ps.length = 25) (hp : ∀ j, j < 25 → cs[12 + j]? = some (.int .i64 (ps.getD j 0))) : ∃ s, StC w cs s ∧ StOk s := by
  have hl' : ∀ i, ∃ zs : List Int, i < 11 → ∃ a n c, cs[1 + i]? = some (.slice a n c) ∧ SlAt w 1 a n c (List.map (Value.int .i64) zs) := fun i => by
    by_cases h : i < 11
    · obtain ⟨a, n, c, zs, h1, h2⟩ := hl i h
      exact ⟨zs, fun _ => ⟨a, n, c, h1, h2⟩⟩
    · exact ⟨[], fun h1 => absurd h1 h⟩
  obtain ⟨f, hf⟩ := Classical.axiomOfChoice hl'
  refine ⟨⟨os, (List.range 11).map f, ps⟩, ⟨hs, fun i hi => ?_, hp⟩, ⟨ho, by simp, hpl⟩⟩
  match i, hi with
  | 0, _ =>
    subst hol
    exact ⟨a0, c0, h0, s0⟩
  | j + 1, hi =>
    obtain ⟨a, n, c, h1, h2⟩ := hf j (by omega)
    have hj : ((List.range 11).map f).getD j [] = f j := by simp [List.getD, List.getElem?_map, List.getElem?_range (show j < 11 by omega)]
    have hn : (f j).length = n := by simpa using h2.len
    refine ⟨a, c, ?_, ?_⟩
    · simp only [lenOf, Nat.add_sub_cancel, hj, hn]
      rw [if_neg (by omega), Nat.add_comm]
      exact h1
    · simp only [lenOf, rowOf, szOf, Nat.add_sub_cancel, hj, hn]
      rw [if_neg (by omega), if_neg (by omega), if_neg (by omega)]
      exact h2

theorem take1_get {α : Type} {l : List α} {o : Nat} {v : α} (h : (l.drop o).take 1 = [v]) : l[o]? = some v := by
  have : ((l.drop o).take 1)[0]? = some v := by rw [h]; rfl
  rw [List.getElem?_take, if_pos (by decide), List.getElem?_drop] at this
  exact this
theorem trod_field {H : Type} {enc : TypeId × Value → H} {P : Program} {w : World} {base : Nat} {spare : Nat → Bool} {held : Bool} {fuel : Nat} {t : TypeId} {cs : List Value} {x : DataW H × List MemPlace} {fs : Array Field}
    (ht : P.underlying t = some (.struct fs)) (h : DataW.trod enc P w base spare held fuel t cs = some x) (i : Nat) (f : Field) (hf : fs[i]? = some f) (o k : Nat) (ty : TypeId) (ho : f.offset = o) (hty : f.type = ty) (hk : P.cellsOf ty = k) :
    ∃ n y, DataW.trod enc P w base spare held n ty ((cs.drop o).take k) = some y := by
  obtain ⟨xs, n, _, _, hl, hxl, hx⟩ := DataW.trod_struct ht h
  have := hx i f hf
  subst hty ho hk
  rw [List.getElem?_eq_getElem (by have := (Array.getElem?_eq_some_iff.1 hf).1; omega)] at this
  exact ⟨n, _, this⟩

theorem ints_get {cs : List Value} {zs : List Int} {o k : Nat} (h : (cs.drop o).take k = zs.map (Value.int .i64)) (j : Nat) (hj : j < zs.length) : cs[o + j]? = some (.int .i64 (zs.getD j 0)) := by
  have h1 : ((cs.drop o).take k)[j]? = some (.int .i64 (zs.getD j 0)) := by rw [h]; simp [hj]
  rw [List.getElem?_take] at h1
  split at h1
  · rwa [List.getElem?_drop] at h1
  · cases h1

set_option maxRecDepth 100000 in
/-- A state that came in. -/
theorem open_state {H : Type} {enc : TypeId × Value → H} {w w' : World} {base base' : Nat} {spare : Nat → Bool} {held : Bool} {fuel : Nat} {v : Value} {x : DataW H × List MemPlace} {r : Reach}
    (hv : Value.okWide Try.prog w' r base' 79 v) (h : DataW.trod enc Try.prog w base spare held fuel 79 v.cells.toList = some x) : ∃ cs s, v = .agg cs ∧ StC w cs s ∧ StOk s := by
  obtain ⟨cs, rfl, hcs⟩ := okWide_struct Try.underlying79 hv
  have e0 : (Value.agg cs).cells.toList = cs.toList := rfl
  rw [e0] at h
  obtain ⟨n0, y0, g0⟩ := trod_field Try.underlying79 h 0 _ rfl 0 1 73 rfl rfl (by kernel_rfl)
  obtain ⟨n1, y1, g1⟩ := trod_field Try.underlying79 h 1 _ rfl 1 11 74 rfl rfl (by kernel_rfl)
  obtain ⟨n2, y2, g2⟩ := trod_field Try.underlying79 h 2 _ rfl 12 18 76 rfl rfl (by kernel_rfl)
  obtain ⟨n3, y3, g3⟩ := trod_field Try.underlying79 h 3 _ rfl 30 7 77 rfl rfl (by kernel_rfl)
  have hsz : cs.size = 37 := by
    obtain ⟨xs, n, _, _, hl, _, _⟩ := DataW.trod_struct Try.underlying79 h
    rw [show Try.prog.cellsOf 79 = 37 by kernel_rfl] at hl
    simpa using hl
  obtain ⟨a, n, c, zs, hc0, hs0, hl0, _⟩ := open_rows Try.underlying73 (by decide) (by kernel_rfl) objCells g0
  obtain ⟨os, ho, hol, ho18⟩ := objs_of n zs hl0
  rw [ho] at hs0
  obtain ⟨ps, hp, hpl, _⟩ := playCells _ _ _ _ _ _ _ _ _ g2
  obtain ⟨gs, hg, hgl, _⟩ := gameCells _ _ _ _ _ _ _ _ _ g3
  obtain ⟨xs, m, _, _, hla, hxl, hx⟩ := DataW.trod_array Try.underlying74 g1
  refine ⟨cs, ?_⟩
  obtain ⟨s, h1, h2⟩ := stC_of (w := w) hsz (by have := take1_get hc0; rwa [Array.getElem?_toList] at this) hs0 ho18 hol (fun i hi => by
      have h1 := hx i hi
      rw [show Try.prog.cellsOf 22 = 1 by kernel_rfl, List.getElem?_eq_getElem (by omega)] at h1
      obtain ⟨a, n, c, zs, hc, hs, _⟩ := open_rows Try.underlying22 (by decide) (by kernel_rfl) (intCells_int Try.underlying3) h1
      refine ⟨a, n, c, zs, ?_, hs⟩
      have := take1_get hc
      rw [Nat.mul_one, List.getElem?_take, if_pos hi, List.getElem?_drop, Array.getElem?_toList] at this
      exact this) (ps ++ gs) (by simp [hpl, hgl]) (fun j hj => by
      by_cases h18 : j < 18
      · have := ints_get hp j (by omega)
        rw [Array.getElem?_toList] at this
        rw [this]
        simp [List.getD, List.getElem?_append_left (show j < ps.length by omega)]
      · have := ints_get hg (j - 18) (by omega)
        rw [Array.getElem?_toList, show 30 + (j - 18) = 12 + j by omega] at this
        rw [this]
        simp [List.getD, List.getElem?_append_right (show ps.length ≤ j by omega), hpl])
  exact ⟨s, rfl, h1, h2⟩
end Go.Proofs.Ytpbocficffbcbaa
