import Derived.Test.YtfphjokijanahaaDoorRows
import Derived.Test.YtfphjokijanahaaDoorLedger4
import Derived.Test.YtfphjokijanahaaDoorFrame
import Derived.Test.YtfphjokijanahaaDoorOpen
import Derived.ProofKit
import Derived.LaidMore
import Derived.OpenShut
import Derived.Stop.Joined
import Derived.Deep.Strs
namespace Go.Proofs.YtfphjokijanahaaDoor
open Go Go.RowKit Go.ChangeShapes Go.WideShapes Go.ChangeAt Go.WideMaps Go.WideElems
set_option linter.unusedVariables false

abbrev laidL : List (String × DataW Unit) := [("mulligan/ledger.kinds", Rows.laid_mulligan_ledger_kinds)]
theorem gKinds : Tryd.prog.globalNamed "mulligan/ledger.kinds" = some 0 := by kernel_rfl
theorem tKinds : (Tryd.prog.globals[0]?).map (·.type) = some 67 := by kernel_rfl
theorem c3 : Tryd.prog.cellsOf 66 = 3 := by kernel_rfl

theorem kind_row {H : Type} {enc : TypeId × Value → H} {w : World} {base : Nat} {sp : Nat → Bool} {held : Bool} {fuel : Nat} {cs : List Value} {x : DataW H × List MemPlace}
    (h : DataW.trod enc Tryd.prog w base sp held fuel 66 cs = some x) : ∃ (s : ByteArray) (n : Int) (b : Bool), cs = [.string s, .int .i64 n, .bool b] ∧ x.1 = .agg [.lit (.string s.data.toList), .lit (.int .i64 n), .lit (.bool b)] := by
  obtain ⟨y0, y1, y2, n, rfl, hl, h0, h1, h2⟩ := Go.Deep.trod_struct3 Tryd.underlying66 h
  rw [c3] at hl
  match cs, hl with
  | [c0, c1, c2], _ =>
    rw [show Tryd.prog.cellsOf 9 = 1 by kernel_rfl] at h0
    rw [show Tryd.prog.cellsOf 3 = 1 by kernel_rfl] at h1
    rw [show Tryd.prog.cellsOf 4 = 1 by kernel_rfl] at h2
    obtain ⟨s, e0, rfl, _⟩ := DataW.trod_string Tryd.underlying9 h0
    obtain ⟨n, e1, rfl, _⟩ := DataW.trod_int Tryd.underlying3 h1
    obtain ⟨b, e2, rfl⟩ := DataW.trod_bool Tryd.underlying4 h2
    simp at e0 e1 e2
    exact ⟨s, n, b, by rw [e0, e1, e2], rfl⟩

theorem of_laid {W : World} (h : laidMetH Tryd.prog laidL W) : KindsAt W := by
  rw [MakeChecks.laidMetH_plain _ _ _ (by kernel_rfl)] at h
  obtain ⟨ps, ⟨g0, t0, cs0, f0, p0, q0, hg0, ht0, hv0, hd0, _⟩, _⟩ := h
  obtain rfl := Option.some.inj (gKinds.symm.trans hg0)
  obtain rfl := Option.some.inj (tKinds.symm.trans ht0)
  obtain ⟨xs, m, _, hx, hlen, hn, hel⟩ := DataW.trod_array Tryd.underlying67 hd0
  simp only [Prod.mk.injEq] at hx
  have hx1 := hx.1
  have key : ∀ i, i < 6 → (xs.map (·.1))[i]? = some (.agg [.lit (.string (kname i)), .lit (.int .i64 (kbase i)), .lit (.bool (kup i))]) := by
    have e : xs.map (·.1) = [.agg [.lit (.string (kname 0)), .lit (.int .i64 (kbase 0)), .lit (.bool (kup 0))], .agg [.lit (.string (kname 1)), .lit (.int .i64 (kbase 1)), .lit (.bool (kup 1))], .agg [.lit (.string (kname 2)), .lit (.int .i64 (kbase 2)), .lit (.bool (kup 2))], .agg [.lit (.string (kname 3)), .lit (.int .i64 (kbase 3)), .lit (.bool (kup 3))], .agg [.lit (.string (kname 4)), .lit (.int .i64 (kbase 4)), .lit (.bool (kup 4))], .agg [.lit (.string (kname 5)), .lit (.int .i64 (kbase 5)), .lit (.bool (kup 5))]] := by
      unfold Rows.laid_mulligan_ledger_kinds at hx1
      exact ((DataW.agg.injEq _ _).mp hx1).symm
    intro i hi
    rw [e]
    have hc : i = 0 ∨ i = 1 ∨ i = 2 ∨ i = 3 ∨ i = 4 ∨ i = 5 := by omega
    rcases hc with rfl | rfl | rfl | rfl | rfl | rfl <;> rfl
  have row : ∀ i, i < 6 → ∃ s : ByteArray, s.data.toList = kname i ∧ (cs0.toList.drop (i * 3)).take 3 = [.string s, .int .i64 (kbase i), .bool (kup i)] := by
    intro i hi
    have h1 := hel i hi
    rw [c3, List.getElem?_eq_getElem (by omega)] at h1
    obtain ⟨s, n, b, hc, hd⟩ := kind_row h1
    have hk := key i hi
    rw [List.getElem?_map, List.getElem?_eq_getElem (by omega), Option.map_some, Option.some.injEq] at hk
    rw [hk] at hd
    simp at hd
    obtain ⟨h1, h2, h3⟩ := hd
    exact ⟨s, h1.symm, by rw [hc, ← h2, ← h3]⟩
  have cell : ∀ i j (v : Value), j < 3 → ((cs0.toList.drop (i * 3)).take 3)[j]? = some v → W.cell? ⟨0, i * 3 + j, none⟩ = some v := by
    intro i j v hj hv
    have := World.var?_cell hg0 hv0 (i * 3 + j)
    rw [this]
    rw [List.getElem?_take, if_pos hj, List.getElem?_drop] at hv
    rw [← Array.getElem?_toList]
    exact hv
  refine ⟨fun i hi => ?_, fun i hi => ?_, fun i hi => ?_⟩
  · obtain ⟨s, hs, hr⟩ := row i hi
    exact ⟨s, cell i 0 _ (by decide) (by rw [hr]; rfl), hs⟩
  · obtain ⟨s, hs, hr⟩ := row i hi
    exact cell i 1 _ (by decide) (by rw [hr]; rfl)
  · obtain ⟨s, hs, hr⟩ := row i hi
    exact cell i 2 _ (by decide) (by rw [hr]; rfl)

theorem entCells : IntCells Tryd.prog 37 4 :=
  intCells_struct Tryd.underlying37 (by kernel_rfl) (fun i f hf => by
    match i, hf with
    | 0, hf | 1, hf | 2, hf | 3, hf => simp at hf; subst hf; exact ⟨rfl, Tryd.underlying3, by kernel_rfl⟩
    | n + 4, hf => simp at hf)
theorem ents_of : ∀ (n : Nat) (zs : List Int), zs.length = n * 4 → ∃ ls : List Ent, zs.map (Value.int .i64) = ls.flatMap entC ∧ ls.length = n
  | 0, zs, h => ⟨[], by simpa using h, rfl⟩
  | n + 1, zs, h => by
    match zs, h with
    | a :: b :: c :: d :: zs, h =>
      obtain ⟨ls, e, l⟩ := ents_of n zs (by simp at h; omega)
      exact ⟨⟨a, b, c, d⟩ :: ls, by simp [e, entC], by simp [l]⟩
    | [], h => simp at h
    | [_], h => simp at h; omega
    | [_, _], h => simp at h; omega
    | [_, _, _], h => simp at h; omega
theorem own : ownKnob Tryd.prog.godebug = none := by kernel_rfl
theorem door_met (os : Os) (args : Array Value) : laidMetH Tryd.prog laidL ((World.doorLaid Tryd.prog 20 os).forCall (fun _ _ => 0) ⟨#[], args, []⟩).memory :=
  laidMetH_of_parts3 (fuel := 8) (laidMet_of_run' 8 (by kernel_rfl) (by kernel_rfl)) (by kernel_rfl) (by kernel_rfl)
end Go.Proofs.YtfphjokijanahaaDoor
