/-
  Arguments that are events, opened.
-/
import Derived.Test.YtpbocficffbcbaaEvs
import Derived.Test.YtpbocficffbcbaaOpen
namespace Go.Proofs.Ytpbocficffbcbaa
open Go Go.RowKit Go.ChangeShapes Go.WideShapes
set_option linter.unusedVariables false

theorem evCells : IntCells Try.prog 64 6 :=
  intCells_struct Try.underlying64 (by kernel_rfl) (fun i f hf => by
    match i, hf with
    | 0, hf | 1, hf | 2, hf | 3, hf | 4, hf | 5, hf => simp at hf; subst hf; exact ⟨rfl, Try.underlying3, by kernel_rfl⟩
    | n + 6, hf => simp at hf)
theorem evs_of : ∀ (n : Nat) (zs : List Int), zs.length = n * 6 → ∃ ls : List Ev, zs.map (Value.int .i64) = evs ls ∧ ls.length = n
  | 0, zs, h => ⟨[], by simpa using h, rfl⟩
  | n + 1, zs, h => by
    match zs, h with
    | a :: b :: c :: d :: e :: f :: zs, h =>
      obtain ⟨ls, e', l⟩ := evs_of n zs (by simp at h; omega)
      exact ⟨⟨a, b, c, d, e, f⟩ :: ls, by simp [e', evs, evC], by simp [l]⟩
    | [], h => simp at h
    | [_], h => simp at h; omega
    | [_, _], h => simp at h; omega
    | [_, _, _], h => simp at h; omega
    | [_, _, _, _], h => simp at h; omega
    | [_, _, _, _, _], h => simp at h; omega
set_option maxRecDepth 100000 in
/-- An event that came in. -/
theorem open_ev {H : Type} {enc : TypeId × Value → H} {w w' : World} {base base' : Nat} {spare : Nat → Bool} {held : Bool} {fuel : Nat} {v : Value} {x : DataW H × List MemPlace} {r : Reach}
    (hv : Value.okWide Try.prog w' r base' 64 v) (h : DataW.trod enc Try.prog w base spare held fuel 64 v.cells.toList = some x) : ∃ e : Ev, v = evV e := by
  obtain ⟨cs, rfl, hcs⟩ := okWide_struct Try.underlying64 hv
  obtain ⟨zs, hz, hl, _⟩ := evCells _ _ _ _ _ _ _ _ _ h
  obtain ⟨ls, he, hn⟩ := evs_of 1 zs (by simpa using hl)
  match ls, hn with
  | [e], _ =>
    refine ⟨e, ?_⟩
    have h1 : cs.toList = evC e := by rw [show cs.toList = (Value.agg cs).cells.toList from rfl, hz, he]; simp [evs]
    have : cs = evA e := by rw [← Array.toArray_toList (xs := cs), h1]; rfl
    rw [this]
end Go.Proofs.Ytpbocficffbcbaa
