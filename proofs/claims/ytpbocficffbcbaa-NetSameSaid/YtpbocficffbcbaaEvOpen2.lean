import Derived.Test.YtpbocficffbcbaaEvOpen
import Derived.Test.YtpbocficffbcbaaEvB
namespace Go.Proofs.Ytpbocficffbcbaa
open Go Go.RowKit Go.ChangeShapes Go.WideShapes
set_option linter.unusedVariables false

set_option maxRecDepth 100000 in
/-- An event that came in, its numbers in range. -/
theorem open_evR {H : Type} {enc : TypeId × Value → H} {w w' : World} {base base' : Nat} {spare : Nat → Bool} {held : Bool} {fuel : Nat} {v : Value} {x : DataW H × List MemPlace} {r : Reach}
    (hv : Value.okWide Try.prog w' r base' 64 v) (h : DataW.trod enc Try.prog w base spare held fuel 64 v.cells.toList = some x) : ∃ e : Ev, v = evV e ∧ EvR e := by
  obtain ⟨cs, rfl, hcs⟩ := okWide_struct Try.underlying64 hv
  obtain ⟨zs, hz, hl, hr⟩ := evCells _ _ _ _ _ _ _ _ _ h
  match zs, hl with
  | [a, b, c, d, e, f], _ =>
    refine ⟨⟨a, b, c, d, e, f⟩, ?_, fun n hn => hr n hn⟩
    have h1 : cs.toList = evC ⟨a, b, c, d, e, f⟩ := by rw [show cs.toList = (Value.agg cs).cells.toList from rfl, hz]; simp [evC]
    have : cs = evA ⟨a, b, c, d, e, f⟩ := by rw [← Array.toArray_toList (xs := cs), h1]; rfl
    rw [this]
end Go.Proofs.Ytpbocficffbcbaa
