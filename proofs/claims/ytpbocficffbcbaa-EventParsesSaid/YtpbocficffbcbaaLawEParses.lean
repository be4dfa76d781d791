/-
  EventParses: which bytes are an event's, and whose: the law, at every input. No condition.
-/
import Derived.Test.YtpbocficffbcbaaEventParses
import Derived.Test.YtpbocficffbcbaaRows
import Derived.Test.YtpbocficffbcbaaFrame
import Derived.Test.YtpbocficffbcbaaOpenB
namespace Go.Proofs.Ytpbocficffbcbaa
open Go Go.RowKit Go.ChangeShapes Go.WideShapes
set_option linter.unusedVariables false

namespace LawEParses
theorem own : ownKnob Try.prog.godebug = none := by kernel_rfl
set_option maxRecDepth 100000 in
theorem lifted (os : Os) (started : os.Started) (H : Type) (enc : TypeId × Value → H) :
    ReturnsInHanded {} Try.checked os 13 .any (Rows.eventParsesSpec.pre6 enc Try.prog Try.f13 Rows.eventParsesRow.domain false) (Rows.eventParsesSpec.post enc Try.prog Try.f13 false true false false) := by
  refine returnsInHanded_of_change (C := Try.checked) own started (by kernel_rfl) Try.func13
    (ChangeSpec.witness6 (enc := enc) (C := Try.checked) false ⟨#[], #[.slice none 0 0], []⟩ 8 (by kernel_rfl) (by kernel_rfl) (by kernel_rfl) (by kernel_rfl)) ?_
  intro W base args ds gs before hval0 hW hcnd _
  have hval : ∀ (j : Nat) t v, Try.f13.params[j]? = some t → args[j]? = some v → Value.okWide Try.prog W .any base t v := hval0
  have hW' := hW
  have hlt := hW.lt
  obtain ⟨p, q, hA0, hV, rfl, hfz, hnd⟩ := hW
  have hA : DataW.TrodAll enc Try.prog W 0 (fun _ => true) true Try.f13.params.toList args.toList ds p := hA0
  rw [Try.params13] at hA hval
  obtain ⟨v0, vs0, d0, ds0, p0, q0, hargs, rfl, rfl, h0, r0⟩ := trodAll_cons hA
  obtain ⟨rfl, rfl, rfl⟩ := trodAll_nil r0
  obtain rfl : args = #[v0] := by cases args; simp_all
  obtain ⟨rfl, rfl⟩ := trodVars_none hV
  obtain ⟨fuel, hf⟩ := h0
  obtain ⟨a0, n0, c0, z0, hcs, hs0, hl0, hb0⟩ := open_rowsB Try.underlying92 (by decide) (by kernel_rfl) (byteCells Try.underlying5) hf
  obtain ⟨s0, s1, s2, rfl⟩ := okWide_slice Try.underlying92 (hval 0 92 v0 rfl rfl)
  simp only [Value.cells, List.cons.injEq, Value.slice.injEq, and_true] at hcs
  obtain ⟨rfl, rfl, rfl⟩ := hcs
  refine (eventParses W s0 s1 s2 z0 hs0 hb0).mono fun e W' ⟨he, hb⟩ => ?_
  subst he
  exact ⟨_, rfl, post_true (by kernel_rfl) rfl Try.underlying4 (by kernel_rfl) rfl rfl hW' hb⟩

theorem proved : Rows.EventParsesSaid :=
  OpenClaim.holds_of_wide 13 Try.f13 rfl rfl rfl rfl rfl rfl rfl ⟨rfl, rfl, rfl, rfl, rfl⟩ rfl rfl rfl rfl rfl (by kernel_rfl) Try.func13 (by kernel_rfl)
    (of_decide_eq_true (by kernel_rfl)) (by unfold Func.isWrapper; first | (rw [if_pos (by decide +kernel)]; kernel_rfl) | (rw [if_neg (by decide +kernel)]; exact ⟨rfl, rfl⟩))
    (fun os started H enc _ => lifted os started H enc)
end LawEParses
end Go.Proofs.Ytpbocficffbcbaa
