/-
  ListDeals: any list in any order, and reversed: the law, at every input. No condition.
-/
import Derived.Test.YtpbocficffbcbaaListDeals
import Derived.Test.YtpbocficffbcbaaRows
import Derived.Test.YtpbocficffbcbaaFrame
import Derived.Test.YtpbocficffbcbaaOpen
namespace Go.Proofs.Ytpbocficffbcbaa
open Go Go.RowKit Go.ChangeShapes Go.WideShapes
set_option linter.unusedVariables false

namespace LawDeals
theorem own : ownKnob Try.prog.godebug = none := by kernel_rfl
set_option maxRecDepth 100000 in
theorem lifted (os : Os) (started : os.Started) (H : Type) (enc : TypeId × Value → H) :
    ReturnsInHanded {} Try.checked os 16 .any (Rows.listDealsSpec.pre6 enc Try.prog Try.f16 Rows.listDealsRow.domain false) (Rows.listDealsSpec.post enc Try.prog Try.f16 false true false false) := by
  refine returnsInHanded_of_change (C := Try.checked) own started (by kernel_rfl) Try.func16
    (ChangeSpec.witness6 (enc := enc) (C := Try.checked) false ⟨#[], #[.slice none 0 0, .slice none 0 0], []⟩ 8 (by kernel_rfl) (by kernel_rfl) (by kernel_rfl) (by kernel_rfl)) ?_
  intro W base args ds gs before hval0 hW hcnd _
  have hval : ∀ (j : Nat) t v, Try.f16.params[j]? = some t → args[j]? = some v → Value.okWide Try.prog W .any base t v := hval0
  have hW' := hW
  have hlt := hW.lt
  obtain ⟨p, q, hA0, hV, rfl, hfz, hnd⟩ := hW
  have hA : DataW.TrodAll enc Try.prog W 0 (fun _ => true) true Try.f16.params.toList args.toList ds p := hA0
  rw [Try.params16] at hA hval
  obtain ⟨v0, vs0, d0, ds0, p0, q0, hargs, rfl, rfl, h0, r0⟩ := trodAll_cons hA
  obtain ⟨v1, vs1, d1, ds1, p1, q1, rfl, rfl, rfl, h1, r1⟩ := trodAll_cons r0
  obtain ⟨rfl, rfl, rfl⟩ := trodAll_nil r1
  obtain rfl : args = #[v0, v1] := by cases args; simp_all
  obtain ⟨rfl, rfl⟩ := trodVars_none hV
  obtain ⟨fuel0, hf0⟩ := h0
  obtain ⟨fuel1, hf1⟩ := h1
  obtain ⟨a0, n0, c0, z0, hcs0, hs0, hl0, hb0⟩ := open_rows Try.underlying22 (by decide) (by kernel_rfl) (intCells_int Try.underlying3) hf0
  obtain ⟨a1, n1, c1, z1, hcs1, hs1, hl1, hb1⟩ := open_rows Try.underlying22 (by decide) (by kernel_rfl) (intCells_int Try.underlying3) hf1
  obtain ⟨s00, s01, s02, rfl⟩ := okWide_slice Try.underlying22 (hval 0 22 v0 rfl rfl)
  obtain ⟨s10, s11, s12, rfl⟩ := okWide_slice Try.underlying22 (hval 1 22 v1 rfl rfl)
  simp only [Value.cells, List.cons.injEq, Value.slice.injEq, and_true] at hcs0 hcs1
  obtain ⟨rfl, rfl, rfl⟩ := hcs0
  obtain ⟨rfl, rfl, rfl⟩ := hcs1
  refine (listDeals W _ _ _ _ _ _ z0 z1 hs0 hs1).mono fun e W' ⟨he, hb⟩ => ?_
  subst he
  exact ⟨_, rfl, post_true (by kernel_rfl) rfl Try.underlying4 (by kernel_rfl) rfl rfl hW' hb⟩

theorem proved : Rows.ListDealsSaid :=
  OpenClaim.holds_of_wide 16 Try.f16 rfl rfl rfl rfl rfl rfl rfl ⟨rfl, rfl, rfl, rfl, rfl⟩ rfl rfl rfl rfl rfl (by kernel_rfl) Try.func16 (by kernel_rfl)
    (of_decide_eq_true (by kernel_rfl)) (by unfold Func.isWrapper; first | (rw [if_pos (by decide +kernel)]; kernel_rfl) | (rw [if_neg (by decide +kernel)]; exact ⟨rfl, rfl⟩))
    (fun os started H enc _ => lifted os started H enc)
end LawDeals
end Go.Proofs.Ytpbocficffbcbaa
