/-
  JournalBack: what goes back is just what was added behind the checkpoint, in whatever parts: the law, at every input. No condition.
-/
import Derived.Test.YtpbocficffbcbaaJournalBack
import Derived.Test.YtpbocficffbcbaaRows
import Derived.Test.YtpbocficffbcbaaFrame
import Derived.Test.YtpbocficffbcbaaOpen
import Derived.Test.YtpbocficffbcbaaSized
namespace Go.Proofs.Ytpbocficffbcbaa
open Go Go.RowKit Go.ChangeShapes Go.WideShapes
set_option linter.unusedVariables false

namespace LawJBack
theorem own : ownKnob Try.prog.godebug = none := by kernel_rfl
set_option maxRecDepth 100000 in
theorem lifted (os : Os) (started : os.Started) (H : Type) (enc : TypeId × Value → H) :
    ReturnsInHanded {} Try.checked os 6 .any (Rows.journalBackSpec.pre6 enc Try.prog Try.f6 Rows.journalBackRow.domain false) (Rows.journalBackSpec.post enc Try.prog Try.f6 false true false false) := by
  refine returnsInHanded_of_change_sized (C := Try.checked) own started (by kernel_rfl) Try.func6
    (ChangeSpec.witness6 (enc := enc) (C := Try.checked) false ⟨#[], #[.slice none 0 0, .slice none 0 0, .slice none 0 0], []⟩ 8 (by kernel_rfl) (by kernel_rfl) (by kernel_rfl) (by kernel_rfl)) ?_
  intro W base args ds gs before hval0 hW hcnd hsz0 _
  have hval : ∀ (j : Nat) t v, Try.f6.params[j]? = some t → args[j]? = some v → Value.okWide Try.prog W .any base t v := hval0
  have hW' := hW
  have hlt := hW.lt
  obtain ⟨p, q, hA0, hV, rfl, hfz, hnd⟩ := hW
  have hA : DataW.TrodAll enc Try.prog W 0 (fun _ => true) true Try.f6.params.toList args.toList ds p := hA0
  have hsz : (DataW.weightsEach Try.prog (Try.f6.params.toList ++ Rows.journalBackSpec.plain.varTypes Try.prog) (ds ++ gs)).all (· ≤ reachBytes) = true := hsz0
  rw [Try.params6] at hA hval hsz
  obtain ⟨v0, vs0, d0, ds0, p0, q0, hargs, rfl, rfl, h0, r0⟩ := trodAll_cons hA
  obtain ⟨v1, vs1, d1, ds1, p1, q1, rfl, rfl, rfl, h1, r1⟩ := trodAll_cons r0
  obtain ⟨v2, vs2, d2, ds2, p2, q2, rfl, rfl, rfl, h2, r2⟩ := trodAll_cons r1
  obtain ⟨rfl, rfl, rfl⟩ := trodAll_nil r2
  obtain rfl : args = #[v0, v1, v2] := by cases args; simp_all
  obtain ⟨rfl, rfl⟩ := trodVars_none hV
  obtain ⟨fuel0, hf0⟩ := h0
  obtain ⟨fuel1, hf1⟩ := h1
  obtain ⟨fuel2, hf2⟩ := h2
  obtain ⟨a0, n0, c0, z0, hcs0, hs0, hl0, hb0⟩ := open_rows Try.underlying40 (by decide) (by kernel_rfl) evCells hf0
  obtain ⟨a1, n1, c1, z1, hcs1, hs1, hl1, hb1⟩ := open_rows Try.underlying40 (by decide) (by kernel_rfl) evCells hf1
  obtain ⟨a2, n2, c2, z2, hcs2, hs2, hl2, hb2⟩ := open_rows Try.underlying40 (by decide) (by kernel_rfl) evCells hf2
  obtain ⟨s00, s01, s02, rfl⟩ := okWide_slice Try.underlying40 (hval 0 40 v0 rfl rfl)
  obtain ⟨s10, s11, s12, rfl⟩ := okWide_slice Try.underlying40 (hval 1 40 v1 rfl rfl)
  obtain ⟨s20, s21, s22, rfl⟩ := okWide_slice Try.underlying40 (hval 2 40 v2 rfl rfl)
  have y0 := sized_len hsz (j := 0) rfl rfl Try.underlying40 hf0 hcs0 (b := 48) (by kernel_rfl)
  have y1 := sized_len hsz (j := 1) rfl rfl Try.underlying40 hf1 hcs1 (b := 48) (by kernel_rfl)
  have y2 := sized_len hsz (j := 2) rfl rfl Try.underlying40 hf2 hcs2 (b := 48) (by kernel_rfl)
  simp only [Value.cells, List.cons.injEq, Value.slice.injEq, and_true] at hcs0 hcs1 hcs2
  obtain ⟨rfl, rfl, rfl⟩ := hcs0
  obtain ⟨rfl, rfl, rfl⟩ := hcs1
  obtain ⟨rfl, rfl, rfl⟩ := hcs2
  obtain ⟨e0, he0, _⟩ := evs_of _ _ hl0
  obtain ⟨e1, he1, _⟩ := evs_of _ _ hl1
  obtain ⟨e2, he2, _⟩ := evs_of _ _ hl2
  rw [he0] at hs0
  rw [he1] at hs1
  rw [he2] at hs2
  refine (walkJBack W s00 s10 s20 s01 s11 s21 s02 s12 s22 e0 e1 e2 hs0 hs1 hs2 y0 y1 y2).mono fun e W' ⟨he, hb⟩ => ?_
  subst he
  exact ⟨_, rfl, post_true (by kernel_rfl) rfl Try.underlying4 (by kernel_rfl) rfl rfl hW' hb⟩

theorem proved : Rows.JournalBackSaid :=
  OpenClaim.holds_of_wide 6 Try.f6 rfl rfl rfl rfl rfl rfl rfl ⟨rfl, rfl, rfl, rfl, rfl⟩ rfl rfl rfl rfl rfl (by kernel_rfl) Try.func6 (by kernel_rfl)
    (of_decide_eq_true (by kernel_rfl)) (by unfold Func.isWrapper; first | (rw [if_pos (by decide +kernel)]; kernel_rfl) | (rw [if_neg (by decide +kernel)]; exact ⟨rfl, rfl⟩))
    (fun os started H enc _ => lifted os started H enc)
end LawJBack
end Go.Proofs.Ytpbocficffbcbaa
