/-
  The form's own reach, of slices that came in.
-/
import Derived.Test.YtpbocficffbcbaaEvOpen
import Derived.SizedLaws
namespace Go.Proofs.Ytpbocficffbcbaa
open Go Go.RowKit Go.ChangeShapes Go.WideShapes
set_option linter.unusedVariables false
theorem len_of_trod {H : Type} {enc : TypeId × Value → H} {P : Program} {t e : TypeId} (ht : P.underlying t = some (.slice e)) {w : World} {base : Nat} {spare : Nat → Bool} {held : Bool} {fuel : Nat} {cs : List Value} {x : DataW H × List MemPlace}
    (h : DataW.trod enc P w base spare held fuel t cs = some x) {a : Option Addr} {n cap : Nat} (hcs : cs = [.slice a n cap]) : n = 0 ∨ ∃ elems rest : List (DataW H), x.1 = .slice elems rest ∧ elems.length = n := by
  rcases DataW.trod_slice ht h with ⟨rfl, rfl⟩ | ⟨ad, len, cap', elems, rest, m, _, rfl, rfl, hb, hl, hm, hlen, hel, _, _⟩
  · simp at hcs
    exact .inl hcs.2.1.symm
  · simp at hcs
    obtain ⟨_, rfl, _⟩ := hcs
    exact .inr ⟨_, _, rfl, by simpa using hlen⟩
theorem sized_len {H : Type} {enc : TypeId × Value → H} {P : Program} {t e : TypeId} {ts : List TypeId} {ds : List (DataW H)} (hsz : (DataW.weightsEach P ts ds).all (· ≤ reachBytes) = true) {j : Nat} (hj : ts[j]? = some t) {d : DataW H} (hd : ds[j]? = some d)
    (ht : P.underlying t = some (.slice e)) {w : World} {base : Nat} {spare : Nat → Bool} {held : Bool} {fuel : Nat} {cs : List Value} {p : List MemPlace}
    (h : DataW.trod enc P w base spare held fuel t cs = some (d, p)) {a : Option Addr} {n cap : Nat} (hcs : cs = [.slice a n cap]) {b : Nat} (hb : P.bytesOf e = b) : n * b ≤ 140737488351232 := by
  rcases len_of_trod ht h hcs with rfl | ⟨elems, rest, hx, hl⟩
  · simp
  · simp only at hx
    subst hx
    have := sized_slice hsz (j := j) (t := t) (e := e) hj hd ht
    rw [hb] at this
    have h2 : n * b ≤ (elems.length + rest.length) * b := Nat.mul_le_mul_right _ (by omega)
    exact Nat.le_trans h2 this
end Go.Proofs.Ytpbocficffbcbaa
