import Derived.Test.YtpbocficffbcbaaEvs2
import Derived.Deep.RegionLaw
namespace Go.Proofs.Ytpbocficffbcbaa
open Go Go.RowKit
set_option linter.unusedVariables false
/-- append, at a step of a region that draws its order. -/
theorem step_append_row {P : Program} {w : World} {ops : Array Oper} {o : Oper} {a : Act} {K : Act → World → Prop} {Q : Exit → Act → World → Prop} {E : Prop} (hgd : o.guard = none) (s x : Operand) (t : TypeId)
    (ho : o.op = .call { callee := .builtin .append, args := #[s, x], argTypes := #[t, t] }) (e : TypeId) (z : Value) (size bytes : Nat) (ht : P.underlying t = some (.slice e))
    (hinf : (P.info? e).map (fun i => (i.zero, i.size, i.bytes)) = some (some z, size, bytes)) (hzs : z.cells.size = size) (hsz : 0 < size)
    {sa : Option Addr} {n scap : Nat} (hs : a.eval s = .slice sa n scap) {xa : Option Addr} {m c : Nat} (hx : a.eval x = .slice xa m c) {xs : List Value} (hr : RowAt w e size sa n scap xs) {news : List Value} (hxs : SlAt w size xa m c news)
    (h63 : n + m ≤ maxLen) (hbytes : (n + m) * bytes ≤ 140737488355328)
    (h : ∀ a' cap' w', RowAt w' e size a' (n + m) cap' (xs ++ news) → Upd (blk sa) w w' → (∀ ad, a' = some ad → sa = some ad ∨ w.heap.size ≤ ad.block) → (a' = none ↔ sa = none ∧ m = 0) → K (a.put o.dst (.slice a' (n + m) cap')) w') :
    if Region.wanted o (yielded ops a.tmps) = true then Oper.wp P o a w K Q else E := by
  have hw : Region.wanted o (yielded ops a.tmps) = true := by simp [Region.wanted, hgd]
  rw [if_pos hw]
  obtain ⟨a', cap', w', hrun, h1, h2, h3, h4⟩ := run_append_rs (P := P) w t o.type e z size bytes ht hinf hzs hsz sa n scap xs hr xa m c news hxs h63 hbytes
  unfold Oper.wp
  simp [execOp, ho, resolve, invoke, builtin, hs, hx, hrun, Result.andThen]
  exact h a' cap' w' h1 h2 h3 h4
end Go.Proofs.Ytpbocficffbcbaa
