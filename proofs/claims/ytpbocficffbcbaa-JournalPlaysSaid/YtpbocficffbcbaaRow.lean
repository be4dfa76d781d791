/-
  Whole structs by value, out of and into blocks; their cells are whatever. Holds over any program.
-/
import Derived.Test.YtpbocficffbcbaaBase
import Derived.Laws.Rows
import Derived.Laws.Tables
namespace Go.Proofs.Ytpbocficffbcbaa
open Go Go.RowKit
set_option linter.unusedVariables false

theorem setRow_upd (w : World) (g : Nat) (cs : Array Value) : Upd (fun k => k = g) w (w.setRow g cs) :=
  ⟨rfl, rfl, rfl, by simp, fun k _ hk => setRow_other w g k cs hk⟩
theorem run_storeVar_upd {P : Program} (w : World) (g : Nat) (t ty : TypeId) (c c' : Array Value) (hg : w.heap[g]? = some (.cells c t (0, 0))) (hi : (P.info? ty).map (·.size) = some c'.size) (ho : c.size = c'.size) (h1 : c'.all (·.oneCell') = true) :
    ∃ w', (storeVar ty ⟨g, 0, none⟩ (.agg c')).run P w = .ok () w' ∧ w'.heap[g]? = some (.cells c' t (0, 0)) ∧ Upd (fun k => k = g) w w' :=
  ⟨_, run_storeVar_row w g t ty c c' hg hi ho h1, setRow_heap w g c c' t _ hg, setRow_upd w g c'⟩
/-- A whole struct stored: the world behind it under a name of its own. -/
theorem wp_store_whole {P : Program} {o : Oper} {a : Act} {w : World} {K : Act → World → Prop} {Q : Exit → Act → World → Prop} (ty : TypeId) (x v : Operand) (ho : o.op = .store ty x v)
    (g : Nat) (hx : a.eval x = .pointer (some ⟨g, 0, none⟩)) (t : TypeId) (c c' : Array Value) (hv : a.eval v = .agg c') (hg : w.heap[g]? = some (.cells c t (0, 0)))
    (hi : (P.info? ty).map (·.size) = some c'.size) (hc : c.size = c'.size) (h1 : c'.all (·.oneCell') = true)
    (h : ∀ w', w'.heap[g]? = some (.cells c' t (0, 0)) → Upd (fun k => k = g) w w' → K (a.put o.dst undef) w') : o.wp P a w K Q := by
  obtain ⟨w', hrun, h2, h3⟩ := run_storeVar_upd (P := P) w g t ty c c' hg hi hc h1
  unfold Oper.wp execOp
  simp only [ho, hx, hv, Instr.storeAt, Instr.sureAddr, Sem.run_bind, Sem.run_pure, Result.andThen_ok, hrun]
  exact h w' h2 h3
theorem wpList_store_whole {P : Program} {ops : Array Oper} {rest : List Oper} {o : Oper} {a : Act} {w : World} {Q : Exit → Act → World → Prop} (hgd : o.guard = none) (ty : TypeId) (x v : Operand) (ho : o.op = .store ty x v)
    (g : Nat) (hx : a.eval x = .pointer (some ⟨g, 0, none⟩)) (t : TypeId) (c c' : Array Value) (hv : a.eval v = .agg c') (hg : w.heap[g]? = some (.cells c t (0, 0)))
    (hi : (P.info? ty).map (·.size) = some c'.size) (hc : c.size = c'.size) (h1 : c'.all (·.oneCell') = true)
    (h : ∀ w', w'.heap[g]? = some (.cells c' t (0, 0)) → Upd (fun k => k = g) w w' → wpList P ops Q rest (a.put o.dst undef) w') : wpList P ops Q (o :: rest) a w :=
  wpList_plain hgd fun _ hK => wp_store_whole ty x v ho g hx t c c' hv hg hi hc h1 fun w' h2 h3 => hK _ _ (h w' h2 h3)
theorem wpList_load_whole {P : Program} {ops : Array Oper} {rest : List Oper} {o : Oper} {a : Act} {w : World} {Q : Exit → Act → World → Prop} (hgd : o.guard = none) (ty : TypeId) (x : Operand) (ho : o.op = .load ty x)
    (g : Nat) (hx : a.eval x = .pointer (some ⟨g, 0, none⟩)) (t : TypeId) (cs : Array Value) (fr : Nat × Nat) (hg : w.heap[g]? = some (.cells cs t fr)) (d : TypeDesc)
    (hu : P.underlying ty = some d) (hd : (match d with | .struct _ | .array _ _ => true | _ => false) = true) (hi : (P.info? ty).map (·.size) = some cs.size)
    (h : wpList P ops Q rest (a.put o.dst (.agg cs)) w) : wpList P ops Q (o :: rest) a w :=
  wpList_load_row hgd ty x ho g hx t cs fr d hg hu hd hi h
end Go.Proofs.Ytpbocficffbcbaa
