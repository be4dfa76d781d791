import Derived.Test.YtpbocficffbcbaaDoAll
import Derived.Test.YtpbocficffbcbaaRefB
import Derived.Test.YtpbocficffbcbaaRefO
import Derived.Test.YtpbocficffbcbaaRefU
import Derived.Test.YtpbocficffbcbaaRefV
import Derived.Test.YtpbocficffbcbaaAlive12
namespace Go.Proofs.Ytpbocficffbcbaa
open Go Go.RowKit
set_option linter.unusedVariables false

theorem refApply (w : World) (cs : Array Value) (s : St) (h : StC w cs s) (ok : StOk s) (fits : Fits s 100000) (e : Ev) :
    Calls Try.prog 58 #[.agg cs, evV e] w (RefTo w (doS s e) (doN s e)) := by
  by_cases hc : chk e = 0
  rotate_left
  · exact refBad w cs _ h.size e _ (by simp [doN, hc]) (by simp [doN, hc])
  obtain ⟨h0, h6, _, _⟩ := chk_zero hc
  by_cases hk0 : e.k = 0
  · by_cases hf : 400 ≤ s.o.length
    · exact refMakeFull w cs s _ h ok fits e hc _ hk0 hf (by simp [doN, hc, hk0, hf])
    · exact refMake w cs s _ h ok fits e hc _ hk0 (by omega) (by simp [doN, hc, hk0, hf]) (by simp [doS, hk0])
  by_cases hk5 : e.k = 5
  · exact refUnmake w cs s _ h ok fits e hc _ hk5 (by simp [doN, hc, hk5]) (by simp [doS, hk5])
  by_cases hk1 : e.k = 1
  · obtain ⟨ha, hb, hb', hd, hd', hcc, hee⟩ := chk_move hc hk1
    by_cases hl : s.o.length ≤ e.a.toNat
    · exact refMoveNone w cs s _ h ok fits e hc _ e.a.toNat hk1 (by omega) hl (by simp [doN, hc, hk1]; omega)
    · exact refMove w cs s _ h ok fits e hc _ e.a.toNat e.b.toNat e.c.toNat e.d.toNat e.e.toNat (by omega) (by omega) hk1 (by omega) (by omega) (by omega) (by omega) (by omega) (by omega) (by
        have : ¬ (s.o.length : Int) ≤ e.a := by omega
        simp [doN, hc, hk1, this]) (by simp [doS, hk1])
  by_cases hk2 : e.k = 2
  · obtain ⟨ha, hb, hb', _⟩ := chk_obj hc hk2
    by_cases hl : s.o.length ≤ e.a.toNat
    · exact refObjNone w cs s _ h ok fits e hc _ e.a.toNat hk2 (by omega) hl (by
        have : (s.o.length : Int) ≤ e.a := by omega
        simp [doN, hc, hk2, this])
    · exact refObj w cs s _ h ok fits e hc _ e.a.toNat e.b.toNat (by omega) hk2 (by omega) (by omega) (by omega) (by omega) (by omega) (by
        have : ¬ (s.o.length : Int) ≤ e.a := by omega
        simp [doN, hc, hk2, this, obj]) (by simp [doS, hk2, obS, obj])
  by_cases hk3 : e.k = 3
  · obtain ⟨ha, ha', hb, hb', _⟩ := chk_play hc hk3
    exact refPlay w cs s _ h ok fits e hc _ e.a.toNat e.b.toNat (by omega) (by omega) hk3 (by omega) (by omega) (by simp [doN, hc, hk3, numAt]) (by simp [doS, hk3, numAt])
  have hk4 : e.k = 4 := by omega
  obtain ⟨ha, hb, hb', _⟩ := chk_game hc hk4
  exact refGame w cs s _ h ok fits e hc _ e.b.toNat (by omega) hk4 ha (by omega) (by simp [doN, hc, hk4, numAt]) (by simp [doS, hk4, numAt])

/-! ### a state in a block of its own; whole states loaded under a guard -/
theorem stored_below {W wc : World} {o : Obj} (h : Upd (fun k => k = W.heap.size) (W.alloc o) wc) : Below W.heap.size W wc :=
  ((Below.refl _ W).alloc (Nat.le_refl _) _).trans (h.below (by simp) (fun k hk hb => by change _ = _ at hb; omega))
theorem wpList_load_wholeG {P : Program} {ops : Array Oper} {rest : List Oper} {o : Oper} {a : Act} {w : World} {Q : Exit → Act → World → Prop} (hw : Region.wanted o (yielded ops a.tmps) = true) (ty : TypeId) (x : Operand) (ho : o.op = .load ty x)
    (g : Nat) (hx : a.eval x = .pointer (some ⟨g, 0, none⟩)) (t : TypeId) (cs : Array Value) (fr : Nat × Nat) (hg : w.heap[g]? = some (.cells cs t fr)) (d : TypeDesc)
    (hu : P.underlying ty = some d) (hd : (match d with | .struct _ | .array _ _ => true | _ => false) = true) (hi : (P.info? ty).map (·.size) = some cs.size)
    (h : wpList P ops Q rest (a.put o.dst (.agg cs)) w) : wpList P ops Q (o :: rest) a w :=
  wpList_step fun K hK => by
    rw [if_pos hw]
    unfold Oper.wp
    rw [exec_load_whole ty x ho g hx t cs fr d hg hu hd hi]
    exact hK _ _ h
end Go.Proofs.Ytpbocficffbcbaa
