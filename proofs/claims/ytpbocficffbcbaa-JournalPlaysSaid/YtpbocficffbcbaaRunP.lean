/-
  Run, in plain lists: the state behind events, how many were run, the error.
-/
import Derived.Test.YtpbocficffbcbaaRefAll
namespace Go.Proofs.Ytpbocficffbcbaa
open Go Go.RowKit
set_option linter.unusedVariables false

def run (s : St) : List Ev → St × Int × Int
  | [] => (s, 0, 0)
  | e :: t => if doN s e = 0 then ((run (doS s e) t).1, (run (doS s e) t).2.1 + 1, (run (doS s e) t).2.2) else (st0, 0, doN s e)
/-- The first i events were run; the state is cur. -/
def RunIs (s : St) (l : List Ev) (i : Nat) (cur : St) : Prop :=
  run s l = ((run cur (l.drop i)).1, (run cur (l.drop i)).2.1 + i, (run cur (l.drop i)).2.2)
theorem RunIs.zero (s : St) (l : List Ev) : RunIs s l 0 s := by simp [RunIs]
theorem RunIs.step {s : St} {l : List Ev} {i : Nat} {cur : St} {e : Ev} (h : RunIs s l i cur) (he : l[i]? = some e) (hd : doN cur e = 0) : RunIs s l (i + 1) (doS cur e) := by
  obtain ⟨hk, rfl⟩ := List.getElem?_eq_some_iff.1 he
  unfold RunIs at h ⊢
  rw [h, List.drop_eq_getElem_cons hk]
  simp only [run, hd, if_true]
  ext <;> simp
  omega
theorem RunIs.stop {s : St} {l : List Ev} {i : Nat} {cur : St} {e : Ev} (h : RunIs s l i cur) (he : l[i]? = some e) (hd : doN cur e ≠ 0) : run s l = (st0, (i : Int), doN cur e) := by
  obtain ⟨hk, rfl⟩ := List.getElem?_eq_some_iff.1 he
  unfold RunIs at h
  rw [h, List.drop_eq_getElem_cons hk]
  simp [run, hd]
theorem RunIs.fin {s : St} {l : List Ev} {i : Nat} {cur : St} (h : RunIs s l i cur) (hi : l.length ≤ i) : run s l = (cur, (i : Int), 0) := by
  unfold RunIs at h
  rw [h, List.drop_of_length_le hi]
  simp [run]
theorem run_ok {s : St} (ok : StOk s) (l : List Ev) : StOk (run s l).1 := by
  induction l generalizing s with
  | nil => exact ok
  | cons e t ih =>
    simp only [run]
    split
    · rename_i h
      exact ih (doS_ok ok h)
    · exact st0_ok

theorem results_cell_slots {P : Program} {fn : Func} {p q r : Tmp} {ty : TypeId} (h : fn.results = #[.cell p ty, .tmp q, .tmp r]) (tmps : Array Value) (w : World) (g : Nat) (t : TypeId) (cs : Array Value) (fr : Nat × Nat) (d : TypeDesc)
    (hp : tmps.getD p undef = .pointer (some ⟨g, 0, none⟩)) (hg : w.heap[g]? = some (.cells cs t fr))
    (hu : P.underlying ty = some d) (hd : (match d with | .struct _ | .array _ _ => true | _ => false) = true) (hi : (P.info? ty).map (·.size) = some cs.size) :
    (results fn tmps).run P w = .ok (.tuple #[.agg cs, tmps.getD q undef, tmps.getD r undef]) w := by
  have hp' : tmps[p]?.getD undef = .pointer (some ⟨g, 0, none⟩) := by simpa using hp
  simp [results, h, hp', asAddr, run_loadVar_row w g t ty cs fr d hg hu hd hi]

/-- Behind Run: f makes the error's value. -/
def RunTo (w : World) (f : Int → Value) (r : St × Int × Int) (x : Ending) (w' : World) : Prop :=
  ∃ cs, x = .returned (.tuple #[.agg cs, .int .i64 r.2.1, f r.2.2]) ∧ StO w.heap.size w' cs r.1 ∧ Below w.heap.size w w'

theorem StAt.ownStored {B G Z : Nat} {w w' : World} {s : St} {cs : Array Value} (h : StAt w B G s cs) (k : Upd (fun k => k = Z) w w') (hZ : Z < B) : StO B w' cs s :=
  h.own.upd k (fun i a c hi he ad hd hb => by have := h.own.fresh i a c hi he ad hd; change _ = _ at hb; omega)
theorem sizeEv (e : Ev) : (Try.prog.info? 64).map (·.size) = some (evA e).size := by
  have h := congrArg (Option.map (fun p => p.2.1)) Try.infoEv
  rw [Option.map_map] at h
  exact h
theorem StAt.mk13 {B0 B : Nat} {w1 w2 w3 : World} {c : Array Value} {s : St} (h : StO B0 w1 c s) (hB : B ≤ B0) (k : Below w1.heap.size w1 w2) {PU : Nat} (hobj : w3.heap[PU]? = some (.cells c 79 (0, 0))) (hupd : Upd (fun k => k = PU) w2 w3) (hp : PU < B0 ∨ w1.heap.size ≤ PU) : StAt w3 B PU s c := by
  have key : ∀ i a c', i < 12 → c[i]? = some (.slice a (lenOf s i) c') → ∀ ad, a = some ad → ad.block ≠ PU := fun i a c' hi he ad hd => by
    have h1 := h.fresh i a c' hi he ad hd
    have h2 := h.lt i a c' hi he ad hd
    omega
  exact ⟨hobj, ((h.all k).upd hupd (fun i a c' hi he ad hd hk => key i a c' hi he ad hd hk)).mono hB, key⟩
end Go.Proofs.Ytpbocficffbcbaa
