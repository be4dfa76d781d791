/-
  Arguments read as data, opened: types whose cells are ints; slices of such. Holds over any program.
-/
import Derived.Test.YtpbocficffbcbaaBase
import Derived.ProofKit
import Derived.OpenShut
import Derived.Deep.Slices
namespace Go.Proofs.Ytpbocficffbcbaa
open Go Go.RowKit Go.ChangeShapes Go.WideShapes

def I64 (z : Int) : Prop := -9223372036854775808 ≤ z ∧ z ≤ 9223372036854775807

/-- A reading of type t says that its k cells are ints. -/
def IntCells (P : Program) (t : TypeId) (k : Nat) : Prop :=
  ∀ (H : Type) (enc : TypeId × Value → H) (w : World) (base : Nat) (spare : Nat → Bool) (held : Bool) (fuel : Nat) (cs : List Value) (x : DataW H × List MemPlace),
    DataW.trod enc P w base spare held fuel t cs = some x → ∃ zs : List Int, cs = zs.map (Value.int .i64) ∧ zs.length = k ∧ ∀ z ∈ zs, I64 z

theorem intCells_int {P : Program} {t : TypeId} (ht : P.underlying t = some (.int .i64)) : IntCells P t 1 := by
  intro H enc w base spare held fuel cs x h
  obtain ⟨n, rfl, _, hw⟩ := DataW.trod_int ht h
  exact ⟨[n], rfl, rfl, by simpa [I64] using bounds_i64 hw⟩

theorem list_chunks {k : Nat} (hk : 0 < k) : ∀ (n : Nat) (cs : List Value), cs.length = n * k → (∀ i, i < n → ∃ zs : List Int, (cs.drop (i * k)).take k = zs.map (Value.int .i64) ∧ zs.length = k ∧ ∀ z ∈ zs, I64 z) →
    ∃ zs : List Int, cs = zs.map (Value.int .i64) ∧ zs.length = n * k ∧ ∀ z ∈ zs, I64 z
  | 0, cs, hl, _ => ⟨[], by simpa using hl, by simp, by simp⟩
  | n + 1, cs, hl, h => by
    obtain ⟨z0, e0, l0, b0⟩ := h 0 (by omega)
    obtain ⟨zs, e1, l1, b1⟩ := list_chunks hk n (cs.drop k) (by rw [List.length_drop, hl, Nat.add_mul]; omega) (fun i hi => by
      obtain ⟨z, e, l, b⟩ := h (i + 1) (by omega)
      refine ⟨z, ?_, l, b⟩
      rw [List.drop_drop, ← e, show k + i * k = (i + 1) * k by rw [Nat.add_mul]; omega])
    refine ⟨z0 ++ zs, ?_, by rw [List.length_append, l0, l1, Nat.add_mul]; omega, fun z hz => (List.mem_append.1 hz).elim (b0 z) (b1 z)⟩
    rw [List.map_append, ← e0, ← e1]
    simp

theorem intCells_struct {P : Program} {t : TypeId} {fs : Array Field} (ht : P.underlying t = some (.struct fs)) (hc : P.cellsOf t = fs.size)
    (hf : ∀ (i : Nat) (f : Field), fs[i]? = some f → f.offset = i ∧ P.underlying f.type = some (.int .i64) ∧ P.cellsOf f.type = 1) : IntCells P t fs.size := by
  intro H enc w base spare held fuel cs x h
  obtain ⟨xs, n, _, _, hl, hxl, hx⟩ := DataW.trod_struct ht h
  obtain ⟨zs, e, l, b⟩ := list_chunks (k := 1) (by omega) fs.size cs (by rw [hl, hc]; omega) (fun i hi => by
    have hfi : fs[i]? = some fs[i] := Array.getElem?_eq_getElem hi
    obtain ⟨ho, hu, h1⟩ := hf i _ hfi
    have := hx i _ hfi
    rw [ho, h1, List.getElem?_eq_getElem (by omega)] at this
    obtain ⟨z, e, _, hw⟩ := DataW.trod_int hu this
    rw [Nat.mul_one]
    exact ⟨[z], e, rfl, by simpa [I64] using bounds_i64 hw⟩)
  exact ⟨zs, e, by simpa using l, b⟩

theorem intCells_array {P : Program} {t e : TypeId} {n k : Nat} (ht : P.underlying t = some (.array n e)) (hk : 0 < k) (he : IntCells P e k) (hce : P.cellsOf e = k) (hc : P.cellsOf t = n * k) : IntCells P t (n * k) := by
  intro H enc w base spare held fuel cs x h
  obtain ⟨xs, m, _, _, hl, hxl, hx⟩ := DataW.trod_array ht h
  refine list_chunks hk n cs (by rw [hl, hc]) (fun i hi => ?_)
  have := hx i hi
  rw [hce, List.getElem?_eq_getElem (by omega)] at this
  exact he _ _ _ _ _ _ _ _ _ this

/-- A slice whose elements are k ints each. -/
theorem open_rows {P : Program} {t e : TypeId} {k : Nat} (ht : P.underlying t = some (.slice e)) (hk : 0 < k) (hce : P.cellsOf e = k) (he : IntCells P e k) {H : Type} {enc : TypeId × Value → H} {w : World} {base : Nat} {spare : Nat → Bool} {held : Bool} {fuel : Nat} {cs : List Value} {x : DataW H × List MemPlace}
    (h : DataW.trod enc P w base spare held fuel t cs = some x) :
    ∃ a n cap zs, cs = [.slice a n cap] ∧ SlAt w k a n cap (List.map (Value.int .i64) zs) ∧ zs.length = n * k ∧ ∀ z ∈ zs, I64 z := by
  rcases DataW.trod_slice ht h with ⟨rfl, rfl⟩ | ⟨a, len, cap, elems, rest, n, _, rfl, rfl, hb, hl, hm, hlen, hel, _, _⟩
  · exact ⟨none, 0, 0, [], rfl, SlAt.null _ _, by simp, by simp⟩
  have each : ∀ i, i < len → ∃ zs : List Int, w.cells? base (a.add (i * k)) k = some (zs.map (Value.int .i64)) ∧ zs.length = k ∧ ∀ z ∈ zs, I64 z := by
    intro i hi
    have h1 := hel i hi
    rw [hce, List.getElem?_eq_getElem (by omega), Option.bind_eq_some_iff] at h1
    obtain ⟨cs', hcs, hy⟩ := h1
    obtain ⟨zs, rfl, hz, hb⟩ := he _ _ _ _ _ _ _ _ _ hy
    exact ⟨zs, hcs, hz, hb⟩
  have cell : ∀ j, j < len * k → ∃ z, w.cell? (a.add j) = some (.int .i64 z) ∧ I64 z := by
    intro j hj
    have hi : j / k < len := Nat.div_lt_of_lt_mul (by rwa [Nat.mul_comm])
    obtain ⟨zs, hcs, hz, hb⟩ := each _ hi
    have hr : j % k < k := Nat.mod_lt _ hk
    have := (World.cells?_some hcs).2.2 (j % k) hr
    rw [Deep.add_add, show j / k * k + j % k = j by rw [Nat.mul_comm]; exact Nat.div_add_mod j k, List.getElem?_map, List.getElem?_eq_getElem (by omega)] at this
    exact ⟨_, this, hb _ (List.getElem_mem _)⟩
  let zs := (List.range (len * k)).map fun j => match w.cell? (a.add j) with | some (.int .i64 z) => z | _ => 0
  have hzs : ∀ j, j < len * k → ∃ z, zs[j]? = some z ∧ w.cell? (a.add j) = some (.int .i64 z) ∧ I64 z := by
    intro j hj
    obtain ⟨z, hc, hi⟩ := cell j hj
    refine ⟨z, ?_, hc, hi⟩
    simp only [zs, List.getElem?_map, List.getElem?_range hj, Option.map_some, hc]
  have hzl : zs.length = len * k := by simp [zs]
  refine ⟨some a, len, cap, zs, rfl, ⟨by simpa using hzl, hl, hm, by simp, by simp [Value.oneCell'], fun ad he hn => ?_⟩, hzl, fun z hz => ?_⟩
  · obtain rfl := Option.some.inj he
    have hpos : 0 < len * k := Nat.mul_pos hn hk
    obtain ⟨z0, _, h0, _⟩ := hzs 0 hpos
    have hsp : a.spot = none := by
      cases hs : a.spot with
      | none => rfl
      | some s => simp [Addr.add, World.cell?, hs] at h0; split at h0 <;> simp at h0
    refine ⟨hsp, World.block_lt_of_cell? w (a.add 0) h0 |> (by simpa [block_add] using ·), fun j u hu => ?_⟩
    have hj : j < len * k := by
      have := (List.getElem?_eq_some_iff.1 hu).1
      simpa [hzl] using this
    obtain ⟨z, hz, hc, _⟩ := hzs j hj
    rw [List.getElem?_map, hz] at hu
    simp only [Option.map_some, Option.some.injEq] at hu
    subst hu
    obtain ⟨b, off, sp⟩ := a
    simp only at hsp
    subst hsp
    rwa [Addr.add_lit] at hc
  · obtain ⟨j, hj⟩ := List.getElem?_of_mem hz
    have hj' : j < len * k := by
      have := (List.getElem?_eq_some_iff.1 hj).1
      omega
    obtain ⟨z', hz', _, hi⟩ := hzs j hj'
    rw [hj] at hz'
    obtain rfl := Option.some.inj hz'
    exact hi
end Go.Proofs.Ytpbocficffbcbaa
