import Derived.Test.YtpbocficffbcbaaOpen
namespace Go.Proofs.Ytpbocficffbcbaa
open Go Go.RowKit Go.ChangeShapes Go.WideShapes

def U8 (z : Int) : Prop := 0 ≤ z ∧ z < 256
/-- A reading of type t says that its k cells are bytes. -/
def ByteCells (P : Program) (t : TypeId) (k : Nat) : Prop :=
  ∀ (H : Type) (enc : TypeId × Value → H) (w : World) (base : Nat) (spare : Nat → Bool) (held : Bool) (fuel : Nat) (cs : List Value) (x : DataW H × List MemPlace),
    DataW.trod enc P w base spare held fuel t cs = some x → ∃ zs : List Int, cs = zs.map (Value.int .u8) ∧ zs.length = k ∧ ∀ z ∈ zs, U8 z
theorem byteCells {P : Program} {t : TypeId} (ht : P.underlying t = some (.int .u8)) : ByteCells P t 1 := by
  intro H enc w base spare held fuel cs x h
  obtain ⟨n, rfl, _, hw⟩ := DataW.trod_int ht h
  refine ⟨[n], rfl, rfl, ?_⟩
  have := bounds_u8 hw
  simp [U8]
  omega
/-- A slice whose elements are k bytes each. -/
theorem open_rowsB {P : Program} {t e : TypeId} {k : Nat} (ht : P.underlying t = some (.slice e)) (hk : 0 < k) (hce : P.cellsOf e = k) (he : ByteCells P e k) {H : Type} {enc : TypeId × Value → H} {w : World} {base : Nat} {spare : Nat → Bool} {held : Bool} {fuel : Nat} {cs : List Value} {x : DataW H × List MemPlace}
    (h : DataW.trod enc P w base spare held fuel t cs = some x) :
    ∃ a n cap zs, cs = [.slice a n cap] ∧ SlAt w k a n cap (List.map (Value.int .u8) zs) ∧ zs.length = n * k ∧ ∀ z ∈ zs, U8 z := by
  rcases DataW.trod_slice ht h with ⟨rfl, rfl⟩ | ⟨a, len, cap, elems, rest, n, _, rfl, rfl, hb, hl, hm, hlen, hel, _, _⟩
  · exact ⟨none, 0, 0, [], rfl, SlAt.null _ _, by simp, by simp⟩
  have each : ∀ i, i < len → ∃ zs : List Int, w.cells? base (a.add (i * k)) k = some (zs.map (Value.int .u8)) ∧ zs.length = k ∧ ∀ z ∈ zs, U8 z := by
    intro i hi
    have h1 := hel i hi
    rw [hce, List.getElem?_eq_getElem (by omega), Option.bind_eq_some_iff] at h1
    obtain ⟨cs', hcs, hy⟩ := h1
    obtain ⟨zs, rfl, hz, hb⟩ := he _ _ _ _ _ _ _ _ _ hy
    exact ⟨zs, hcs, hz, hb⟩
  have cell : ∀ j, j < len * k → ∃ z, w.cell? (a.add j) = some (.int .u8 z) ∧ U8 z := by
    intro j hj
    have hi : j / k < len := Nat.div_lt_of_lt_mul (by rwa [Nat.mul_comm])
    obtain ⟨zs, hcs, hz, hb⟩ := each _ hi
    have hr : j % k < k := Nat.mod_lt _ hk
    have := (World.cells?_some hcs).2.2 (j % k) hr
    rw [Deep.add_add, show j / k * k + j % k = j by rw [Nat.mul_comm]; exact Nat.div_add_mod j k, List.getElem?_map, List.getElem?_eq_getElem (by omega)] at this
    exact ⟨_, this, hb _ (List.getElem_mem _)⟩
  let zs := (List.range (len * k)).map fun j => match w.cell? (a.add j) with | some (.int .u8 z) => z | _ => 0
  have hzs : ∀ j, j < len * k → ∃ z, zs[j]? = some z ∧ w.cell? (a.add j) = some (.int .u8 z) ∧ U8 z := by
    intro j hj
    obtain ⟨z, hc, hi⟩ := cell j hj
    refine ⟨z, ?_, hc, hi⟩
    simp only [zs, List.getElem?_map, List.getElem?_range hj, Option.map_some, hc]
  have hzl : zs.length = len * k := by simp [zs]
  refine ⟨some a, len, cap, zs, rfl, ⟨by simpa using hzl, hl, hm, by simp, by simp [Value.oneCell'], fun ad he hn => ?_⟩, hzl, fun z hz => ?_⟩
  · obtain rfl := Option.some.inj he
    have hpos : 0 < len * k := Nat.mul_pos hn hk
    obtain ⟨z0, _, h0, _⟩ := hzs 0 hpos
    have hsp : a.spot = none := by
      cases hs : a.spot with
      | none => rfl
      | some s => simp [Addr.add, World.cell?, hs] at h0; split at h0 <;> simp at h0
    refine ⟨hsp, World.block_lt_of_cell? w (a.add 0) h0 |> (by simpa [block_add] using ·), fun j u hu => ?_⟩
    have hj : j < len * k := by
      have := (List.getElem?_eq_some_iff.1 hu).1
      simpa [hzl] using this
    obtain ⟨z, hz, hc, _⟩ := hzs j hj
    rw [List.getElem?_map, hz] at hu
    simp only [Option.map_some, Option.some.injEq] at hu
    subst hu
    obtain ⟨b, off, sp⟩ := a
    simp only at hsp
    subst hsp
    rwa [Addr.add_lit] at hc
  · obtain ⟨j, hj⟩ := List.getElem?_of_mem hz
    have hj' : j < len * k := by
      have := (List.getElem?_eq_some_iff.1 hj).1
      omega
    obtain ⟨z', hz', _, hi⟩ := hzs j hj'
    rw [hj] at hz'
    obtain rfl := Option.some.inj hz'
    exact hi
end Go.Proofs.Ytpbocficffbcbaa
