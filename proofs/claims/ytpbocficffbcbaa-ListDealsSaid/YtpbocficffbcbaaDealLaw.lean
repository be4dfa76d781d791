import Derived.Test.YtpbocficffbcbaaListIdx
namespace Go.Proofs.Ytpbocficffbcbaa
open Go Go.RowKit
set_option linter.unusedVariables false

/-! ### an order: its numbers, sorted, are 0, 1, .. -/
def srt (l : List Int) : List Int := l.mergeSort fun x y => decide (x ≤ y)
def rng (n : Nat) : List Int := (List.range n).map (fun (i : Nat) => (i : Int))
theorem rng_len (n : Nat) : (rng n).length = n := by simp [rng]
theorem rng_get (n i : Nat) (h : i < n) : (rng n)[i]? = some (i : Int) := by simp [rng, h]
theorem rng_mem (n : Nat) (x : Int) : x ∈ rng n ↔ 0 ≤ x ∧ x < n := by
  simp only [rng, List.mem_map, List.mem_range]
  constructor
  · rintro ⟨i, hi, rfl⟩
    omega
  · rintro ⟨h0, h1⟩
    exact ⟨x.toNat, by omega, by omega⟩
theorem srt_perm (l : List Int) : (srt l).Perm l := List.mergeSort_perm l _
theorem srt_len (l : List Int) : (srt l).length = l.length := (srt_perm l).length_eq
theorem srt_pw (l : List Int) : List.Pairwise (fun a b : Int => a ≤ b) (srt l) := by
  have := List.pairwise_mergeSort (le := fun x y : Int => decide (x ≤ y)) (fun a b c h1 h2 => by simp at *; omega) (fun a b => by simp; omega) l
  simpa [srt] using this
theorem rng_pw (n : Nat) : List.Pairwise (fun a b : Int => a ≤ b) (rng n) := by
  unfold rng
  rw [List.pairwise_map]
  exact List.pairwise_lt_range.imp (fun h => by omega)
theorem rng_nodup (n : Nat) : (rng n).Nodup := by
  unfold rng List.Nodup
  rw [List.pairwise_map]
  exact List.pairwise_lt_range.imp (fun h => by omega)
theorem perm_of_sub : ∀ (a b : List Int), a.Nodup → (∀ x ∈ a, x ∈ b) → b.length = a.length → b.Perm a
  | [], b, _, _, hl => by
    obtain rfl := List.eq_nil_of_length_eq_zero hl
    exact List.Perm.refl _
  | x :: a, b, hn, hs, hl => by
    have hx : x ∈ b := hs x (by simp)
    have hp := List.perm_cons_erase hx
    have hlen : (b.erase x).length = a.length := by
      have := hp.length_eq
      simp at this hl
      omega
    have hn' := List.nodup_cons.1 hn
    refine hp.trans (List.Perm.cons x (perm_of_sub a (b.erase x) hn'.2 (fun y hy => ?_) hlen))
    have hyb := hs y (by simp [hy])
    have hyx : y ≠ x := fun e => hn'.1 (e ▸ hy)
    rw [List.mem_erase_of_ne hyx]
    exact hyb
theorem srt_rng_of_perm {o : List Int} {n : Nat} (h : o.Perm (rng n)) : srt o = rng n :=
  List.Perm.eq_of_pairwise (le := fun a b : Int => a ≤ b) (fun a b _ _ h1 h2 => by omega) (srt_pw o) (rng_pw n) ((srt_perm o).trans h)
theorem deal_iff (o : List Int) (n : Nat) : srt o = rng n ↔ o.length = n ∧ ∀ i, i < n → (i : Int) ∈ o := by
  constructor
  · intro h
    have hp : o.Perm (rng n) := h ▸ (srt_perm o).symm
    exact ⟨by rw [hp.length_eq, rng_len], fun i hi => hp.mem_iff.2 ((rng_mem n i).2 (by omega))⟩
  · rintro ⟨hl, hi⟩
    refine srt_rng_of_perm (perm_of_sub (rng n) o (rng_nodup n) (fun x hx => ?_) (by rw [rng_len]; exact hl))
    obtain ⟨h0, h1⟩ := (rng_mem n x).1 hx
    have := hi x.toNat (by omega)
    rwa [show (x.toNat : Int) = x by omega] at this
theorem deal_in {o : List Int} {n : Nat} (h : srt o = rng n) : ∀ x ∈ o, 0 ≤ x ∧ x < n := fun x hx => (rng_mem n x).1 (h ▸ (srt_perm o).mem_iff.2 hx)
theorem rng_of_get {s : List Int} (h : ∀ (i : Nat) (x : Int), s[i]? = some x → x = i) : s = rng s.length := by
  apply List.ext_getElem?
  intro i
  rcases Nat.lt_or_ge i s.length with hlt | hge
  · rw [rng_get _ _ hlt, List.getElem?_eq_getElem hlt, h i _ (List.getElem?_eq_getElem hlt)]
  · rw [List.getElem?_eq_none hge, List.getElem?_eq_none (by rw [rng_len]; exact hge)]
/-- A list in an order. -/
def dealOut (l o : List Int) : List Int := o.map (fun i => l.getD i.toNat 0)
end Go.Proofs.Ytpbocficffbcbaa
