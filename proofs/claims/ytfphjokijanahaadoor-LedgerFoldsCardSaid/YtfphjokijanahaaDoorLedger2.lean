import Derived.Test.YtfphjokijanahaaDoorLedger1
import Derived.BigRegion
namespace Go.Proofs.YtfphjokijanahaaDoor
open Go Go.RowKit
set_option linter.unusedVariables false

theorem Tryd.infoEntry : (Tryd.prog.info? 37).map (fun i => (i.zero, i.size, i.bytes)) = some (some (.agg #[.int .i64 0, .int .i64 0, .int .i64 0, .int .i64 0]), 4, 32) := by kernel_rfl

/-- A ledger in memory. -/
structure LedgerAt (w : World) (bl br : Nat) (es : List Ent) (ba : Option Addr) (cap : Nat) : Prop where
  obj : w.heap[bl]? = some (.cells #[.slice ba es.length cap, .map (some br), .int .i64 (worst es 0), .int .i64 (worst es 1)] 56 (0, 0))
  row : RowAt w 37 4 ba es.length cap (es.flatMap entC)
  mp : ∃ m, MapIs w br kcv icv m ∧ ∀ p k, look m (p, k) 0 = cntk es p k
  ne : ∀ ad, ba = some ad → ad.block ≠ bl ∧ ad.block ≠ br
  nbr : bl ≠ br
def own3 (bl br : Nat) (ba : Option Addr) (k : Nat) : Prop := k = bl ∨ k = br ∨ blk ba k
theorem LedgerAt.upd {w w' : World} {S : Nat → Prop} {bl br : Nat} {es : List Ent} {ba : Option Addr} {cap : Nat} (h : LedgerAt w bl br es ba cap) (k : Upd S w w') (hd : ∀ i, own3 bl br ba i → ¬ S i) : LedgerAt w' bl br es ba cap where
  obj := k.obj h.obj (hd _ (.inl rfl))
  row := h.row.upd k (fun ad he => hd _ (.inr (.inr ⟨ad, he, rfl⟩)))
  mp := by
    obtain ⟨m, hm, hl⟩ := h.mp
    exact ⟨m, k.obj hm (hd _ (.inr (.inl rfl))), hl⟩
  ne := h.ne
  nbr := h.nbr
theorem LedgerAt.own_lt {w : World} {bl br : Nat} {es : List Ent} {ba : Option Addr} {cap : Nat} (h : LedgerAt w bl br es ba cap) {k : Nat} (hk : own3 bl br ba k) : k < w.heap.size := by
  rcases hk with rfl | rfl | ⟨ad, he, rfl⟩
  · exact obj_lt h.obj
  · obtain ⟨m, hm, _⟩ := h.mp
    exact obj_lt hm
  · exact h.row.lt ad he
theorem LedgerAt.all {w w' : World} {bl br : Nat} {es : List Ent} {ba : Option Addr} {cap : Nat} (h : LedgerAt w bl br es ba cap) (k : Below w.heap.size w w') : LedgerAt w' bl br es ba cap :=
  h.upd (S := fun i => w.heap.size ≤ i) ⟨k.os, k.tape, k.output, k.size, fun i hi hn => k.block i hi⟩ (fun i hi hn => by have := h.own_lt hi; omega)

def LedgerTo (w : World) (bl br : Nat) (ba : Option Addr) (es' : List Ent) (v : Value) (e : Ending) (w' : World) : Prop :=
  ∃ ba' cap', e = .returned v ∧ LedgerAt w' bl br es' ba' cap' ∧ Upd (own3 bl br ba) w w' ∧ (∀ ad, ba' = some ad → ba = some ad ∨ w.heap.size ≤ ad.block)
theorem LedgerTo.same {w w' : World} {bl br : Nat} {es : List Ent} {ba : Option Addr} {cap : Nat} (h : LedgerAt w bl br es ba cap) (k : Below w.heap.size w w') (v : Value) : LedgerTo w bl br ba es v (.returned v) w' :=
  ⟨ba, cap, rfl, h.all k, Upd.of_below k, fun _ he => .inl he⟩

set_option maxHeartbeats 400000 in
theorem playerOk (w : World) (p : Int) : Calls Tryd.prog 22 #[.int .i64 p] w (fun e w' => e = .returned (.bool (decide (p = 0 ∨ p = 1))) ∧ w = w') := by
  by_cases h0 : p = 0
  · subst h0
    go_enter Tryd.func22, Tryd.ntmps22
    go_wp2
    go_ret
    exact ⟨rfl, rfl⟩
  · by_cases h1 : p = 1
    · subst h1
      go_enter Tryd.func22, Tryd.ntmps22
      go_wp2
      go_ret
      exact ⟨rfl, rfl⟩
    · have q0 : (p == 0) = false := by simp [h0]
      have q1 : (p == 1) = false := by simp [h1]
      have hd := Lib.hid (show decide (p = 0 ∨ p = 1) = false by simp [h0, h1])
      clear h0 h1
      go_enter Tryd.func22, Tryd.ntmps22
      go_wp2
      go_ret
      exact ⟨by rw [hd.out]; rfl, rfl⟩

def addV (lev err : Int) : Value := .tuple #[.int .i64 lev, errV 31 err]

set_option maxRecDepth 100000 in
set_option maxHeartbeats 400000 in
theorem addBad (w : World) (bl br : Nat) (es : List Ent) (ba : Option Addr) (cap : Nat) (p k t : Int) (h : LedgerAt w bl br es ba cap) (he : addErr es p k t ≠ 0) :
    Calls Tryd.prog 9 #[.pointer (some ⟨bl, 0, none⟩), .int .i64 p, .int .i64 k, .int .i64 t] w (LedgerTo w bl br ba es (addV 0 (addErr es p k t))) := by
  have y0 := obj_cell h.obj 0
  simp at y0
  have fin : ∀ e w', (e = .returned (addV 0 (addErr es p k t)) ∧ w = w') → LedgerTo w bl br ba es (addV 0 (addErr es p k t)) e w' := by
    rintro e w' ⟨rfl, rfl⟩
    exact LedgerTo.same h (Below.refl _ _) _
  refine Calls.mono ?_ fin
  by_cases h1 : (p ≠ 0 ∧ p ≠ 1) ∨ t < 0
  · rw [show addErr es p k t = 1 from if_pos h1]
    clear he fin
    by_cases hp : p = 0 ∨ p = 1
    · have ht : t < 0 := by omega
      have hd : decide (p = 0 ∨ p = 1) = true := by simpa using hp
      clear h1
      go_enter Tryd.func9, Tryd.ntmps9
      go_wp2_with (go_at_call 22; refine (playerOk _ _).mono ?_; rintro e w' ⟨rfl, rfl⟩; rw [hd])
      go_ret2
      exact ⟨rfl, rfl⟩
    · have hd : decide (p = 0 ∨ p = 1) = false := by simpa using hp
      clear h1 hp
      go_enter Tryd.func9, Tryd.ntmps9
      go_wp2_with (go_at_call 22; refine (playerOk _ _).mono ?_; rintro e w' ⟨rfl, rfl⟩; rw [hd])
      go_ret2
      exact ⟨rfl, rfl⟩
  · have hp : p = 0 ∨ p = 1 := by omega
    have ht : 0 ≤ t := by omega
    have hd : decide (p = 0 ∨ p = 1) = true := by simpa using hp
    by_cases h2 : k < 0 ∨ 6 ≤ k
    · rw [show addErr es p k t = 6 by unfold addErr; rw [if_neg h1, if_pos h2]]
      clear he fin h1 hp
      have hk : k < 0 ∨ (0 ≤ k ∧ 6 ≤ k) := by omega
      clear h2
      rcases hk with hk | ⟨hk, hk6⟩
      all_goals
        go_enter Tryd.func9, Tryd.ntmps9
        go_wp2_with (go_at_call 22; refine (playerOk _ _).mono ?_; rintro e w' ⟨rfl, rfl⟩; rw [hd])
        go_ret2
        exact ⟨rfl, rfl⟩
    · have h3 : 1000 ≤ es.length := by
        unfold addErr at he
        rw [if_neg h1, if_neg h2] at he
        by_cases h3 : 1000 ≤ es.length
        · exact h3
        · rw [if_neg h3] at he; exact absurd rfl he
      rw [show addErr es p k t = 5 by unfold addErr; rw [if_neg h1, if_neg h2, if_pos h3]]
      have hk0 : 0 ≤ k := by omega
      have hk6 : k < 6 := by omega
      clear he fin h1 hp h2
      go_enter Tryd.func9, Tryd.ntmps9
      go_wp2_with (go_at_call 22; refine (playerOk _ _).mono ?_; rintro e w' ⟨rfl, rfl⟩; rw [hd])
      go_ret2
      exact ⟨rfl, rfl⟩
end Go.Proofs.YtfphjokijanahaaDoor
