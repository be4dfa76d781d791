import Derived.Test.YtfphjokijanahaaDoorLedger4
namespace Go.Proofs.YtfphjokijanahaaDoor
open Go Go.RowKit
set_option linter.unusedVariables false

def al6 : List Ent := [⟨1, 2, 0, 1⟩, ⟨1, 2, 1, 1⟩, ⟨1, 2, 2, 2⟩, ⟨1, 2, 3, 1⟩, ⟨1, 2, 4, 1⟩, ⟨1, 2, 5, 3⟩]
theorem al6_step : ∀ k : Fin 6, addErr (al6.take k) 1 2 k = 0 ∧ addLev (al6.take k) 1 2 = ([1, 1, 2, 1, 1, 3] : List Int).getD k 0 ∧ addNext (al6.take k) 1 2 k = al6.take (k + 1) := by decide
theorem own3_grow {w : World} {bl br : Nat} {ba ba' : Option Addr} {B : Nat} (h0 : ∀ i, own3 bl br ba i → B ≤ i) (hs : B ≤ w.heap.size) (hl : ∀ ad, ba' = some ad → ba = some ad ∨ w.heap.size ≤ ad.block) : ∀ i, own3 bl br ba' i → B ≤ i := by
  rintro i (rfl | rfl | ⟨ad, he, rfl⟩)
  · exact h0 _ (.inl rfl)
  · exact h0 _ (.inr (.inl rfl))
  · rcases hl ad he with h | h
    · exact h0 _ (.inr (.inr ⟨ad, h, rfl⟩))
    · omega
def lev6 (k : Nat) : Int := ([1, 1, 2, 1, 1, 3] : List Int).getD k 0
/-- What Add does to a ledger of ours. -/
theorem addOwn (w0 w : World) (bl br : Nat) (es : List Ent) (ba : Option Addr) (cap : Nat) (p k t : Int) (h : LedgerAt w bl br es ba cap) (hk : KindsAt w0) (hown : ∀ i, own3 bl br ba i → w0.heap.size ≤ i) (hb : Below w0.heap.size w0 w) :
    Calls Tryd.prog 9 #[.pointer (some ⟨bl, 0, none⟩), .int .i64 p, .int .i64 k, .int .i64 t] w
      (fun e w' => ∃ ba' cap', e = .returned (addV (if addErr es p k t = 0 then addLev es p k else 0) (addErr es p k t)) ∧ LedgerAt w' bl br (addNext es p k t) ba' cap' ∧ (∀ i, own3 bl br ba' i → w0.heap.size ≤ i) ∧ Below w0.heap.size w0 w' ∧ Upd (own3 bl br ba) w w' ∧ ∀ i, own3 bl br ba' i → own3 bl br ba i ∨ w.heap.size ≤ i) := by
  have hz := hk.pos
  refine (add _ _ _ _ _ _ _ _ _ h (hk.below hb hz) (fun h => by have := hown _ h; omega)).mono ?_
  rintro e w2 ⟨ba2, cap2, rfl, hl2, hu2, hloc2⟩
  refine ⟨ba2, cap2, rfl, hl2, own3_grow (w := w) hown hb.size hloc2, hb.trans (hu2.below hb.size (fun j hj h => by have := hown _ h; omega)), hu2, ?_⟩
  rintro i (rfl | rfl | ⟨ad, he, rfl⟩)
  · exact .inl (.inl rfl)
  · exact .inl (.inr (.inl rfl))
  · exact (hloc2 ad he).imp (fun h => .inr (.inr ⟨ad, h, rfl⟩)) id
theorem addAl (w0 w : World) (bl br : Nat) (k : Nat) (hk6 : k < 6) (ba : Option Addr) (cap : Nat) (h : LedgerAt w bl br (al6.take k) ba cap) (hk : KindsAt w0) (hown : ∀ i, own3 bl br ba i → w0.heap.size ≤ i) (hb : Below w0.heap.size w0 w) :
    Calls Tryd.prog 9 #[.pointer (some ⟨bl, 0, none⟩), .int .i64 1, .int .i64 2, .int .i64 k] w
      (fun e w' => ∃ ba' cap', e = .returned (.tuple #[.int .i64 (lev6 k), .nilIface]) ∧ LedgerAt w' bl br (al6.take (k + 1)) ba' cap' ∧ (∀ i, own3 bl br ba' i → w0.heap.size ≤ i) ∧ Below w0.heap.size w0 w') := by
  obtain ⟨h1, h2, h3⟩ := al6_step ⟨k, hk6⟩
  refine (addOwn w0 _ _ _ _ _ _ _ _ _ h hk hown hb).mono ?_
  rintro e w2 ⟨ba2, cap2, rfl, hl2, hu2, hloc2, _⟩
  simp only at h1 h2 h3
  rw [h3] at hl2
  rw [h1, h2]
  exact ⟨ba2, cap2, rfl, hl2, hu2, hloc2⟩
set_option maxRecDepth 100000 in
set_option maxHeartbeats 800000 in
theorem aliveLedger (w : World) (hk : KindsAt w) : Calls Tryd.prog 7 #[] w (fun e w' => e = .returned (.bool true) ∧ Below w.heap.size w w') := by
  have hz := hk.pos
  go_enter Tryd.func7, Tryd.ntmps7
  go_wp2_with fail
  refine (new_ _).mono ?_
  rintro e w1 ⟨bl, br, ba, cap, rfl, hl, hown, hb1⟩
  have Hl := Lib.hid hl
  clear hl
  go_wp2_with fail
  go_loopw [2] (fun i wr => ∃ k : Nat, k ≤ 6 ∧ i = .int .i64 k ∧ ∃ ba cap, LedgerAt wr bl br (al6.take k) ba cap ∧ (∀ i, own3 bl br ba i → w.heap.size ≤ i) ∧ Below w.heap.size w wr) (fun i _ => 6 - (intOf i).toNat)
  case atStart => exact ⟨0, by omega, rfl, ba, cap, Hl.out, hown, hb1⟩
  case round =>
    obtain ⟨k, hk6, rfl, ba, cap, hl, hown, hbel⟩ := hrel
    have hkr := hk.below hbel hz
    have hcase : k = 0 ∨ k = 1 ∨ k = 2 ∨ k = 3 ∨ k = 4 ∨ k = 5 ∨ k = 6 := by omega
    have hstep := al6_step
    have hw := hbel.size
    rcases hcase with rfl | rfl | rfl | rfl | rfl | rfl | rfl
    case inr.inr.inr.inr.inr.inr =>
      go_wp2_with fail
      go_ret
      exact ⟨rfl, hbel⟩
    all_goals
      go_wp2_with fail
      refine (addAl w _ _ _ _ (by decide) _ _ hl hk hown hbel).mono ?_
      rintro e w2 ⟨ba2, cap2, rfl, hl2, hown2, hbel2⟩
      first
        | rw [show lev6 0 = 1 from rfl]
        | rw [show lev6 1 = 1 from rfl]
        | rw [show lev6 2 = 2 from rfl]
        | rw [show lev6 3 = 1 from rfl]
        | rw [show lev6 4 = 1 from rfl]
        | rw [show lev6 5 = 3 from rfl]
      go_wp2_with fail
      go_roundw
      case rel => exact ⟨_, by decide, by go_num, ba2, cap2, hl2.all ((Below.refl _ _).alloc (Nat.le_refl _) _), hown2, hbel2.alloc hbel2.size _⟩
      case measure => simp [intOf]
end Go.Proofs.YtfphjokijanahaaDoor
