import Derived.Test.YtfphjokijanahaaClone
import Derived.Test.YtfphjokijanahaaNum
namespace Go.Proofs.Ytfphjokijanahaa
open Go Go.RowKit

/-- A match in memory: its block, its games' row. -/
structure MatchAt (w : World) (bm : Nat) (gs : List Int) (g : Int) (ba : Option Addr) (cap : Nat) : Prop where
  obj : w.heap[bm]? = some (.cells #[.slice ba gs.length cap, .int .i64 g] 50 (0, 0))
  row : RowAt w 3 1 ba gs.length cap (gs.map (.int .i64))
  ne : ∀ ad, ba = some ad → ad.block ≠ bm

theorem MatchAt.below {w w' : World} {B bm : Nat} {gs : List Int} {g : Int} {ba : Option Addr} {cap : Nat} (h : MatchAt w bm gs g ba cap) (k : Below B w w') (hm : bm < B) (hb : ∀ ad, ba = some ad → ad.block < B) : MatchAt w' bm gs g ba cap :=
  ⟨below_obj k h.obj hm, h.row.below k hb, h.ne⟩
theorem MatchAt.all {w w' : World} {bm : Nat} {gs : List Int} {g : Int} {ba : Option Addr} {cap : Nat} (h : MatchAt w bm gs g ba cap) (k : Below w.heap.size w w') : MatchAt w' bm gs g ba cap :=
  h.below k (obj_lt h.obj) h.row.lt
theorem MatchAt.alloc {w : World} {bm : Nat} {gs : List Int} {g : Int} {ba : Option Addr} {cap : Nat} (h : MatchAt w bm gs g ba cap) (o : Obj) : MatchAt (w.alloc o) bm gs g ba cap :=
  h.all ((Below.refl _ _).alloc (Nat.le_refl _) o)

set_option maxHeartbeats 400000 in
theorem games (w : World) (bm : Nat) (gs : List Int) (g : Int) (ba : Option Addr) (cap : Nat) (h : MatchAt w bm gs g ba cap) (hl : gs.length ≤ 3) :
    Calls Try.prog 10 #[.pointer (some ⟨bm, 0, none⟩)] w (NewRow w 3 1 gs.length (ba = none) (gs.map (.int .i64))) := by
  have hc := obj_cell h.obj 0
  simp at hc
  go_enter Try.func10, Try.ntmps10
  go_wp2_with (first | (go_at_call 19; refine (cloneInts _ _ _ _ _ h.row.sl (by omega)).mono ?_; rintro e w' ⟨a', cap', rfl, hrow, hfr, hbel, hnil⟩))
  go_ret
  exact ⟨a', cap', rfl, hrow, hfr, hbel, hnil⟩
def cnt (r : Int) (gs : List Int) : Int := (gs.filter (· == r)).length
theorem cnt_snoc (r x : Int) (gs : List Int) : cnt r (gs ++ [x]) = cnt r gs + if x = r then 1 else 0 := by
  unfold cnt
  rw [List.filter_append]
  by_cases h : x = r <;> simp [h]
theorem cnt_bd (r : Int) (gs : List Int) : 0 ≤ cnt r gs ∧ cnt r gs ≤ gs.length := by
  unfold cnt
  have := List.length_filter_le (· == r) gs
  omega
set_option maxHeartbeats 400000 in
theorem score (w : World) (bm : Nat) (gs : List Int) (g : Int) (ba : Option Addr) (cap : Nat) (h : MatchAt w bm gs g ba cap) (hl : gs.length ≤ 3) (hr : ∀ r ∈ gs, 1 ≤ r ∧ r ≤ 3) :
    Calls Try.prog 17 #[.pointer (some ⟨bm, 0, none⟩)] w (fun e w' => e = .returned (.tuple #[.int .i64 (cnt 1 gs), .int .i64 (cnt 2 gs)]) ∧ Below w.heap.size w w') := by
  go_enter Try.func17, Try.ntmps17
  go_wp2_with (first | (go_at_call 10; refine (games _ _ _ _ _ _ (h.alloc _) hl).mono ?_; rintro e w' ⟨a', cap', rfl, hrow, hfr, hbel, hnil⟩))
  go_loopw [10] (fun i wr => ∃ k : Nat, k ≤ gs.length ∧ i = .int .i64 k ∧ wr.heap[w.heap.size]? = some (.cells #[.int .i64 0, .int .i64 (cnt 1 (gs.take k)), .int .i64 (cnt 2 (gs.take k)), .int .i64 (cnt 3 (gs.take k))] 37 (0, 0)) ∧ Below w.heap.size w wr ∧ RowAt wr 3 1 a' gs.length cap' (gs.map (.int .i64)))
    (fun i _ => gs.length - (intOf i).toNat)
  case atStart =>
    exact ⟨0, Nat.zero_le _, rfl, below_obj hbel (alloc_new w _) (by simp), ((Below.refl _ w).alloc (Nat.le_refl _) _).trans (hbel.mono (by simp)), hrow⟩
  case round =>
    obtain ⟨k, hk, rfl, hsc, hbl, hrw⟩ := hrel
    by_cases hlt : k < gs.length
    · obtain ⟨b, off, rfl, hbb, hcc⟩ := hrw.sl.nonempty (by omega)
      have hel := hcc k (.int .i64 (gs.getD k 0)) (by simp [hlt])
      have hrk := hr (gs.getD k 0) (by simp [hlt])
      have hsn := take_snoc gs k 0 hlt
      have hc1 := obj_cell hsc 1
      have hc2 := obj_cell hsc 2
      have hc3 := obj_cell hsc 3
      have hf1 := obj_free hsc 1
      have hf2 := obj_free hsc 2
      have hf3 := obj_free hsc 3
      have hb1 := cnt_bd 1 (gs.take k)
      have hb2 := cnt_bd 2 (gs.take k)
      have hb3 := cnt_bd 3 (gs.take k)
      have hlk : (gs.take k).length ≤ k := List.length_take_le _ _
      simp at hc1 hc2 hc3
      have hs1 := cnt_snoc 1 (gs.getD k 0) (gs.take k)
      have hs2 := cnt_snoc 2 (gs.getD k 0) (gs.take k)
      have hs3 := cnt_snoc 3 (gs.getD k 0) (gs.take k)
      rw [← hsn] at hs1 hs2 hs3
      generalize gs.getD k 0 = x at *
      clear hsn
      have H := Lib.hid hsc
      clear hsc hcc
      have H1 := Lib.hid hs1
      have H2 := Lib.hid hs2
      have H3 := Lib.hid hs3
      clear hs1 hs2 hs3
      have hx : x = 1 ∨ x = 2 ∨ x = 3 := by omega
      rcases hx with rfl | rfl | rfl
      · go_wp2
        go_roundw
        case rel => exact ⟨k + 1, by omega, by go_num, by rw [H1.out, H2.out, H3.out]; simpa using obj_set H.out 1 (.int .i64 (cnt 1 (gs.take k) + 1)), hbl.setCell (Nat.le_refl _) _, hrw.setCell _ (fun ad he => by have := hfr ad he; simp at this ⊢; omega) _⟩
        case measure => simp [intOf]; omega
      · go_wp2
        go_roundw
        case rel => exact ⟨k + 1, by omega, by go_num, by rw [H1.out, H2.out, H3.out]; simpa using obj_set H.out 2 (.int .i64 (cnt 2 (gs.take k) + 1)), hbl.setCell (Nat.le_refl _) _, hrw.setCell _ (fun ad he => by have := hfr ad he; simp at this ⊢; omega) _⟩
        case measure => simp [intOf]; omega
      · go_wp2
        go_roundw
        case rel => exact ⟨k + 1, by omega, by go_num, by rw [H1.out, H2.out, H3.out]; simpa using obj_set H.out 3 (.int .i64 (cnt 3 (gs.take k) + 1)), hbl.setCell (Nat.le_refl _) _, hrw.setCell _ (fun ad he => by have := hfr ad he; simp at this ⊢; omega) _⟩
        case measure => simp [intOf]; omega
    · obtain rfl : k = gs.length := by omega
      have hc1 := obj_cell hsc 1
      have hc2 := obj_cell hsc 2
      simp at hc1 hc2
      go_wp2
      go_quiet (fail)
      go_wp2
      go_ret2
      exact ⟨rfl, below_drewN hbl _⟩

/-! ### decided -/
def over (gs : List Int) (g : Int) : Bool := g != 0 || decide (3 ≤ gs.length) || decide (2 ≤ cnt 1 gs) || decide (2 ≤ cnt 2 gs)
structure Ok (gs : List Int) (g : Int) : Prop where
  len : gs.length ≤ 3
  res : ∀ r ∈ gs, 1 ≤ r ∧ r ≤ 3
  giv : 0 ≤ g ∧ g ≤ 2
set_option maxHeartbeats 400000 in
theorem decided (w : World) (bm : Nat) (gs : List Int) (g : Int) (ba : Option Addr) (cap : Nat) (h : MatchAt w bm gs g ba cap) (ok : Ok gs g) :
    Calls Try.prog 18 #[.pointer (some ⟨bm, 0, none⟩)] w (fun e w' => e = .returned (.bool (over gs g)) ∧ Below w.heap.size w w') := by
  have hc0 := fun (w' : World) (k : Below w.heap.size w w') => obj_cell (h.all k).obj 0
  have hc1 := fun (w' : World) (k : Below w.heap.size w w') => obj_cell (h.all k).obj 1
  simp at hc0 hc1
  by_cases h1 : g = 0
  · subst h1
    by_cases h2 : 3 ≤ gs.length
    · have hov := Lib.hid (show over gs 0 = true by simp [over, h2])
      go_enter Try.func18, Try.ntmps18
      go_wp2_with (go_at_call 17; refine (score _ _ _ _ _ _ h ok.len ok.res).mono ?_; rintro e w' ⟨rfl, hbel⟩; have h0' := hc0 _ hbel; have h1' := hc1 _ hbel)
      all_goals
        go_ret
        exact ⟨by rw [hov.out]; first | rfl | (simp; omega), hbel⟩
    · by_cases h3 : 2 ≤ cnt 1 gs
      · have hov := Lib.hid (show over gs 0 = true by simp [over, h3])
        go_enter Try.func18, Try.ntmps18
        go_wp2_with (go_at_call 17; refine (score _ _ _ _ _ _ h ok.len ok.res).mono ?_; rintro e w' ⟨rfl, hbel⟩; have h0' := hc0 _ hbel; have h1' := hc1 _ hbel)
        all_goals
          go_ret
          exact ⟨by rw [hov.out]; first | rfl | (simp; omega), hbel⟩
      · by_cases h4 : 2 ≤ cnt 2 gs
        · have hov := Lib.hid (show over gs 0 = true by simp [over, h4])
          go_enter Try.func18, Try.ntmps18
          go_wp2_with (go_at_call 17; refine (score _ _ _ _ _ _ h ok.len ok.res).mono ?_; rintro e w' ⟨rfl, hbel⟩; have h0' := hc0 _ hbel; have h1' := hc1 _ hbel)
          all_goals
            go_ret
            exact ⟨by rw [hov.out]; first | rfl | (simp; omega), hbel⟩
        · have hov := Lib.hid (show over gs 0 = false by simp [over, h2, h3, h4])
          go_enter Try.func18, Try.ntmps18
          go_wp2_with (go_at_call 17; refine (score _ _ _ _ _ _ h ok.len ok.res).mono ?_; rintro e w' ⟨rfl, hbel⟩; have h0' := hc0 _ hbel; have h1' := hc1 _ hbel)
          all_goals
            go_ret
            exact ⟨by rw [hov.out]; first | rfl | (simp; omega), hbel⟩
  · have hov := Lib.hid (show over gs g = true by simp [over, h1])
    have hg : (g != 0) = true := by simp [h1]
    go_enter Try.func18, Try.ntmps18
    go_wp2_with (go_at_call 17; refine (score _ _ _ _ _ _ h ok.len ok.res).mono ?_; rintro e w' ⟨rfl, hbel⟩; have h0' := hc0 _ hbel; have h1' := hc1 _ hbel)
    all_goals
      go_ret
      exact ⟨by rw [hov.out]; first | rfl | (simp; omega), hbel⟩
end Go.Proofs.Ytfphjokijanahaa
