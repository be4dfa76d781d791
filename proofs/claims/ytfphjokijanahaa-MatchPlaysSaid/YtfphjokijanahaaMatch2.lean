import Derived.Test.YtfphjokijanahaaMatch
import Derived.Test.YtfphjokijanahaaNum
namespace Go.Proofs.Ytfphjokijanahaa
open Go Go.RowKit

def gameErr (gs : List Int) (g r : Int) : Int := if r < 1 ∨ 3 < r then 6 else if over gs g then 14 else 0
def gameNext (gs : List Int) (g r : Int) : List Int := if r < 1 ∨ 3 < r then gs else if over gs g then gs else gs ++ [r]

/-- The match behind a call: what may have been written. -/
def MatchTo (w : World) (bm : Nat) (ba : Option Addr) (gs' : List Int) (g' : Int) (v : Value) (e : Ending) (w' : World) : Prop :=
  ∃ ba' cap', e = .returned v ∧ MatchAt w' bm gs' g' ba' cap' ∧ Upd (fun k => k = bm ∨ blk ba k) w w' ∧ (∀ ad, ba' = some ad → ba = some ad ∨ w.heap.size ≤ ad.block)

theorem MatchTo.same {w w' : World} {bm : Nat} {gs : List Int} {g : Int} {ba : Option Addr} {cap : Nat} (h : MatchAt w bm gs g ba cap) (k : Below w.heap.size w w') (v : Value) : MatchTo w bm ba gs g v (.returned v) w' :=
  ⟨ba, cap, rfl, h.all k, Upd.of_below k, fun _ he => .inl he⟩

theorem over_len {gs : List Int} {g : Int} (h : over gs g = false) : gs.length < 3 := by
  simp [over] at h; omega

set_option maxHeartbeats 400000 in
theorem game (w : World) (bm : Nat) (gs : List Int) (g r : Int) (ba : Option Addr) (cap : Nat) (h : MatchAt w bm gs g ba cap) (ok : Ok gs g) :
    Calls Try.prog 11 #[.pointer (some ⟨bm, 0, none⟩), .int .i64 r] w (MatchTo w bm ba (gameNext gs g r) g (errV 39 (gameErr gs g r))) := by
  by_cases h1 : r < 1 ∨ 3 < r
  · rw [show gameNext gs g r = gs from if_pos h1, show gameErr gs g r = 6 from if_pos h1]
    have hp : r < 1 ∨ (1 ≤ r ∧ 3 < r) := by omega
    rcases hp with hp | ⟨hp, hq⟩
    all_goals
      go_enter Try.func11, Try.ntmps11
      go_wp2_with fail
      go_ret
      exact MatchTo.same h (Below.refl _ _) _
  · have hlo : 1 ≤ r := by omega
    have hhi : r ≤ 3 := by omega
    by_cases hov : over gs g = true
    · rw [show gameNext gs g r = gs by simp [gameNext, h1, hov], show gameErr gs g r = 14 by simp [gameErr, h1, hov]]
      clear h1
      go_enter Try.func11, Try.ntmps11
      go_wp2_with (go_at_call 18; refine (decided _ _ _ _ _ _ h ok).mono ?_; rintro e w' ⟨rfl, hbel⟩)
      go_ret
      exact MatchTo.same h hbel _
    · have hov : over gs g = false := by simpa using hov
      have hlen := over_len hov
      rw [show gameNext gs g r = gs ++ [r] by simp [gameNext, h1, hov], show gameErr gs g r = 0 by simp [gameErr, h1, hov]]
      clear h1
      go_enter Try.func11, Try.ntmps11
      go_wp2_with (first
        | (go_at_call 18; refine (decided _ _ _ _ _ _ h ok).mono ?_; rintro e w' ⟨rfl, hbel⟩; have hm' := h.all hbel; have hc0 := obj_cell hm'.obj 0; have hf0 := obj_free hm'.obj 0; simp at hc0)
        | (at_builtin; refine wp_append rfl (.tmp 25) (.tmp 27) 29 rfl 3 (.int .i64 0) 1 8 Try.underlying29 Try.infoInt rfl (by decide) rfl rfl (hm'.row.alloc _) (RowAt.lit w' #[.int .i64 r] 3 1 1 (by decide) rfl (by simp [Value.oneCell'])).sl (by unfold maxLen; omega) (by omega) ?_; intro a' cap' w2 hrow hupd hloc hnil; have hm2 := hupd.obj (alloc_obj hm'.obj) (fun ⟨ad, he, hb⟩ => hm'.ne ad he hb); have hc2 := obj_cell hm2 0; have hf2 := obj_free hm2 0; simp at hc2))
      go_ret
      refine ⟨a', cap', rfl, ⟨?_, ?_, ?_⟩, ?_, ?_⟩
      · simpa using obj_set hm2 0 (.slice a' (gs.length + 1) cap')
      · have := hrow.setCell ⟨bm, 0, none⟩ (fun ad he => by
          rcases hloc ad he with h' | h'
          · exact hm'.ne ad h'
          · have := obj_lt hm'.obj; simp at h' ⊢; omega) (.slice a' (gs.length + 1) cap')
        simpa using this
      · intro ad he
        rcases hloc ad he with h' | h'
        · exact hm'.ne ad h'
        · have := obj_lt hm'.obj; simp at h' ⊢; omega
      · exact ((Upd.of_below (hbel.alloc hbel.size _)).trans hupd (fun i _ hb => .inr hb)).setCell _ (fun _ => .inl rfl) _
      · intro ad he
        rcases hloc ad he with h' | h'
        · exact .inl h'
        · have := hbel.size; simp at h'; exact .inr (by omega)

/-- A new match like it. -/
def MatchNew (w : World) (gs : List Int) (g : Int) (e : Ending) (w' : World) : Prop :=
  ∃ bm ba cap, e = .returned (.pointer (some ⟨bm, 0, none⟩)) ∧ MatchAt w' bm gs g ba cap ∧ w.heap.size ≤ bm ∧ Fresh w.heap.size ba ∧ Below w.heap.size w w'

set_option maxHeartbeats 400000 in
theorem matchNew (w : World) : Calls Try.prog 8 #[] w (MatchNew w [] 0) := by
  go_enter Try.func8, Try.ntmps8
  go_wp2_with fail
  go_ret
  exact ⟨_, none, 0, rfl, ⟨alloc_new w _, RowAt.null _ _ _, (fun ad he => by cases he)⟩, Nat.le_refl _, (fun ad he => by cases he), (Below.refl _ w).alloc (Nat.le_refl _) _⟩

set_option maxHeartbeats 400000 in
theorem matchCopy (w : World) (bm : Nat) (gs : List Int) (g : Int) (ba : Option Addr) (cap : Nat) (h : MatchAt w bm gs g ba cap) (hl : gs.length ≤ 3) :
    Calls Try.prog 14 #[.pointer (some ⟨bm, 0, none⟩)] w (MatchNew w gs g) := by
  have hc0 := obj_cell h.obj 0
  have hc1 := obj_cell h.obj 1
  simp at hc0 hc1
  have hb8 : gs.length * 8 ≤ 140737488355328 := by omega
  go_enter Try.func14, Try.ntmps14
  go_wp2_with fail
  go_region_held3 (fun x => x.cell? ⟨bm, 0, none⟩ = some (.slice ba gs.length cap) ∧ x.cell? ⟨bm, 1, none⟩ = some (.int .i64 g)) (first | exact ⟨hc0, hc1⟩ | exact ⟨hc0', hc1'⟩ | exact ⟨cell_alloc hc0' _, cell_alloc hc1' _⟩)
    (first | (go_at_call 19; refine (cloneInts _ _ _ _ _ h.row.sl.drew hb8).mono ?_; rintro e w' ⟨a', cap', rfl, hrow, hfr, hbel', hnil⟩; have hbel := undrew hbel'; have hm' := h.all hbel; have hc0' := obj_cell hm'.obj 0; have hc1' := obj_cell hm'.obj 1; simp at hc0' hc1'))
  go_wp2
  go_ret
  exact ⟨w'.heap.size, a', cap', rfl, ⟨alloc_new w' _, hrow.alloc _, (fun ad he => by have := hrow.lt ad he; simp; omega)⟩, hbel.size, hfr, hbel.alloc hbel.size _⟩
end Go.Proofs.Ytfphjokijanahaa
