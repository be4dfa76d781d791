import Derived.Test.YtpbocficffbcbaaJour2
namespace Go.Proofs.Ytpbocficffbcbaa
open Go Go.RowKit
set_option linter.unusedVariables false

theorem mark_fin {w W W3 : World} {bj : Nat} {es : List Ev} {ms : List Mk} {last l' : Int} {ea ma a3 : Option Addr} {ec mc c3 : Nat} {X : Obj} {m : Mk} (h : JAt w bj es ms last ea ec ma mc)
    (heW : RowAt W 64 6 ea es.length ec (evs es)) (hoW : W.heap[bj]? = some (.cells #[.slice ea es.length ec, .slice ma ms.length mc, .int .i64 l'] 122 (0, 0))) (uW : Upd (ownJ bj ea ma) w W) (hzW : W.heap.size = w.heap.size)
    (hrow3 : RowAt W3 124 2 a3 (ms.length + 1) c3 (mks ms ++ mkC m)) (hupd3 : Upd (blk ma) (W.alloc X).drew W3) (hloc3 : ∀ ad, a3 = some ad → ma = some ad ∨ (W.alloc X).drew.heap.size ≤ ad.block) (v : Value) :
    JTo w bj ea ma es (ms ++ [m]) l' v (.returned v) (W3.setCell ⟨bj, 1, none⟩ (.slice a3 (ms.length + 1) c3)) := by
  have hbj : bj < W.heap.size := obj_lt hoW
  have o3 := hupd3.obj (show (W.alloc X).drew.heap[bj]? = _ from alloc_obj hoW) (fun ⟨ad, he, hb⟩ => h.nmk ad he hb)
  have hl3 : ∀ ad, a3 = some ad → ma = some ad ∨ w.heap.size + 1 ≤ ad.block := fun ad he => (hloc3 ad he).imp id (fun h' => by have h'' : (W.alloc X).heap.size ≤ ad.block := h'; simp at h''; omega)
  have hn3 : ∀ ad, a3 = some ad → ad.block ≠ bj := fun ad he => by
    rcases hl3 ad he with h1 | h1
    · exact h.nmk ad h1
    · omega
  have e3 : RowAt W3 64 6 ea es.length ec (evs es) := ((heW.alloc X).drew).upd hupd3 (fun ad he ⟨ad', hm, hb⟩ => h.nem ad ad' he hm hb.symm)
  refine ⟨ea, ec, a3, c3, rfl, ⟨?_, e3.setCell _ (fun ad he => h.nev ad he) _, ?_⟩, ?_, fun _ he => .inl he, fun ad he => (hl3 ad he).imp id (fun h' => by omega)⟩
  · have := obj_set o3 1 (.slice a3 (ms.length + 1) c3)
    simpa using this
  · have := hrow3.setCell ⟨bj, 1, none⟩ hn3 (.slice a3 (ms.length + 1) c3)
    simpa [mks] using this
  · exact ((uW.alloc X).drew.trans hupd3 (fun _ _ hb => .inr (.inr hb))).setCell _ (fun _ => .inl rfl) _

set_option maxRecDepth 100000 in
set_option maxHeartbeats 1600000 in
theorem mark (w : World) (bj : Nat) (es : List Ev) (ms : List Mk) (last : Int) (ea ma : Option Addr) (ec mc : Nat) (h : JAt w bj es ms last ea ec ma mc) (h0 : 0 ≤ last) (h1 : last < 1000000000) (hm : ms.length < 1000000) :
    Calls Try.prog 34 #[.pointer (some ⟨bj, 0, none⟩)] w (JTo w bj ea ma es (ms ++ [(last + 1, es.length)]) (last + 1) (.int .i64 (last + 1))) := by
  have c0 := obj_cell h.obj 0
  have c1 := obj_cell h.obj 1
  have c2 := obj_cell h.obj 2
  have f0 := fun j => obj_free h.obj j
  simp at c0 c1 c2
  go_enter Try.func34, Try.ntmps34
  go_wp2_with fail
  have hmW := (h.mkr.setCell ⟨bj, 2, none⟩ (fun ad he => h.nmk ad he) (.int .i64 (last + 1)))
  have heW := (h.ev.setCell ⟨bj, 2, none⟩ (fun ad he => h.nev ad he) (.int .i64 (last + 1)))
  have hoW := obj_set h.obj 2 (.int .i64 (last + 1))
  simp at hoW
  have uW : Upd (ownJ bj ea ma) w (w.setCell ⟨bj, 2, none⟩ (.int .i64 (last + 1))) := (Upd.refl _ _).setCell _ (fun _ => .inl rfl) _
  have hzW : (w.setCell ⟨bj, 2, none⟩ (.int .i64 (last + 1))).heap.size = w.heap.size := by simp
  generalize w.setCell ⟨bj, 2, none⟩ (.int .i64 (last + 1)) = W at *
  have k0 := obj_cell hoW 0
  have k1 := obj_cell hoW 1
  have k2 := obj_cell hoW 2
  simp at k0 k1 k2
  have HzW := Lib.hid hzW
  have hbj : bj < W.heap.size := obj_lt hoW
  clear c0 c1 c2 f0 hzW
  go_region_law (refine step_append_row rfl (.tmp 16) (.tmp 27) 120 rfl 124 (.agg #[.int .i64 0, .int .i64 0]) 2 16 Try.underlying120 Try.infoMk rfl (by decide) rfl rfl (hmW.alloc _).drew (RowAt.lit W #[.int .i64 (last + 1), .int .i64 (es.length : Int)] 124 2 1 (by decide) rfl (by simp [Value.oneCell'])).sl.drew (by unfold maxLen; omega) (by omega) ?_; intro a3 c3 W3 hrow3 hupd3 hloc3 hnil3; have o3 := hupd3.obj (show (W.alloc (.cells #[.int .i64 (last + 1), .int .i64 (es.length : Int)] 124)).drew.heap[bj]? = _ from alloc_obj hoW) (fun ⟨ad, he, hb⟩ => h.nmk ad he hb); have k1' := obj_cell o3 1; have k2' := obj_cell o3 2; have f3 := obj_free o3 1; simp at k1' k2')
  all_goals
    go_wp2_with fail
    go_ret
    exact mark_fin (m := (last + 1, es.length)) h heW hoW uW HzW.out hrow3 hupd3 hloc3 _
end Go.Proofs.Ytpbocficffbcbaa
