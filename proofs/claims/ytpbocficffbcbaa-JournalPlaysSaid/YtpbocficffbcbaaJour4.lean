import Derived.Test.YtpbocficffbcbaaJour2
namespace Go.Proofs.Ytpbocficffbcbaa
open Go Go.RowKit
set_option linter.unusedVariables false

/-- The first error of events. -/
def chks : List Ev → Int
  | [] => 0
  | e :: l => if chk e = 0 then chks l else chk e
theorem chks_append (a b : List Ev) : chks (a ++ b) = if chks a = 0 then chks b else chks a := by
  induction a with
  | nil => simp [chks]
  | cons e l ih =>
    simp only [List.cons_append, chks]
    by_cases h : chk e = 0
    · simp [h, ih]
    · simp [h]
theorem chks_hit {l : List Ev} {k : Nat} {e : Ev} (h : l[k]? = some e) (h0 : chks (l.take k) = 0) (hne : chk e ≠ 0) : chks l = chk e := by
  have := chks_append (l.take k) (l.drop k)
  rw [List.take_append_drop, if_pos h0] at this
  rw [this]
  obtain ⟨hk, rfl⟩ := List.getElem?_eq_some_iff.1 h
  rw [List.drop_eq_getElem_cons hk]
  simp [chks, hne]
theorem chks_step {l : List Ev} {k : Nat} {e : Ev} (h : l[k]? = some e) (h0 : chks (l.take k) = 0) (he : chk e = 0) : chks (l.take (k + 1)) = 0 := by
  rw [ev_take h, chks_append, if_pos h0]
  simp [chks, he]
def addErr (es l : List Ev) : Int := if chks l = 0 then (if 65536 - (es.length : Int) < l.length then 5 else 0) else chks l
def addNext (es l : List Ev) : List Ev := if addErr es l = 0 then es ++ l else es

theorem addErr_bad {es l : List Ev} {x : Int} (h : chks l = x) (hx : ¬ x = 0) : addErr es l = x ∧ addNext es l = es := by
  have h1 : addErr es l = x := by
    unfold addErr
    rw [h, if_neg hx]
  exact ⟨h1, by unfold addNext; rw [h1, if_neg hx]⟩
theorem add_fin {w W W3 : World} {bj : Nat} {es l : List Ev} {ms : List Mk} {last : Int} {ea ma a3 : Option Addr} {ec mc c3 n : Nat} (h : JAt w bj es ms last ea ec ma mc) (hl : l.length = n) (hW : Below w.heap.size w W)
    (hrow3 : RowAt W3 64 6 a3 (es.length + n) c3 (evs es ++ evs l)) (hupd3 : Upd (blk ea) W W3) (hloc3 : ∀ ad, a3 = some ad → ea = some ad ∨ W.heap.size ≤ ad.block) (v : Value) :
    JTo w bj ea ma (es ++ l) ms last v (.returned v) (W3.setCell ⟨bj, 0, none⟩ (.slice a3 (es.length + n) c3)) := by
  have hj := h.all hW
  have hbj : bj < w.heap.size := obj_lt h.obj
  have o3 := hupd3.obj hj.obj (fun ⟨ad, he, hb⟩ => h.nev ad he hb)
  have hl3 : ∀ ad, a3 = some ad → ea = some ad ∨ w.heap.size ≤ ad.block := fun ad he => (hloc3 ad he).imp id (fun h' => Nat.le_trans hW.size h')
  have hn3 : ∀ ad, a3 = some ad → ad.block ≠ bj := fun ad he => by
    rcases hl3 ad he with h1 | h1
    · exact h.nev ad h1
    · omega
  have m3 : RowAt W3 124 2 ma ms.length mc (mks ms) := hj.mkr.upd hupd3 (fun ad hm ⟨ad', he, hb⟩ => h.nem ad' ad he hm hb)
  refine ⟨a3, c3, ma, mc, rfl, ⟨?_, ?_, m3.setCell _ (fun ad he => h.nmk ad he) _⟩, ?_, hl3, fun _ he => .inl he⟩
  · have := obj_set o3 0 (.slice a3 (es.length + n) c3)
    simpa [hl] using this
  · have := hrow3.setCell ⟨bj, 0, none⟩ hn3 (.slice a3 (es.length + n) c3)
    rw [List.length_append, hl]
    simpa [evs] using this
  · exact ((Upd.of_below hW).trans hupd3 (fun _ _ hb => .inr (.inl hb))).setCell _ (fun _ => .inl rfl) _

set_option maxRecDepth 100000 in
set_option maxHeartbeats 1600000 in
theorem add (w : World) (bj : Nat) (es : List Ev) (ms : List Mk) (last : Int) (ea ma : Option Addr) (ec mc : Nat) (h : JAt w bj es ms last ea ec ma mc) (hes : es.length ≤ 65536)
    (a : Option Addr) (n cap : Nat) (l : List Ev) (hs : SlAt w 6 a n cap (evs l)) (hn : n < 1000000) :
    Calls Try.prog 32 #[.pointer (some ⟨bj, 0, none⟩), .slice a n cap] w (JTo w bj ea ma (addNext es l) ms last (errV 32 (addErr es l))) := by
  have hl := Lib.hid (ev_len hs)
  go_enter Try.func32, Try.ntmps32
  go_wp2_with fail
  go_loopw [13] (fun i wr => ∃ k : Nat, k ≤ n ∧ i = .int .i64 k ∧ chks (l.take k) = 0 ∧ Below w.heap.size w wr) (fun i _ => n - (intOf i).toNat)
  case atStart => exact ⟨0, Nat.zero_le _, rfl, rfl, Below.refl _ _⟩
  case round =>
    obtain ⟨k, hk, rfl, hc0, hbel⟩ := hrel
    by_cases hlt : k < n
    · obtain ⟨b, off, x, rfl, hx, hb, ⟨xk, xa, xb, xc, xd, xe⟩⟩ := ev_at (hs.all hbel) hlt
      have Hc := Lib.hid hc0
      have Hx := Lib.hid hx
      clear hc0 hx
      have bz := hbel.size
      go_wp2_with fail
      refine (check _ x).mono ?_
      rintro e w2 ⟨rfl, hb2⟩
      have b2 : Below w.heap.size w w2 := (hbel.alloc bz _).trans (hb2.mono (by simp; omega))
      by_cases hz : chk x = 0
      · have Hs := Lib.hid (chks_step Hx.out Hc.out hz)
        rw [hz]
        have ez := errV_zero 32
        rw [ez]
        clear hz ez
        go_wp2_with fail
        go_roundw
        case rel => exact ⟨k + 1, by omega, by go_num, Hs.out, b2⟩
        case measure => simp [intOf]; omega
      · have Hs := Lib.hid (chks_hit Hx.out Hc.out hz)
        have Hn := Lib.hid (addErr_bad (es := es) Hs.out hz).2
        have He := Lib.hid (addErr_bad (es := es) Hs.out hz).1
        have ez := errV_pos 32 (chk x) hz
        have Ez := Lib.hid ez
        rw [ez]
        clear hz ez
        go_wp2_with fail
        go_ret
        rw [Hn.out, He.out, Ez.out]
        exact JTo.same h b2 _
    · obtain rfl : k = n := by omega
      have hj := h.all hbel
      have c0 := obj_cell hj.obj 0
      have f0 := obj_free hj.obj 0
      simp at c0
      have hcl : chks l = 0 := by rw [List.take_of_length_le (by have := hl.out; omega)] at hc0; exact hc0
      by_cases hroom : 65536 - (es.length : Int) < k
      · have He : addErr es l = 5 := by unfold addErr; rw [if_pos hcl, if_pos (by rw [hl.out]; exact hroom)]
        have Hn : addNext es l = es := by unfold addNext; rw [if_neg (by rw [He]; decide)]
        have Hn' := Lib.hid Hn
        have He' := Lib.hid He
        clear hcl hc0 He Hn
        go_wp2_with fail
        go_ret
        rw [Hn'.out, He'.out]
        exact JTo.same h hbel _
      · have He : addErr es l = 0 := by unfold addErr; rw [if_pos hcl, if_neg (by rw [hl.out]; exact hroom)]
        have Hn : addNext es l = es ++ l := by unfold addNext; rw [if_pos He]
        have Hn' := Lib.hid Hn
        have He' := Lib.hid He
        clear hcl hc0 He Hn
        have hs' := hs.all hbel
        go_wp2_with (at_builtin; refine wp_append rfl (.tmp 37) (.tmp 38) 40 rfl 64 (.agg #[.int .i64 0, .int .i64 0, .int .i64 0, .int .i64 0, .int .i64 0, .int .i64 0]) 6 48 Try.underlying40 Try.infoEv rfl (by decide) rfl rfl hj.ev hs' (by unfold maxLen; omega) (by omega) ?_; intro a3 c3 W3 hrow3 hupd3 hloc3 hnil3; have o3 := hupd3.obj hj.obj (fun ⟨ad, he, hb⟩ => h.nev ad he hb); have c03 := obj_cell o3 0; have f03 := obj_free o3 0; simp at c03)
        go_ret
        rw [Hn'.out, He'.out]
        exact add_fin h hl.out hbel hrow3 hupd3 hloc3 _
end Go.Proofs.Ytpbocficffbcbaa
