import Derived.Test.YtpbocficffbcbaaNumCopy
import Derived.Test.YtpbocficffbcbaaEv4
import Derived.Test.YtpbocficffbcbaaDoG
import Derived.Test.YtpbocficffbcbaaHeldT
import Derived.Test.YtpbocficffbcbaaRefP
namespace Go.Proofs.Ytpbocficffbcbaa
open Go Go.RowKit
set_option linter.unusedVariables false

set_option maxRecDepth 100000 in
set_option maxHeartbeats 800000 in
theorem refBad (w : World) (cs : Array Value) (t : St) (hsz : cs.size = 37) (e : Ev) (r : Int) (hr : r = chk e) (h0 : r ≠ 0) :
    Calls Try.prog 58 #[.agg cs, evV e] w (RefTo w t r) := by
  have b1 : Below w.heap.size w (((w.alloc (.cells cs 79)).alloc (.cells (evA e) 64)).alloc (.cells zSt 79)) := ((((Below.refl _ w).alloc (Nat.le_refl _) _).alloc (by simp) _).alloc (by simp; omega) _)
  have oz := alloc_new ((w.alloc (.cells cs 79)).alloc (.cells (evA e) 64)) (.cells zSt 79)
  simp only [World.size_alloc] at oz
  have Oz := Lib.hid oz
  have Hb1 := Lib.hid b1
  have Hr := Lib.hid hr
  have H0 := Lib.hid h0
  have hrz : (r != 0) = true := by simp [h0]
  clear oz b1 hr h0
  go_enter Try.func58, Try.ntmps58
  go_wp2_with fail
  refine (refCheck _ e).mono ?_
  rintro x w1 ⟨rfl, hb1⟩
  rw [← Hr.out]
  have Oz1 := Lib.hid (below_obj hb1 Oz.out (by simp))
  have Hbb := Lib.hid (Hb1.out.trans (hb1.mono (by simp; omega)))
  clear hb1
  go_wp2_with (refine wpList_store_whole rfl 79 (.tmp 4) (.tmp 16) rfl (w.heap.size + 1 + 1) rfl 79 zSt zSt rfl Oz1.out Try.sizeSt rfl (zSt_O 0 w).c.one ?_; intro wz hobj hupdz)
  refine bodyPost_ret (results_cell_slot rfl _ wz (w.heap.size + 1 + 1) 79 zSt (0, 0) _ rfl hobj Try.underlying79 rfl Try.sizeSt) rfl ?_
  exact ⟨zSt, rfl, by rw [if_neg H0.out]; exact zSt_O _ _, (Hbb.out).trans (hupdz.below (by have := Hbb.out.size; have := (Hbb.out).size; omega) (fun k hk hb => by change _ = _ at hb; omega))⟩
end Go.Proofs.Ytpbocficffbcbaa
