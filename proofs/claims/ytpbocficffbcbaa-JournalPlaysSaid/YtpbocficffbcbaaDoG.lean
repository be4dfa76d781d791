import Derived.Test.YtpbocficffbcbaaDoB
import Derived.Test.YtpbocficffbcbaaDoM
import Derived.Test.YtpbocficffbcbaaDoO
namespace Go.Proofs.Ytpbocficffbcbaa
open Go Go.RowKit
set_option linter.unusedVariables false

set_option maxRecDepth 100000 in
set_option maxHeartbeats 400000 in
theorem doGame (w : World) (B g : Nat) (cs : Array Value) (s : St) (h : StAt w B g s cs) (ok : StOk s) (e : Ev) (b : Nat) (hb : b < 7) (hek : e.k = 4) (hea : e.a = 0) (heb : e.b = b) (hk : chk e = 0) (n : Int) (hn : n = if s.p.getD (18 + b) 0 = e.c then 0 else 20) (t : St) (ht : t = setP s (18 + b) e.d) :
    Calls Try.prog 62 #[.pointer (some ⟨g, 0, none⟩), evV e] w (DoTo w B g s t n) := by
  have Hn := Lib.hid hn
  have Ht := Lib.hid ht
  clear hn ht
  have hg := obj_lt h.obj
  have Hh := Lib.hid h
  have Hok := Lib.hid ok
  have Hk := Lib.hid hk
  have Hek := Lib.hid hek
  have Hea := Lib.hid hea
  have Heb := Lib.hid heb
  clear h ok hk hek hea heb
  go_enter Try.func62, Try.ntmps62
  go_wp2_with fail
  refine (check _ _).mono ?_
  rintro x w1 ⟨rfl, hb1⟩
  rw [Hk.out, errV_zero]
  have b0 : Below w.heap.size w (w.alloc (.cells (evA e) 64)) := ((Below.refl _ w).alloc (Nat.le_refl _) _)
  have Hh1 := Lib.hid ((Hh.out.all b0).all hb1)
  have Ho1 := Lib.hid (below_obj hb1 (alloc_new w (.cells (evA e) 64)) (by simp))
  have Hb1 := Lib.hid (b0.trans (hb1.mono (by simp)))
  have hx1 := EvCells.of Ho1.out
  unfold EvCells at hx1
  rw [Hek.out, Hea.out, Heb.out] at hx1
  clear hb1 b0 Hh
  have hx2 := hx1
  obtain ⟨c0, c1, c2, c3, c4, c5⟩ := hx2
  go_wp2_with fail
  clear c0 c1 c2 c3 c4 c5
  have hbi : (b : Int) < 7 := by omega
  have hnum := Hh1.out.own.num (18 + b) (by omega)
  have kc : w1.cell? ⟨g, 30 + b, none⟩ = some (.int .i64 (s.p.getD (18 + b) 0)) := (obj_cell Hh1.out.obj _).trans (by rw [show 30 + b = 12 + (18 + b) by omega]; exact hnum)
  have kf : w1.frozen? ⟨g, 30 + b, none⟩ = false := obj_free Hh1.out.obj _
  have Kc : Hid (w1.drew.cell? ⟨g, 30 + b, none⟩ = some (.int .i64 (s.p.getD (18 + b) 0))) := kc
  have Kf : Hid (w1.drew.frozen? ⟨g, 30 + b, none⟩ = false) := kf
  have hg1 : g < w1.heap.size := obj_lt Hh1.out.obj
  have hge : g ≠ w.heap.size := by omega
  generalize hzd : s.p.getD (18 + b) 0 = z at *
  clear kc kf hnum hzd
  have hxa : ∀ w', Below w1.heap.size w1 w' → EvCells w' w.heap.size e := fun w' hb => EvCells.of (below_obj hb Ho1.out (obj_lt Ho1.out))
  have Hxa := Lib.hid hxa
  clear hxa
  by_cases hz : z = e.c
  · have Hz := Lib.hid hz
    clear hz
    go_region_held3 (fun x => x.cell? ⟨w.heap.size, 0, none⟩ = some (.int .i64 4) ∧ x.cell? ⟨w.heap.size, 1, none⟩ = some (.int .i64 0) ∧ x.cell? ⟨w.heap.size, 2, none⟩ = some (.int .i64 b) ∧ x.cell? ⟨w.heap.size, 3, none⟩ = some (.int .i64 e.c) ∧ x.cell? ⟨w.heap.size, 4, none⟩ = some (.int .i64 e.d) ∧ x.cell? ⟨w.heap.size, 5, none⟩ = some (.int .i64 e.e))
      (first | exact hx1 | exact hx2)
      (first | (go_at_call 99; refine (setOk _ g (30 + b) z ⟨4, 0, b, e.c, e.d, e.e⟩ Kc.out Kf.out Hz.out).mono ?_; rintro x w2 ⟨rfl, w3, hb3, rfl⟩; have hx2 := EvCells.lay (EvCells.set (Hxa.out w3 (undrew hb3)) hge (30 + b) (.int .i64 e.d)) Hek.out Hea.out Heb.out))
    clear hx1 hx2
    go_wp2_with fail
    go_ret
    have hb4 := Hb1.out.trans ((undrew hb3).mono Hb1.out.size)
    have hst := (Hh1.out.all (undrew hb3)).setP (18 + b) (by omega) Hok.out.p e.d
    rw [show 12 + (18 + b) = 30 + b by omega, ← Ht.out] at hst
    have hn0 : n = 0 := by rw [Hn.out, if_pos Hz.out]
    exact ⟨ret_err hn0.symm, (Upd.of_below (S := fun k => k = g) hb4).setCell _ (fun _ => rfl) _, _, by rw [if_pos hn0]; exact hst⟩
  · have Hz := Lib.hid hz
    clear hz
    go_region_held3 (fun x => x.cell? ⟨w.heap.size, 0, none⟩ = some (.int .i64 4) ∧ x.cell? ⟨w.heap.size, 1, none⟩ = some (.int .i64 0) ∧ x.cell? ⟨w.heap.size, 2, none⟩ = some (.int .i64 b) ∧ x.cell? ⟨w.heap.size, 3, none⟩ = some (.int .i64 e.c) ∧ x.cell? ⟨w.heap.size, 4, none⟩ = some (.int .i64 e.d) ∧ x.cell? ⟨w.heap.size, 5, none⟩ = some (.int .i64 e.e))
      (first | exact hx1 | exact hx2)
      (first | (go_at_call 99; refine (setBad _ g (30 + b) z ⟨4, 0, b, e.c, e.d, e.e⟩ Kc.out Kf.out Hz.out).mono ?_; rintro x w3 ⟨rfl, hb3⟩; have hx2 := EvCells.lay (Hxa.out w3 (undrew hb3)) Hek.out Hea.out Heb.out))
    clear hx1 hx2
    go_wp2_with fail
    go_ret
    have hb4 := Hb1.out.trans ((undrew hb3).mono Hb1.out.size)
    have hn0 : n = 20 := by rw [Hn.out, if_neg Hz.out]
    exact ⟨ret_err (a := 20) hn0.symm, Upd.of_below hb4, _, by rw [hn0]; exact Hh1.out.all (undrew hb3)⟩
end Go.Proofs.Ytpbocficffbcbaa
