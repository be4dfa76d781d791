import Derived.Test.YtpbocficffbcbaaTakeP
import Derived.Test.YtpbocficffbcbaaState4
namespace Go.Proofs.Ytpbocficffbcbaa
open Go Go.RowKit
set_option linter.unusedVariables false

/-- The cells of an event of which the numbers d are told. -/
def evL (d : List Int) : Array Value := ((d ++ List.replicate (6 - d.length) 0).map (Value.int .i64)).toArray
theorem evL_set (d : List Int) (n : Int) (h : d.length < 6) : (evL d).setIfInBounds d.length (.int .i64 n) = evL (d ++ [n]) := by
  unfold evL
  rw [List.setIfInBounds_toArray, ← List.map_set]
  congr 2
  rw [show 6 - d.length = (6 - (d ++ [n]).length) + 1 by simp; omega, List.replicate_succ, List.set_append_right _ _ (Nat.le_refl _)]
  simp
theorem evL_six (d : List Int) (h : d.length = 6) : evL d = evA (evOf d) := by
  match d, h with
  | [a, b, c, d, e, f], _ => rfl

theorem takeN_bad {k : Nat} {l : List Int} (h : (takeS l 0 0).2.2 ≠ 0) : takeN (k + 1) l = ([], [], (takeS l 0 0).2.2) := by
  simp only [takeN]
  rw [if_pos h]
theorem takeN_ok {k : Nat} {l : List Int} (h : (takeS l 0 0).2.2 = 0) : takeN (k + 1) l = ((takeS l 0 0).1 :: (takeN k (l.drop (takeS l 0 0).2.1)).1, (takeN k (l.drop (takeS l 0 0).2.1)).2) := by
  simp only [takeN]
  rw [if_neg (by simp [h])]
theorem takeN_none (l : List Int) : takeN 0 l = ([], l, 0) := rfl
structure ParseR (w : World) (l : List Int) (k : Nat) (wr : World) (rest : List Int) (a : Option Addr) (n c : Nat) (done : List Int) : Prop where
  sl : SlAt wr 1 a n c (rest.map (.int .u8))
  byte : ∀ x ∈ rest, 0 ≤ x ∧ x < 256
  small : n ≤ 1000
  off : ∀ ad, a = some ad → 0 < n → ad.block ≠ w.heap.size + 1
  ev : wr.heap[w.heap.size + 1]? = some (.cells (evL done) 64 (0, 0))
  res : wr.heap[w.heap.size]? = some (.cells (evA ev0) 64 (0, 0))
  ptr : wr.heap[w.heap.size + 2]? = some (.cells #[.pointer (some ⟨w.heap.size + 1, 0, none⟩), .pointer (some ⟨w.heap.size + 1, 1, none⟩), .pointer (some ⟨w.heap.size + 1, 2, none⟩), .pointer (some ⟨w.heap.size + 1, 3, none⟩), .pointer (some ⟨w.heap.size + 1, 4, none⟩), .pointer (some ⟨w.heap.size + 1, 5, none⟩)] 135 (0, 0))
  bel : Below w.heap.size w wr
  size : w.heap.size + 3 ≤ wr.heap.size
  len : done.length = k
  eq : takeN 6 l = (done ++ (takeN (6 - k) rest).1, (takeN (6 - k) rest).2)
theorem ParseR.step {w : World} {l : List Int} {k : Nat} {wr : World} {rest : List Int} {a : Option Addr} {n c : Nat} {done : List Int} (h : ParseR w l k wr rest a n c done) (hk : k < 6) {w2 : World} (hb : Below wr.heap.size wr w2) (h0 : (takeS rest 0 0).2.2 = 0)
    {a2 : Option Addr} {c2 m : Nat} (hm : m = (rest.drop (takeS rest 0 0).2.1).length) (hs : SlAt w2 1 a2 m c2 ((rest.drop (takeS rest 0 0).2.1).map (.int .u8))) (hf : Fresh wr.heap.size a2) :
    ParseR w l (k + 1) (w2.setCell ⟨w.heap.size + 1, k, none⟩ (.int .i64 (takeS rest 0 0).1)) (rest.drop (takeS rest 0 0).2.1) a2 m c2 (done ++ [(takeS rest 0 0).1]) := by
  have hsz := h.size
  have hoff : ∀ ad, a2 = some ad → ad.block ≠ w.heap.size + 1 := fun ad he => by have := hf ad he; omega
  have hrl : rest.length = n := by simpa using h.sl.len
  refine ⟨hs.setCell _ (fun ad he _ => hoff ad he) _, fun x hx => h.byte x (List.mem_of_mem_drop hx), ?_, fun ad he _ => hoff ad he, ?_, ?_, ?_, ?_, ?_, ?_, ?_⟩
  · have := h.small
    rw [hm, List.length_drop]
    omega
  · have := obj_set (below_obj hb h.ev (obj_lt h.ev)) k (.int .i64 (takeS rest 0 0).1)
    rw [show (evL done).setIfInBounds k (.int .i64 (takeS rest 0 0).1) = evL (done ++ [(takeS rest 0 0).1]) by rw [← h.len]; exact evL_set done _ (by rw [h.len]; exact hk)] at this
    exact this
  · exact setCell_obj (below_obj hb h.res (obj_lt h.res)) (by simp)
  · exact setCell_obj (below_obj hb h.ptr (obj_lt h.ptr)) (by simp)
  · exact (h.bel.trans (hb.mono (by omega))).setCell (by simp) _
  · have := hb.size
    simp
    omega
  · simp [h.len]
  · rw [h.eq, show 6 - k = (6 - (k + 1)) + 1 by omega]
    rw [takeN_ok h0]
    simp

set_option maxRecDepth 100000 in
set_option maxHeartbeats 3200000 in
theorem parse (w : World) (a : Option Addr) (n cap : Nat) (l : List Int) (h : SlAt w 1 a n cap (l.map (.int .u8))) (hb : ∀ c ∈ l, 0 ≤ c ∧ c < 256) (hn : n ≤ 1000) (r : Ev × Int) (hr : r = parseS l) :
    Calls Try.prog 73 #[.slice a n cap] w (fun x w' => x = .returned (.tuple #[evV r.1, errV 32 r.2]) ∧ Below w.heap.size w w') := by
  have Hr := Lib.hid hr
  clear hr
  have hst : ParseR w l 0 (((w.alloc (.cells (evA ev0) 64)).alloc (.cells (evA ev0) 64)).alloc (.cells #[.pointer (some ⟨w.heap.size + 1, 0, none⟩), .pointer (some ⟨w.heap.size + 1, 1, none⟩), .pointer (some ⟨w.heap.size + 1, 2, none⟩), .pointer (some ⟨w.heap.size + 1, 3, none⟩), .pointer (some ⟨w.heap.size + 1, 4, none⟩), .pointer (some ⟨w.heap.size + 1, 5, none⟩)] 135)) l a n cap [] := by
    have o1 := alloc_new (w.alloc (.cells (evA ev0) 64)) (.cells (evA ev0) 64)
    rw [World.size_alloc] at o1
    have o2 := fun o => alloc_new ((w.alloc (.cells (evA ev0) 64)).alloc (.cells (evA ev0) 64)) o
    simp only [World.size_alloc] at o2
    exact ⟨((h.alloc _).alloc _).alloc _, hb, hn, fun ad he h0 => by have := h.lt ad he h0; omega, alloc_obj o1, alloc_obj (alloc_obj (alloc_new w _)), o2 _, (((Below.refl _ w).alloc (Nat.le_refl _) _).alloc (by simp) _).alloc (by simp; omega) _, by simp, rfl, by simp⟩
  have Hst := Lib.hid hst
  clear hst h hb
  go_enter Try.func73, Try.ntmps73
  go_wp2_with fail
  go_loopw [0, 19] (fun s i wr => ∃ (k n : Nat) (rest : List Int) (a : Option Addr) (c : Nat) (done : List Int), k ≤ 6 ∧ i = .int .i64 k ∧ s = .slice a n c ∧ ParseR w l k wr rest a n c done) (fun _ i _ => 6 - (intOf i).toNat)
  case atStart => exact ⟨0, n, l, a, cap, [], by omega, rfl, rfl, Hst.out⟩
  case round =>
    obtain ⟨k, n, rest, a, c, done, hk, rfl, rfl, hst⟩ := hrel
    by_cases hlt : k < 6
    · have hp := (obj_cell hst.ptr k).trans (show _ = some (Value.pointer (some ⟨w.heap.size + 1, k, none⟩)) from match k, hlt with | 0, _ | 1, _ | 2, _ | 3, _ | 4, _ | 5, _ => rfl)
      have Hst := Lib.hid hst
      clear hst
      go_wp2_with fail
      refine (wireTake _ _ _ _ rest Hst.out.sl Hst.out.byte Hst.out.small _ rfl).mono ?_
      have hz := Hst.out.size
      rintro x w2 (⟨hbad, rfl, hb2⟩ | ⟨h0, a2, c2, rfl, hs2, hf2, hb2⟩)
      · have hpar : parseS l = (ev0, (takeS rest 0 0).2.2) := by
          have he := Hst.out.eq
          rw [show 6 - k = (6 - (k + 1)) + 1 by omega] at he
          rw [takeN_bad hbad] at he
          unfold parseS
          rw [he, if_pos hbad]
        have hfin := Hst.out.bel.trans (hb2.mono (by omega))
        have hres := below_obj hb2 Hst.out.res (obj_lt Hst.out.res)
        have hr2 := Hr.out.trans hpar
        generalize (takeS rest 0 0).2.2 = bad at *
        rw [errV_pos _ _ hbad]
        have Hbad := Lib.hid hbad
        have Hpar := Lib.hid hr2
        have Hfin := Lib.hid hfin
        have Hres := Lib.hid hres
        clear hbad hpar hr2 hfin hres hb2
        obtain ⟨d0, d1, d2, d3, d4, d5⟩ := EvCells.of Hres.out
        have df := fun j => obj_free Hres.out j
        go_wp2_with fail
        refine bodyPost_ret (v := .tuple #[evV r.1, errV 32 r.2]) ?_ rfl ⟨rfl, ?_⟩
        · rw [Hpar.out]
          simp [results, Try.results73, go_sem, d0, d1, d2, d3, d4, d5]
          first
            | done
            | exact ⟨⟨rfl, rfl, rfl, rfl, rfl, rfl⟩, by rw [errV_pos _ _ Hbad.out]⟩
            | exact ⟨⟨rfl, rfl, rfl, rfl, rfl, rfl⟩, by rw [errV_pos _ _ Hc.out]⟩
            | exact ⟨⟨rfl, rfl, rfl, rfl, rfl, rfl⟩, rfl⟩
            | rfl
        · exact (((((Hfin.out.setCell (by simp) _).setCell (by simp) _).setCell (by simp) _).setCell (by simp) _).setCell (by simp) _).setCell (by simp) _
      · rw [errV_zero]
        have hnx := Hst.out.step hlt hb2 h0 rfl hs2 hf2
        have kf := obj_free (below_obj hb2 Hst.out.ev (obj_lt Hst.out.ev)) k
        have kc : ∃ v, w2.cell? ⟨w.heap.size + 1, k, none⟩ = some v := ⟨_, (obj_cell (below_obj hb2 Hst.out.ev (obj_lt Hst.out.ev)) k).trans (by rw [Array.getElem?_eq_getElem (show k < (evL done).size by simp [evL, Hst.out.len]; omega)])⟩
        obtain ⟨vk, kc⟩ := kc
        obtain ⟨m, hm⟩ : ∃ m, m = (rest.drop (takeS rest 0 0).2.1).length := ⟨_, rfl⟩
        rw [← hm] at hnx ⊢
        have Hnx := Lib.hid hnx
        clear hnx hs2 hf2 hm h0
        generalize (takeS rest 0 0).1 = z at *
        generalize rest.drop (takeS rest 0 0).2.1 = rest2 at *
        go_wp2_with fail
        go_roundw
        case rel => exact ⟨k + 1, _, _, a2, c2, _, by omega, by go_num, rfl, Hnx.out⟩
        case measure => simp [intOf]; omega
    · obtain rfl : k = 6 := by omega
      have Hst := Lib.hid hst
      clear hst
      have he := Hst.out.eq
      simp only [Nat.sub_self, takeN_none, List.append_nil] at he
      have hev := Hst.out.ev
      rw [evL_six done Hst.out.len] at hev
      have hlen : rest.length = n := by simpa using Hst.out.sl.len
      have hres := Hst.out.res
      have hfin := Hst.out.bel
      have hz := Hst.out.size
      rcases Nat.eq_zero_or_pos n with h0 | h0
      · subst h0
        obtain rfl : rest = [] := List.eq_nil_of_length_eq_zero hlen
        have hpar : parseS l = if chk (evOf done) ≠ 0 then (ev0, chk (evOf done)) else (evOf done, 0) := by
          unfold parseS
          rw [he]
          simp
        generalize evOf done = e at *
        have hr2 := Hr.out.trans hpar
        have Hev := Lib.hid hev
        have Hpar := Lib.hid hr2
        have Hfin := Lib.hid hfin
        have Hres := Lib.hid hres
        clear hpar hr2 hfin hres hev he Hst Hr
        obtain ⟨c0, c1, c2, c3, c4, c5⟩ := EvCells.of Hev.out
        go_wp2_with fail
        refine (check _ e).mono ?_
        rintro x w2 ⟨rfl, hb2⟩
        have Hfin2 := Lib.hid (Hfin.out.trans (hb2.mono (by omega)))
        have Hres2 := Lib.hid (below_obj hb2 Hres.out (obj_lt Hres.out))
        have Hev2 := Lib.hid (below_obj hb2 Hev.out (obj_lt Hev.out))
        clear c0 c1 c2 c3 c4 c5
        obtain ⟨c0, c1, c2, c3, c4, c5⟩ := EvCells.of Hev2.out
        clear hb2
        by_cases hc : chk e = 0
        · have hr3 := Hpar.out
          rw [if_neg (by simp [hc])] at hr3
          rw [hc, errV_zero]
          have Hr3 := Lib.hid hr3
          clear hr3 Hpar hc
          obtain ⟨d0, d1, d2, d3, d4, d5⟩ := EvCells.of Hres2.out
          have df := fun j => obj_free Hres2.out j
          go_wp2_with fail
          refine bodyPost_ret (v := .tuple #[evV r.1, errV 32 r.2]) ?_ rfl ⟨rfl, ?_⟩
          · rw [Hr3.out]
            simp [results, Try.results73, go_sem, d0, d1, d2, d3, d4, d5]
            first
              | done
              | exact ⟨⟨rfl, rfl, rfl, rfl, rfl, rfl⟩, by rw [errV_pos _ _ Hbad.out]⟩
              | exact ⟨⟨rfl, rfl, rfl, rfl, rfl, rfl⟩, by rw [errV_pos _ _ Hc.out]⟩
              | exact ⟨⟨rfl, rfl, rfl, rfl, rfl, rfl⟩, rfl⟩
              | rfl
          · exact (((((Hfin2.out.setCell (by simp) _).setCell (by simp) _).setCell (by simp) _).setCell (by simp) _).setCell (by simp) _).setCell (by simp) _
        · have hr3 := Hpar.out
          rw [if_pos hc] at hr3
          generalize chk e = ce at *
          rw [errV_pos _ _ hc]
          have Hr3 := Lib.hid hr3
          have Hc := Lib.hid hc
          clear hr3 Hpar hc
          obtain ⟨d0, d1, d2, d3, d4, d5⟩ := EvCells.of Hres2.out
          have df := fun j => obj_free Hres2.out j
          go_wp2_with fail
          refine bodyPost_ret (v := .tuple #[evV r.1, errV 32 r.2]) ?_ rfl ⟨rfl, ?_⟩
          · rw [Hr3.out]
            simp [results, Try.results73, go_sem, d0, d1, d2, d3, d4, d5]
            first
              | done
              | exact ⟨⟨rfl, rfl, rfl, rfl, rfl, rfl⟩, by rw [errV_pos _ _ Hbad.out]⟩
              | exact ⟨⟨rfl, rfl, rfl, rfl, rfl, rfl⟩, by rw [errV_pos _ _ Hc.out]⟩
              | exact ⟨⟨rfl, rfl, rfl, rfl, rfl, rfl⟩, rfl⟩
              | rfl
          · exact (((((Hfin2.out.setCell (by simp) _).setCell (by simp) _).setCell (by simp) _).setCell (by simp) _).setCell (by simp) _).setCell (by simp) _
      · have hpar : parseS l = (ev0, 3) := by
          unfold parseS
          rw [he, if_neg (by simp), if_pos (by intro h; have h' : rest = [] := h; subst h'; simp at hlen; omega)]
        have hr2 := Hr.out.trans hpar
        have Hpar := Lib.hid hr2
        have Hfin := Lib.hid hfin
        have Hres := Lib.hid hres
        clear hpar hr2 hfin hres hev he Hst Hr
        obtain ⟨d0, d1, d2, d3, d4, d5⟩ := EvCells.of Hres.out
        have df := fun j => obj_free Hres.out j
        go_wp2_with fail
        refine bodyPost_ret (v := .tuple #[evV r.1, errV 32 r.2]) ?_ rfl ⟨rfl, ?_⟩
        · rw [Hpar.out]
          simp [results, Try.results73, go_sem, d0, d1, d2, d3, d4, d5]
          first
            | done
            | exact ⟨⟨rfl, rfl, rfl, rfl, rfl, rfl⟩, by rw [errV_pos _ _ Hbad.out]⟩
            | exact ⟨⟨rfl, rfl, rfl, rfl, rfl, rfl⟩, by rw [errV_pos _ _ Hc.out]⟩
            | exact ⟨⟨rfl, rfl, rfl, rfl, rfl, rfl⟩, rfl⟩
            | rfl
        · exact (((((Hfin.out.setCell (by simp) _).setCell (by simp) _).setCell (by simp) _).setCell (by simp) _).setCell (by simp) _).setCell (by simp) _
end Go.Proofs.Ytpbocficffbcbaa
