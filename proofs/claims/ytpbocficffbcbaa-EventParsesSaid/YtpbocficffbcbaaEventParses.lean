import Derived.Test.YtpbocficffbcbaaParse
import Derived.Test.YtpbocficffbcbaaTake2
import Derived.Test.YtpbocficffbcbaaEventInverts
namespace Go.Proofs.Ytpbocficffbcbaa
open Go Go.RowKit
set_option linter.unusedVariables false
set_option linter.unusedSimpArgs false

/-- A slice of bytes from p on. -/
theorem SlAt.from_ {w : World} {a : Option Addr} {n cap : Nat} {xs : List Value} (h : SlAt w 1 a n cap xs) {p : Nat} (hp : p ≤ n) : SlAt w 1 (if cap = p then a else a.map (·.add p)) (n - p) (cap - p) (xs.drop p) where
  len := by rw [List.length_drop, h.len]; omega
  le := by have := h.le; omega
  max := by have := h.max; omega
  nil := fun he => by
    split at he
    · have := h.nil he; omega
    · have := h.nil (by simpa using he); omega
  one := fun u hu => h.one u (List.mem_of_mem_drop hu)
  at_ := fun ad he hn => by
    have hle := h.le
    rw [if_neg (by omega)] at he
    cases a with
    | none => cases he
    | some a0 =>
      obtain ⟨h1, h2, h3⟩ := h.at_ a0 rfl (by omega)
      obtain ⟨b, off, sp⟩ := a0
      simp only at h1 h2 h3
      subst h1
      simp only [Option.map_some, Addr.add_lit, Option.some.injEq] at he
      subst he
      refine ⟨rfl, h2, fun j u hu => ?_⟩
      rw [List.getElem?_drop] at hu
      have := h3 (p + j) u hu
      rw [show off + p + j = off + (p + j) by omega]
      exact this
theorem evL_any (d : List Int) (h : d.length ≤ 6) : evL d = evA (evOf d) := by
  match d, h with
  | [], _ | [a], _ | [a, b], _ | [a, b, c], _ | [a, b, c, d], _ | [a, b, c, d, e], _ | [a, b, c, d, e, f], _ => rfl

theorem EvCells6.of {w : World} {k : Nat} {e : Ev} {T : TypeId} (h : w.heap[k]? = some (.cells (evA e) T (0, 0))) : EvCells w k e :=
  ⟨(obj_cell h 0).trans rfl, (obj_cell h 1).trans rfl, (obj_cell h 2).trans rfl, (obj_cell h 3).trans rfl, (obj_cell h 4).trans rfl, (obj_cell h 5).trans rfl⟩
/-- k numbers taken, the error z. -/
structure LawR (w0 : World) (l : List Int) (k p : Nat) (z : Int) (wr : World) (done : List Int) : Prop where
  arr : wr.heap[w0.heap.size]? = some (.cells (evL done) 101 (0, 0))
  bel : Below w0.heap.size w0 wr
  size : w0.heap.size + 1 ≤ wr.heap.size
  len : done.length = k
  le : p ≤ l.length
  eq : if z = 0 then takeN 6 l = (done ++ (takeN (6 - k) (l.drop p)).1, (takeN (6 - k) (l.drop p)).2) else (takeN 6 l).2.2 = z
theorem LawR.step {w0 : World} {l : List Int} {k p : Nat} {wr : World} {done : List Int} (h : LawR w0 l k p 0 wr done) (hk : k < 6) (hle : p + (takeS (l.drop p) 0 0).2.1 ≤ l.length) :
    LawR w0 l (k + 1) (p + (takeS (l.drop p) 0 0).2.1) (takeS (l.drop p) 0 0).2.2 (wr.setCell ⟨w0.heap.size, k, none⟩ (.int .i64 (takeS (l.drop p) 0 0).1)) (done ++ [(takeS (l.drop p) 0 0).1]) := by
  have he := h.eq
  rw [if_pos rfl, show 6 - k = (6 - (k + 1)) + 1 by omega] at he
  refine ⟨?_, h.bel.setCell (Nat.le_refl _) _, by have := h.size; simp; omega, by simp [h.len], hle, ?_⟩
  · have := obj_set h.arr k (.int .i64 (takeS (l.drop p) 0 0).1)
    rw [show (evL done).setIfInBounds k (.int .i64 (takeS (l.drop p) 0 0).1) = evL (done ++ [(takeS (l.drop p) 0 0).1]) by rw [← h.len]; exact evL_set done _ (by rw [h.len]; exact hk)] at this
    exact this
  · by_cases h0 : (takeS (l.drop p) 0 0).2.2 = 0
    · rw [if_pos h0, he, takeN_ok h0, List.drop_drop]
      simp
    · rw [if_neg h0, he, takeN_bad h0]
theorem takeS_le : ∀ (l : List Int) (i x : Nat), (takeS l i x).2.1 ≤ i + l.length
  | [], i, x => by simp [takeS]
  | c :: l, i, x => by
    have := takeS_le l (i + 1) (x + (c % 128).toNat * 2 ^ (7 * i))
    simp only [takeS, List.length_cons]
    split
    · simp
    · split
      · simp
      · split
        · omega
        · split
          · simp
          · simp

set_option maxRecDepth 100000 in
set_option maxHeartbeats 6400000 in
theorem eventParses (w : World) (a : Option Addr) (n cap : Nat) (l : List Int) (h : SlAt w 1 a n cap (l.map (.int .u8))) (hb : ∀ c ∈ l, 0 ≤ c ∧ c < 256) :
    Calls Try.prog 13 #[.slice a n cap] w (fun x w' => x = .returned (.bool true) ∧ Below w.heap.size w w') := by
  have hll : l.length = n := by simpa using h.len
  have hcap := h.le
  have Hb := Lib.hid hb
  have Hh := Lib.hid h
  clear h hb
  go_enter Try.func13, Try.ntmps13
  go_wp2_with fail
  refine (alive12 _).mono ?_
  rintro x w1 ⟨rfl, hb1⟩
  have Hb1 := Lib.hid hb1
  have Hh1 := Lib.hid (Hh.out.all hb1)
  clear hb1
  by_cases hbig : 300 < n
  · go_wp2_with fail
    go_ret
    exact ⟨rfl, Hb1.out⟩
  · have hbi : ¬ (300 : Int) < n := by omega
    go_wp2_with fail
    have hst : LawR w1 l 0 0 0 (w1.alloc (.cells (evL []) 101)) [] := ⟨alloc_new w1 _, (Below.refl _ w1).alloc (Nat.le_refl _) _, by simp, rfl, by omega, by rw [if_pos rfl]; simp⟩
    have Hst := Lib.hid hst
    clear hst
    go_loopw [6, 4, 5] (fun i p z wr => ∃ (k q : Nat) (y : Int) (done : List Int), k ≤ 6 ∧ i = .int .i64 k ∧ p = .int .i64 q ∧ z = .int .i64 y ∧ LawR w1 l k q y wr done) (fun i _ _ _ => 6 - (intOf i).toNat)
    case atStart => exact ⟨0, 0, 0, [], by omega, rfl, rfl, rfl, Hst.out⟩
    case round =>
      obtain ⟨k, p, z, done, hk, rfl, rfl, rfl, hst⟩ := hrel
      have hpl := hst.le
      by_cases hgo : k < 6 ∧ z = 0
      · obtain ⟨hlt, rfl⟩ := hgo
        have hp1 : (p : Int) ≤ n := by omega
        have hsub := (Hh1.out.all hst.bel).from_ (p := p) (by omega)
        obtain ⟨sa, hsa⟩ : ∃ sa, (if cap = p then a else a.map (fun x => x.add p)) = sa := ⟨_, rfl⟩
        rw [hsa] at hsub
        have hsm := takeS_le (l.drop p) 0 0
        rw [List.length_drop] at hsm
        have hst2 := hst.step hlt (by omega)
        have hq : IntKind.i64.wrap ((p : Int) + ((takeS (l.drop p) 0 0).2.1 : Nat)) = ((p + (takeS (l.drop p) 0 0).2.1 : Nat) : Int) := by simp [IntKind.wrap, IntKind.signed, IntKind.bits]; omega
        have kf := obj_free hst.arr k
        have kc : ∃ v, wr.cell? ⟨w1.heap.size, k, none⟩ = some v := ⟨_, (obj_cell hst.arr k).trans (by rw [Array.getElem?_eq_getElem (show k < (evL done).size by simp [evL, hst.len]; omega)])⟩
        obtain ⟨vk, kc⟩ := kc
        rw [← List.map_drop] at hsub
        have hby : ∀ c ∈ l.drop p, 0 ≤ c ∧ c < 256 := fun c hc => Hb.out c (List.mem_of_mem_drop hc)
        obtain ⟨r, hr⟩ : ∃ r, r = takeS (l.drop p) 0 0 := ⟨_, rfl⟩
        rw [← hr] at hst2 hq
        generalize l.drop p = lp at *
        have Hsub := Lib.hid hsub
        have Hst2 := Lib.hid hst2
        have Hr := Lib.hid hr
        have Hby := Lib.hid hby
        clear hsub hst2 hr hby hst hsm Hst
        go_wp2_with fail
        refine (refTake _ _ _ _ lp Hsub.out Hby.out (by omega) r Hr.out).mono ?_
        rintro x w2 ⟨rfl, rfl⟩
        go_wp2_with fail
        go_roundw
        case rel => exact ⟨k + 1, _, _, _, by omega, by go_num, rfl, rfl, Hst2.out⟩
        case measure => simp [intOf]; omega
      · have hee := evL_any done (by rw [hst.len]; exact hk)
        have hgz : k = 6 ∨ z ≠ 0 := by omega
        have hc6 : z = 0 → k = 6 := fun h => by omega
        have harr := hst.arr
        rw [hee] at harr
        have heq := hst.eq
        have hbel := hst.bel
        have hz1 := hst.size
        have hpar : (z ≠ 0 ∧ parseS l = (ev0, z)) ∨ (z = 0 ∧ p < n ∧ parseS l = (ev0, 3)) ∨ (z = 0 ∧ p = n ∧ chk (evOf done) ≠ 0 ∧ parseS l = (ev0, chk (evOf done))) ∨ (z = 0 ∧ p = n ∧ chk (evOf done) = 0 ∧ parseS l = (evOf done, 0)) := by
          by_cases hz : z = 0
          · obtain rfl := hc6 hz
            rw [if_pos hz, Nat.sub_self, takeN_none, List.append_nil] at heq
            have hd : l.drop p = [] ↔ p = n := by rw [List.drop_eq_nil_iff]; omega
            by_cases hpn : p = n
            · by_cases hck : chk (evOf done) = 0
              · exact .inr (.inr (.inr ⟨hz, hpn, hck, by unfold parseS; rw [heq, hd.2 hpn]; simp [hck]⟩))
              · exact .inr (.inr (.inl ⟨hz, hpn, hck, by unfold parseS; rw [heq, hd.2 hpn]; simp [hck]⟩))
            · exact .inr (.inl ⟨hz, by omega, by unfold parseS; rw [heq, if_neg (by simp), if_pos (fun h => hpn (hd.1 h))]⟩)
          · rw [if_neg hz] at heq
            exact .inl ⟨hz, by unfold parseS; rw [heq, if_pos hz]⟩
        generalize evOf done = e at *
        have Harr := Lib.hid harr
        have Hsl := Lib.hid (Hh1.out.all hbel)
        have Hbel := Lib.hid (Hb1.out.trans (hbel.mono Hb1.out.size))
        have hcells := EvCells6.of harr
        clear harr hbel hst Hst heq hgo hee hc6
        rcases hpar with ⟨hz, hpar⟩ | ⟨rfl, hpn, hpar⟩ | ⟨rfl, rfl, hck, hpar⟩ | ⟨rfl, rfl, hck, hpar⟩
        · obtain ⟨c0, c1, c2, c3, c4, c5⟩ := hcells
          have hz2 : (z == 0) = false := by simp [hz]
          have Hpar := Lib.hid hpar
          have Hz := Lib.hid hz
          clear hpar hz
          by_cases hk6 : k < 6
          · go_wp2_with fail
            all_goals first
              | (exfalso; omega)
              | skip
            have o10 : (wr.alloc (.cells (evA ev0) 64)).heap[wr.heap.size]? = some (.cells (evA ev0) 64 (0, 0)) := alloc_new wr _
            have hsv : SlAt (wr.alloc (.cells (evA ev0) 64)) 1 a n cap (l.map (.int .u8)) := Hsl.out.alloc _
            have hbv : Below w.heap.size w (wr.alloc (.cells (evA ev0) 64)) := Hbel.out.alloc Hbel.out.size _
            change Calls _ _ _ (wr.alloc (.cells (evA ev0) 64)) _
            generalize wr.alloc (.cells (evA ev0) 64) = V at *
            have O10 := Lib.hid o10
            have Hsv := Lib.hid hsv
            have Hbv := Lib.hid hbv
            have hg10 := obj_lt o10
            clear o10 hsv hbv
            refine (parse _ _ _ _ l Hsv.out Hb.out (by omega) _ rfl).mono ?_
            rintro x w5 ⟨rfl, hb5⟩
            rw [Hpar.out]
            dsimp only
            have O5 := Lib.hid (below_obj hb5 O10.out hg10)
            have Hb5 := Lib.hid (Hbv.out.trans (hb5.mono Hbv.out.size))
            have hg5 := obj_lt O5.out
            clear hb5
            obtain ⟨e1, he1⟩ : ∃ e1, e1 = ev0 := ⟨_, rfl⟩
            rw [← he1] at O5 ⊢
            clear he1
            obtain ⟨n1, hn1⟩ : ∃ n1 : Int, n1 = z := ⟨_, rfl⟩
            have O11 := Lib.hid (alloc_new w5 (.cells (evA e1) 64))
            have O10' := Lib.hid (alloc_obj (x := .cells (evA e1) 64) O5.out)
            have hb6 : Below w5.heap.size w5 (w5.alloc (.cells (evA e1) 64)) := (Below.refl _ w5).alloc (Nat.le_refl _) _
            have Hb6 := Lib.hid (Hb5.out.trans (hb6.mono Hb5.out.size))
            clear hb6
            have cNum : ∀ w, Calls Try.prog 44 #[errV 32 z] w (fun x w' => x = .returned (.int .i64 z) ∧ w = w') := fun w => num w z
            have CNum := Lib.hid cNum
            clear cNum
            generalize herr : errV 32 z = er at *
            clear herr
            have qi : ∀ w, (binOp .eql 64 (evV e1) (evV e1)).run Try.prog w = .ok (.bool true) w := fun w => by rw [ev_eql]; simp
            obtain ⟨d0, d1, d2, d3, d4, d5⟩ := EvCells.of O5.out
            go_wp2_with fail
            refine (CNum.out _).mono ?_
            rintro x w7 ⟨rfl, rfl⟩
            go_wp2_with fail
            go_ret
            exact ⟨rfl, Hb6.out⟩
          · go_wp2_with fail
            all_goals first
              | (exfalso; omega)
              | skip
            have o10 : (wr.alloc (.cells (evA ev0) 64)).heap[wr.heap.size]? = some (.cells (evA ev0) 64 (0, 0)) := alloc_new wr _
            have hsv : SlAt (wr.alloc (.cells (evA ev0) 64)) 1 a n cap (l.map (.int .u8)) := Hsl.out.alloc _
            have hbv : Below w.heap.size w (wr.alloc (.cells (evA ev0) 64)) := Hbel.out.alloc Hbel.out.size _
            change Calls _ _ _ (wr.alloc (.cells (evA ev0) 64)) _
            generalize wr.alloc (.cells (evA ev0) 64) = V at *
            have O10 := Lib.hid o10
            have Hsv := Lib.hid hsv
            have Hbv := Lib.hid hbv
            have hg10 := obj_lt o10
            clear o10 hsv hbv
            refine (parse _ _ _ _ l Hsv.out Hb.out (by omega) _ rfl).mono ?_
            rintro x w5 ⟨rfl, hb5⟩
            rw [Hpar.out]
            dsimp only
            have O5 := Lib.hid (below_obj hb5 O10.out hg10)
            have Hb5 := Lib.hid (Hbv.out.trans (hb5.mono Hbv.out.size))
            have hg5 := obj_lt O5.out
            clear hb5
            obtain ⟨e1, he1⟩ : ∃ e1, e1 = ev0 := ⟨_, rfl⟩
            rw [← he1] at O5 ⊢
            clear he1
            obtain ⟨n1, hn1⟩ : ∃ n1 : Int, n1 = z := ⟨_, rfl⟩
            have O11 := Lib.hid (alloc_new w5 (.cells (evA e1) 64))
            have O10' := Lib.hid (alloc_obj (x := .cells (evA e1) 64) O5.out)
            have hb6 : Below w5.heap.size w5 (w5.alloc (.cells (evA e1) 64)) := (Below.refl _ w5).alloc (Nat.le_refl _) _
            have Hb6 := Lib.hid (Hb5.out.trans (hb6.mono Hb5.out.size))
            clear hb6
            have cNum : ∀ w, Calls Try.prog 44 #[errV 32 z] w (fun x w' => x = .returned (.int .i64 z) ∧ w = w') := fun w => num w z
            have CNum := Lib.hid cNum
            clear cNum
            generalize herr : errV 32 z = er at *
            clear herr
            have qi : ∀ w, (binOp .eql 64 (evV e1) (evV e1)).run Try.prog w = .ok (.bool true) w := fun w => by rw [ev_eql]; simp
            obtain ⟨d0, d1, d2, d3, d4, d5⟩ := EvCells.of O5.out
            go_wp2_with fail
            refine (CNum.out _).mono ?_
            rintro x w7 ⟨rfl, rfl⟩
            go_wp2_with fail
            go_ret
            exact ⟨rfl, Hb6.out⟩
        · obtain rfl : k = 6 := by omega
          obtain ⟨c0, c1, c2, c3, c4, c5⟩ := hcells
          have Hpar := Lib.hid hpar
          clear hpar
          go_wp2_with fail
          all_goals first
            | (exfalso; omega)
            | skip
          have o10 : (wr.alloc (.cells (evA ev0) 64)).heap[wr.heap.size]? = some (.cells (evA ev0) 64 (0, 0)) := alloc_new wr _
          have hsv : SlAt (wr.alloc (.cells (evA ev0) 64)) 1 a n cap (l.map (.int .u8)) := Hsl.out.alloc _
          have hbv : Below w.heap.size w (wr.alloc (.cells (evA ev0) 64)) := Hbel.out.alloc Hbel.out.size _
          change Calls _ _ _ (wr.alloc (.cells (evA ev0) 64)) _
          generalize wr.alloc (.cells (evA ev0) 64) = V at *
          have O10 := Lib.hid o10
          have Hsv := Lib.hid hsv
          have Hbv := Lib.hid hbv
          have hg10 := obj_lt o10
          clear o10 hsv hbv
          refine (parse _ _ _ _ l Hsv.out Hb.out (by omega) _ rfl).mono ?_
          rintro x w5 ⟨rfl, hb5⟩
          rw [Hpar.out]
          dsimp only
          have O5 := Lib.hid (below_obj hb5 O10.out hg10)
          have Hb5 := Lib.hid (Hbv.out.trans (hb5.mono Hbv.out.size))
          have hg5 := obj_lt O5.out
          clear hb5
          obtain ⟨e1, he1⟩ : ∃ e1, e1 = ev0 := ⟨_, rfl⟩
          rw [← he1] at O5 ⊢
          clear he1
          obtain ⟨n1, hn1⟩ : ∃ n1 : Int, n1 = 3 := ⟨_, rfl⟩
          have O11 := Lib.hid (alloc_new w5 (.cells (evA e1) 64))
          have O10' := Lib.hid (alloc_obj (x := .cells (evA e1) 64) O5.out)
          have hb6 : Below w5.heap.size w5 (w5.alloc (.cells (evA e1) 64)) := (Below.refl _ w5).alloc (Nat.le_refl _) _
          have Hb6 := Lib.hid (Hb5.out.trans (hb6.mono Hb5.out.size))
          clear hb6
          have cNum : ∀ w, Calls Try.prog 44 #[errV 32 3] w (fun x w' => x = .returned (.int .i64 3) ∧ w = w') := fun w => num w 3
          have CNum := Lib.hid cNum
          clear cNum
          generalize herr : errV 32 3 = er at *
          clear herr
          have qi : ∀ w, (binOp .eql 64 (evV e1) (evV e1)).run Try.prog w = .ok (.bool true) w := fun w => by rw [ev_eql]; simp
          obtain ⟨d0, d1, d2, d3, d4, d5⟩ := EvCells.of O5.out
          go_wp2_with fail
          refine (CNum.out _).mono ?_
          rintro x w7 ⟨rfl, rfl⟩
          go_wp2_with fail
          go_ret
          exact ⟨rfl, Hb6.out⟩
        · obtain rfl : k = 6 := by omega
          obtain ⟨c0, c1, c2, c3, c4, c5⟩ := hcells
          have Hpar := Lib.hid hpar
          have Hck := Lib.hid hck
          clear hpar hck
          go_wp2_with fail
          all_goals first
            | (exfalso; omega)
            | skip
          refine (refCheck _ e).mono ?_
          rintro x w4 ⟨rfl, hb4⟩
          have o4 : w4.heap[wr.heap.size]? = some (.cells (evA e) 64 (0, 0)) := below_obj hb4 (alloc_new wr _) (by simp)
          have hg4 := obj_lt o4
          have Hs4 := Lib.hid ((Hsl.out.alloc (.cells (evA e) 64)).all hb4)
          have Hb4 := Lib.hid ((Hbel.out.alloc Hbel.out.size (.cells (evA e) 64)).trans (hb4.mono (by have := Hbel.out.size; simp; omega)))
          have O4 := Lib.hid o4
          clear hb4 o4 c0 c1 c2 c3 c4 c5
          obtain ⟨d0, d1, d2, d3, d4, d5⟩ := EvCells.of O4.out
          have df := fun j => obj_free O4.out j
          generalize hce : chk e = ce at *
          have hce0 : (ce == 0) = false := by have := Hck.out; simp [this]
          go_wp2_with fail
          have o10 := obj_set (obj_set (obj_set (obj_set (obj_set (obj_set O4.out 0 (.int .i64 0)) 1 (.int .i64 0)) 2 (.int .i64 0)) 3 (.int .i64 0)) 4 (.int .i64 0)) 5 (.int .i64 0)
          have hsv := (((((Hs4.out.setCell ⟨wr.heap.size, 0, none⟩ (fun ad he hn => by have := Hsl.out.lt ad he hn; change _ ≠ wr.heap.size; omega) (.int .i64 0)).setCell ⟨wr.heap.size, 1, none⟩ (fun ad he hn => by have := Hsl.out.lt ad he hn; change _ ≠ wr.heap.size; omega) (.int .i64 0)).setCell ⟨wr.heap.size, 2, none⟩ (fun ad he hn => by have := Hsl.out.lt ad he hn; change _ ≠ wr.heap.size; omega) (.int .i64 0)).setCell ⟨wr.heap.size, 3, none⟩ (fun ad he hn => by have := Hsl.out.lt ad he hn; change _ ≠ wr.heap.size; omega) (.int .i64 0)).setCell ⟨wr.heap.size, 4, none⟩ (fun ad he hn => by have := Hsl.out.lt ad he hn; change _ ≠ wr.heap.size; omega) (.int .i64 0)).setCell ⟨wr.heap.size, 5, none⟩ (fun ad he hn => by have := Hsl.out.lt ad he hn; change _ ≠ wr.heap.size; omega) (.int .i64 0)
          have hbv := (((((Hb4.out.setCell (p := ⟨wr.heap.size, 0, none⟩) Hbel.out.size (.int .i64 0)).setCell (p := ⟨wr.heap.size, 1, none⟩) Hbel.out.size (.int .i64 0)).setCell (p := ⟨wr.heap.size, 2, none⟩) Hbel.out.size (.int .i64 0)).setCell (p := ⟨wr.heap.size, 3, none⟩) Hbel.out.size (.int .i64 0)).setCell (p := ⟨wr.heap.size, 4, none⟩) Hbel.out.size (.int .i64 0)).setCell (p := ⟨wr.heap.size, 5, none⟩) Hbel.out.size (.int .i64 0)
          change Calls _ _ _ ((((((w4.setCell ⟨wr.heap.size, 0, none⟩ (.int .i64 0)).setCell ⟨wr.heap.size, 1, none⟩ (.int .i64 0)).setCell ⟨wr.heap.size, 2, none⟩ (.int .i64 0)).setCell ⟨wr.heap.size, 3, none⟩ (.int .i64 0)).setCell ⟨wr.heap.size, 4, none⟩ (.int .i64 0)).setCell ⟨wr.heap.size, 5, none⟩ (.int .i64 0)) _
          generalize (((((w4.setCell ⟨wr.heap.size, 0, none⟩ (.int .i64 0)).setCell ⟨wr.heap.size, 1, none⟩ (.int .i64 0)).setCell ⟨wr.heap.size, 2, none⟩ (.int .i64 0)).setCell ⟨wr.heap.size, 3, none⟩ (.int .i64 0)).setCell ⟨wr.heap.size, 4, none⟩ (.int .i64 0)).setCell ⟨wr.heap.size, 5, none⟩ (.int .i64 0) = V at *
          clear d0 d1 d2 d3 d4 d5 df
          have o10 : (V).heap[wr.heap.size]? = some (.cells (evA ev0) 64 (0, 0)) := o10
          have hsv : SlAt (V) 1 a p cap (l.map (.int .u8)) := hsv
          have hbv : Below w.heap.size w (V) := hbv
          have O10 := Lib.hid o10
          have Hsv := Lib.hid hsv
          have Hbv := Lib.hid hbv
          have hg10 := obj_lt o10
          clear o10 hsv hbv
          refine (parse _ _ _ _ l Hsv.out Hb.out (by omega) _ rfl).mono ?_
          rintro x w5 ⟨rfl, hb5⟩
          rw [Hpar.out]
          dsimp only
          have O5 := Lib.hid (below_obj hb5 O10.out hg10)
          have Hb5 := Lib.hid (Hbv.out.trans (hb5.mono Hbv.out.size))
          have hg5 := obj_lt O5.out
          clear hb5
          obtain ⟨e1, he1⟩ : ∃ e1, e1 = ev0 := ⟨_, rfl⟩
          rw [← he1] at O5 ⊢
          clear he1
          obtain ⟨n1, hn1⟩ : ∃ n1 : Int, n1 = ce := ⟨_, rfl⟩
          have O11 := Lib.hid (alloc_new w5 (.cells (evA e1) 64))
          have O10' := Lib.hid (alloc_obj (x := .cells (evA e1) 64) O5.out)
          have hb6 : Below w5.heap.size w5 (w5.alloc (.cells (evA e1) 64)) := (Below.refl _ w5).alloc (Nat.le_refl _) _
          have Hb6 := Lib.hid (Hb5.out.trans (hb6.mono Hb5.out.size))
          clear hb6
          have cNum : ∀ w, Calls Try.prog 44 #[errV 32 ce] w (fun x w' => x = .returned (.int .i64 ce) ∧ w = w') := fun w => num w ce
          have CNum := Lib.hid cNum
          clear cNum
          generalize herr : errV 32 ce = er at *
          clear herr
          have qi : ∀ w, (binOp .eql 64 (evV e1) (evV e1)).run Try.prog w = .ok (.bool true) w := fun w => by rw [ev_eql]; simp
          obtain ⟨d0, d1, d2, d3, d4, d5⟩ := EvCells.of O5.out
          go_wp2_with fail
          refine (CNum.out _).mono ?_
          rintro x w7 ⟨rfl, rfl⟩
          go_wp2_with fail
          go_ret
          exact ⟨rfl, Hb6.out⟩
        · obtain rfl : k = 6 := by omega
          obtain ⟨c0, c1, c2, c3, c4, c5⟩ := hcells
          have Hpar := Lib.hid hpar
          have Hck := Lib.hid hck
          clear hpar hck
          go_wp2_with fail
          all_goals first
            | (exfalso; omega)
            | skip
          refine (refCheck _ e).mono ?_
          rintro x w4 ⟨rfl, hb4⟩
          have o4 : w4.heap[wr.heap.size]? = some (.cells (evA e) 64 (0, 0)) := below_obj hb4 (alloc_new wr _) (by simp)
          have hg4 := obj_lt o4
          have Hs4 := Lib.hid ((Hsl.out.alloc (.cells (evA e) 64)).all hb4)
          have Hb4 := Lib.hid ((Hbel.out.alloc Hbel.out.size (.cells (evA e) 64)).trans (hb4.mono (by have := Hbel.out.size; simp; omega)))
          have O4 := Lib.hid o4
          clear hb4 o4 c0 c1 c2 c3 c4 c5
          rw [Hck.out]
          go_wp2_with fail
          have o10 : (w4).heap[wr.heap.size]? = some (.cells (evA e) 64 (0, 0)) := O4.out
          have hsv : SlAt (w4) 1 a p cap (l.map (.int .u8)) := Hs4.out
          have hbv : Below w.heap.size w (w4) := Hb4.out
          generalize w4 = V at *
          have O10 := Lib.hid o10
          have Hsv := Lib.hid hsv
          have Hbv := Lib.hid hbv
          have hg10 := obj_lt o10
          clear o10 hsv hbv
          refine (parse _ _ _ _ l Hsv.out Hb.out (by omega) _ rfl).mono ?_
          rintro x w5 ⟨rfl, hb5⟩
          rw [Hpar.out]
          dsimp only
          have O5 := Lib.hid (below_obj hb5 O10.out hg10)
          have Hb5 := Lib.hid (Hbv.out.trans (hb5.mono Hbv.out.size))
          have hg5 := obj_lt O5.out
          clear hb5
          obtain ⟨e1, he1⟩ : ∃ e1, e1 = e := ⟨_, rfl⟩
          rw [← he1] at O5 ⊢
          clear he1
          obtain ⟨n1, hn1⟩ : ∃ n1 : Int, n1 = 0 := ⟨_, rfl⟩
          have O11 := Lib.hid (alloc_new w5 (.cells (evA e1) 64))
          have O10' := Lib.hid (alloc_obj (x := .cells (evA e1) 64) O5.out)
          have hb6 : Below w5.heap.size w5 (w5.alloc (.cells (evA e1) 64)) := (Below.refl _ w5).alloc (Nat.le_refl _) _
          have Hb6 := Lib.hid (Hb5.out.trans (hb6.mono Hb5.out.size))
          clear hb6
          have cNum : ∀ w, Calls Try.prog 44 #[errV 32 0] w (fun x w' => x = .returned (.int .i64 0) ∧ w = w') := fun w => num w 0
          have CNum := Lib.hid cNum
          clear cNum
          generalize herr : errV 32 0 = er at *
          clear herr
          have qi : ∀ w, (binOp .eql 64 (evV e1) (evV e1)).run Try.prog w = .ok (.bool true) w := fun w => by rw [ev_eql]; simp
          obtain ⟨d0, d1, d2, d3, d4, d5⟩ := EvCells.of O5.out
          go_wp2_with fail
          refine (CNum.out _).mono ?_
          rintro x w7 ⟨rfl, rfl⟩
          go_wp2_with fail
          go_ret
          exact ⟨rfl, Hb6.out⟩
end Go.Proofs.Ytpbocficffbcbaa
