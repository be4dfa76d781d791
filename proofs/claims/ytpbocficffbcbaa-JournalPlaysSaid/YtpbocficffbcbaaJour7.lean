import Derived.Test.YtpbocficffbcbaaJour6
import Derived.Test.YtpbocficffbcbaaList3
namespace Go.Proofs.Ytpbocficffbcbaa
open Go Go.RowKit
set_option linter.unusedVariables false

set_option maxHeartbeats 800000 in
theorem backBad (w : World) (bj : Nat) (es : List Ev) (ms : List Mk) (last : Int) (ea ma : Option Addr) (ec mc : Nat) (h : JAt w bj es ms last ea ec ma mc) (ok : JOk es ms last) (hm : ms.length < 1000000) (c : Int) (hp : place ms c = none) :
    Calls Try.prog 35 #[.pointer (some ⟨bj, 0, none⟩), .int .i64 c] w (fun e w' => e = .returned (.tuple #[.slice none 0 0, errV 32 16]) ∧ Below w.heap.size w w') := by
  have hv : errV 32 16 = .iface 32 (.int .i64 16) := rfl
  go_enter Try.func35, Try.ntmps35
  go_wp2_with (go_at_call 53; refine (spanBad _ _ _ _ _ _ _ _ _ h ok hm c hp).mono ?_; rintro e w' ⟨rfl, hb⟩; rw [hv])
  go_ret2
  exact ⟨rfl, hb⟩

/-- The journal behind a call that hands back events too. -/
def JRet (w : World) (bj : Nat) (ea ma : Option Addr) (es' : List Ev) (ms' : List Mk) (last' : Int) (l : List Ev) (e : Ending) (w' : World) : Prop :=
  ∃ ea' ec' ma' mc' a c, e = .returned (.tuple #[.slice a l.length c, .nilIface]) ∧ JAt w' bj es' ms' last' ea' ec' ma' mc' ∧ RowAt w' 64 6 a l.length c (evs l) ∧ Fresh w.heap.size a ∧ Upd (ownJ bj ea ma) w w' ∧
    (∀ ad, ea' = some ad → ea = some ad ∨ w.heap.size ≤ ad.block) ∧ (∀ ad, ma' = some ad → ma = some ad ∨ w.heap.size ≤ ad.block) ∧ (∀ ad, a = some ad → ¬ ownJ bj ea' ma' ad.block)

set_option maxRecDepth 100000 in
set_option maxHeartbeats 1600000 in
theorem backOk (w : World) (bj : Nat) (es : List Ev) (ms : List Mk) (last : Int) (ea ma : Option Addr) (ec mc : Nat) (h : JAt w bj es ms last ea ec ma mc) (ok : JOk es ms last) (hm : ms.length < 1000000) (hes : es.length ≤ 65536) (c : Int) (i : Nat) (n : Int) (k : Nat)
    (hp : place ms c = some i) (hi : ms[i]? = some (n, k)) :
    Calls Try.prog 35 #[.pointer (some ⟨bj, 0, none⟩), .int .i64 c] w (JRet w bj ea ma (es.take k) (ms.take (i + 1)) last (invs (es.drop k))) := by
  have hk : k ≤ es.length := ok.beh _ (List.mem_of_getElem? hi)
  have Hpi := Lib.hid (placeI_some hp)
  have Hi := Lib.hid hi
  have Hp := Lib.hid hp
  clear hi hp
  go_enter Try.func35, Try.ntmps35
  go_wp2_with fail
  refine (spanOk _ _ _ _ _ _ _ _ _ h ok hm hes c i n k Hp.out Hi.out hk).mono ?_
  rintro e w1 ⟨sa, sc, rfl, hsr, hsf, hb1⟩
  have hll : (es.drop k).length ≤ 65536 := by rw [List.length_drop]; omega
  obtain ⟨l, hl⟩ : ∃ l, l = es.drop k := ⟨_, rfl⟩
  rw [← hl] at hsr hll ⊢
  have Hl := Lib.hid hl
  clear hl
  have hj1 := h.all hb1
  go_wp2_with fail
  refine (find _ _ _ _ _ _ _ _ _ hj1 ok hm c).mono ?_
  rintro e w2 ⟨rfl, hb2⟩
  rw [Hpi.out]
  have b2 := hb1.trans (hb2.mono hb1.size)
  have hj2 := h.all b2
  have hsr2 := hsr.all hb2
  go_wp2_with fail
  refine (cut _ _ _ _ _ _ _ _ _ hj2 hm i n k Hi.out hk).mono ?_
  rintro e w3 ⟨ea3, ec3, ma3, mc3, rfl, hj3, hu3, hl3, hl3'⟩
  have hsno : ∀ ad, sa = some ad → ¬ ownJ bj ea ma ad.block := fun ad he ho => by have := hsf ad he; have := h.lt ho; omega
  have hsr3 := hsr2.upd hu3 hsno
  have u3 : Upd (ownJ bj ea ma) w w3 := (Upd.of_below b2).trans hu3 (fun _ _ hb => hb)
  have hz3 := u3.size
  have hz2 := b2.size
  have hs3 := hsr3.sl
  have L3 := Lib.hid hl3
  have L3' := Lib.hid hl3'
  clear hsr hsr2 hsr3 hl3 hl3'
  go_wp2_with fail
  refine (inverts _ _ _ _ _ hs3 (by omega)).mono ?_
  rintro e w4 ⟨a4, c4, rfl, hr4, hf4, hb4⟩
  have hj4 := hj3.all hb4
  have u4 := u3.trans (Upd.of_below hb4 (S := fun _ => False)) (fun _ _ f => f.elim)
  have hno4 : ∀ ad, a4 = some ad → ¬ ownJ bj ea3 ma3 ad.block := fun ad he ho => by have := hf4 ad he; have := hj3.lt ho; omega
  have Hr := Lib.hid hr4
  clear hr4 hs3
  go_wp2_with fail
  go_ret2
  rw [← Hl.out]
  exact ⟨ea3, ec3, ma3, mc3, a4, c4, rfl, hj4, Hr.out, hf4.mono hz3, u4, fun ad he => (L3.out ad he).imp id (fun h' => by omega), fun ad he => (L3'.out ad he).imp id (fun h' => by omega), hno4⟩

set_option maxRecDepth 100000 in
set_option maxHeartbeats 1600000 in
theorem marksOk (w : World) (bj : Nat) (es : List Ev) (ms : List Mk) (last : Int) (ea ma : Option Addr) (ec mc : Nat) (h : JAt w bj es ms last ea ec ma mc) (hm : ms.length < 1000000) :
    Calls Try.prog 40 #[.pointer (some ⟨bj, 0, none⟩)] w (fun e w' => ∃ a c, e = .returned (.slice a ms.length c) ∧ RowAt w' 3 1 a ms.length c ((ms.map Prod.fst).map (.int .i64)) ∧ Fresh w.heap.size a ∧ Below w.heap.size w w') := by
  have c1 := obj_cell h.obj 1
  simp at c1
  have hst : Gr w w (.slice none 0 0) 0 ((ms.take 0).map Prod.fst) none 0 := ⟨rfl, rfl, RowAt.null _ _ _, (fun ad he => by cases he), Below.refl _ _⟩
  have Hst := Lib.hid hst
  clear hst
  go_enter Try.func40, Try.ntmps40
  go_wp2_with fail
  go_loopw [3, 13] (fun m v wr => ∃ k : Nat, k ≤ ms.length ∧ v = .int .i64 k ∧ ∃ a' c', Gr w wr m k ((ms.take k).map Prod.fst) a' c') (fun _ v _ => ms.length - (intOf v).toNat)
  case atStart => exact ⟨0, by omega, rfl, _, _, Hst.out⟩
  case round =>
    obtain ⟨k, hk, rfl, a1, c1', hg⟩ := hrel
    by_cases hlt : k < ms.length
    · obtain ⟨b, off, x, hax, hx, hb, d0, d1⟩ := mk_at (h.mkr.sl.all hg.bel) hlt
      subst hax
      obtain rfl := hg.m
      have hE := Lib.hid (show (ms.take k).map Prod.fst ++ [x.1] = (ms.take (k + 1)).map Prod.fst by
        obtain ⟨hk', rfl⟩ := List.getElem?_eq_some_iff.1 hx
        rw [List.take_succ_eq_append_getElem hk', List.map_append]
        rfl)
      have bz := hg.bel.size
      have hga := (Gr.mk hg.len rfl (hg.row.alloc (.cells #[.int .i64 x.1, .int .i64 (x.2 : Int)] 124)) hg.fr (hg.bel.alloc bz (.cells #[.int .i64 x.1, .int .i64 (x.2 : Int)] 124)) : Gr w (wr.alloc (.cells #[.int .i64 x.1, .int .i64 (x.2 : Int)] 124)) (.slice a1 k c1') k ((ms.take k).map Prod.fst) a1 c1')
      have Hg := Lib.hid hga
      have hlit := (RowAt.lit (wr.alloc (.cells #[.int .i64 x.1, .int .i64 (x.2 : Int)] 124)) #[.int .i64 x.1] 3 1 1 (by decide) rfl (by simp [Value.oneCell'])).sl
      rw [World.size_alloc] at hlit
      clear hx hg hga
      go_wp2_with (at_builtin; refine wp_append rfl (.tmp 17) (.tmp 20) 22 rfl 3 (.int .i64 0) 1 8 Try.underlying22 Try.infoInt rfl (by decide) rfl rfl (Hg.out.row.alloc _) hlit (by unfold maxLen; omega) (by omega) ?_; intro a3 c3 W3 hrow3 hupd3 hloc3 hnil3; have g3 := Hg.out.snoc hupd3 hloc3 hrow3; rw [hE.out] at g3)
      go_roundw
      case rel => exact ⟨k + 1, by omega, by go_num, _, _, g3⟩
      case measure => simp [intOf]; omega
    · obtain rfl : k = ms.length := by omega
      rw [List.take_length] at hg
      obtain rfl := hg.m
      have Hg := Lib.hid hg
      clear hg
      go_wp2_with fail
      go_ret
      exact ⟨a1, c1', rfl, Hg.out.row, Hg.out.fr, Hg.out.bel⟩
end Go.Proofs.Ytpbocficffbcbaa
