import Derived.Test.YtfphjokijanahaaDoorLedger9
namespace Go.Proofs.YtfphjokijanahaaDoor
open Go Go.RowKit
set_option linter.unusedVariables false

theorem refAdd (w : World) (a : Option Addr) (cap : Nat) (es : List Ent) (p k t : Int) (h : RowAt w 46 4 a es.length cap (es.flatMap entC)) :
    Calls Tryd.prog 15 #[.slice a es.length cap, .int .i64 p, .int .i64 k, .int .i64 t] w (Ref33 w a (addNext es p k t) (addErr es p k t)) := by
  by_cases he : addErr es p k t = 0
  · rw [addNext_ok he, he]
    obtain ⟨h1, h2, h3, h4, h5⟩ := addErr_ok.1 he
    exact refAddOk w a cap es p k t h h1 h2 h3 h4 h5
  · rw [addNext_bad he]
    exact refAddBad w a cap es p k t h he
theorem foldE_at : ∀ (l acc r : List Ent), foldE acc l = (r, 0) → r.length = acc.length + l.length ∧ r.take acc.length = acc ∧
    ∀ k x, l[k]? = some x → addErr (r.take (acc.length + k)) x.p x.k x.t = 0 ∧ addNext (r.take (acc.length + k)) x.p x.k x.t = r.take (acc.length + k + 1)
  | [], acc, r, h => by
    simp only [foldE, Prod.mk.injEq, and_true] at h
    subst h
    exact ⟨by simp, by simp, by simp⟩
  | e :: l, acc, r, h => by
    simp only [foldE] at h
    by_cases he : addErr acc e.p e.k e.t = 0
    · rw [if_pos he] at h
      obtain ⟨h1, h2, h3⟩ := foldE_at l _ r h
      have hn := addNext_ok he
      have hln : (addNext acc e.p e.k e.t).length = acc.length + 1 := by rw [hn]; simp
      rw [hln] at h1 h2 h3
      have hacc : r.take acc.length = acc := by
        have : (r.take (acc.length + 1)).take acc.length = acc := by rw [h2, hn]; simp
        rwa [List.take_take, Nat.min_eq_left (by omega)] at this
      refine ⟨by simp; omega, hacc, fun k x hx => ?_⟩
      cases k with
      | zero =>
        simp at hx
        subst hx
        rw [Nat.add_zero, hacc, h2]
        exact ⟨he, rfl⟩
      | succ k =>
        simp at hx
        have := h3 k x hx
        rw [show acc.length + 1 + k = acc.length + (k + 1) by omega] at this
        exact this
    · rw [if_neg he] at h
      simp only [Prod.mk.injEq] at h
      exact absurd h.2 he
theorem WF.at_ {es : List Ent} (h : WF es) {k : Nat} {x : Ent} (hx : es[k]? = some x) : addErr (es.take k) x.p x.k x.t = 0 ∧ addNext (es.take k) x.p x.k x.t = es.take (k + 1) := by
  have := (foldE_at es [] es h.1).2.2 k x hx
  simpa using this

set_option maxRecDepth 100000 in
set_option maxHeartbeats 800000 in
theorem copyOk (w : World) (hk : KindsAt w) (bl br : Nat) (es : List Ent) (ba : Option Addr) (cap : Nat) (h : LedgerAt w bl br es ba cap) (wf : WF es) :
    Calls Tryd.prog 14 #[.pointer (some ⟨bl, 0, none⟩)] w (NewLedger w es) := by
  have Wf := Lib.hid wf
  clear wf
  have hnm := Nat.le_trans h.row.le h.row.max
  unfold maxLen at hnm
  go_enter Tryd.func14, Tryd.ntmps14
  go_wp2_with fail
  refine (new_ _).mono ?_
  rintro e w1 ⟨b2, r2, ba2, bc2, rfl, hl, hown, hb1⟩
  have y0 := obj_cell (h.all hb1).obj 0
  simp at y0
  have Hl := Lib.hid hl
  clear hl
  go_wp2_with fail
  go_loopw [16] (fun i wr => ∃ k : Nat, k ≤ es.length ∧ i = .int .i64 k ∧ ∃ ba2 bc2, LedgerAt wr b2 r2 (es.take k) ba2 bc2 ∧ (∀ i, own3 b2 r2 ba2 i → w.heap.size ≤ i) ∧ Below w.heap.size w wr) (fun i _ => es.length - (intOf i).toNat)
  case atStart => exact ⟨0, by omega, rfl, ba2, bc2, Hl.out, hown, hb1⟩
  case round =>
    obtain ⟨k, hkn, rfl, ba2, bc2, hl, hown, hbel⟩ := hrel
    by_cases hlt : k < es.length
    · obtain ⟨b, off, x, rfl, hx, hb, c0, c1, c2, c3⟩ := ent_at (h.row.sl.all hbel) hlt
      obtain ⟨he, hn⟩ := Wf.out.at_ hx
      have Hn := Lib.hid hn
      clear hn hx
      have hnw := alloc_new wr (.cells #[.int .i64 x.p, .int .i64 x.k, .int .i64 x.t, .int .i64 x.l] 37)
      go_wp2_with fail
      refine (addOwn w _ _ _ _ _ _ _ _ _ (hl.all ((Below.refl _ _).alloc (Nat.le_refl _) _)) hk hown (hbel.alloc hbel.size _)).mono ?_
      rintro e w2 ⟨ba3, bc3, rfl, hl2, hown2, hbel2, _⟩
      rw [if_pos he, he, addV, errV_zero]
      rw [Hn.out] at hl2
      have Hl2 := Lib.hid hl2
      clear c0 c1 c2 c3 he hl2
      generalize addLev (es.take k) x.p x.k = lv at *
      go_wp2_with fail
      go_roundw
      case rel => exact ⟨k + 1, by omega, by go_num, ba3, bc3, Hl2.out, hown2, hbel2⟩
      case measure => simp [intOf]; omega
    · obtain rfl : k = es.length := by omega
      rw [List.take_length] at hl
      have H2 := Lib.hid hl
      clear hl
      go_wp2_with fail
      go_ret
      exact ⟨b2, r2, ba2, bc2, rfl, H2.out, hown, hbel⟩
theorem copyNil (w : World) : Calls Tryd.prog 14 #[.pointer none] w (fun e w' => e = .returned (.pointer none) ∧ w = w') := by
  go_enter Tryd.func14, Tryd.ntmps14
  go_wp2_with fail
  go_ret
  exact ⟨rfl, rfl⟩
theorem addNil (w : World) (p k t : Int) : Calls Tryd.prog 9 #[.pointer none, .int .i64 p, .int .i64 k, .int .i64 t] w (fun e w' => e = .returned (addV 0 4) ∧ w = w') := by
  go_enter Tryd.func9, Tryd.ntmps9
  go_wp2_with fail
  go_ret2
  exact ⟨rfl, rfl⟩

theorem ent_neqR (w : World) (a b c d : Int) : (binOp .neq 46 (.agg #[.int .i64 a, .int .i64 b, .int .i64 c, .int .i64 d]) (.agg #[.int .i64 a, .int .i64 b, .int .i64 c, .int .i64 d])).run Tryd.prog w = .ok (.bool false) w := by
  have ht : Tryd.prog.underlying 46 = some (.struct (Tryd.prog.fieldsOf 46)) := by simp [Program.fieldsOf, Tryd.underlying46]
  have hp : Tryd.prog.stoodInHeld 46 = false := by kernel_rfl
  have he : (Op.equal 46 (.agg #[.int .i64 a, .int .i64 b, .int .i64 c, .int .i64 d]) (.agg #[.int .i64 a, .int .i64 b, .int .i64 c, .int .i64 d])).run Tryd.prog w = .ok true w := by
    unfold Op.equal Op.maxDepth
    rw [show (10000 : Nat) = 9999 + 1 from rfl, run_equalIn_struct w 9999 46 _ _ ht hp]
    simp [Program.fieldsOf, Tryd.underlying46, Op.eqFields, go_sem]
  simp [binOp, he, go_sem]

set_option maxRecDepth 100000 in
set_option maxHeartbeats 1600000 in
theorem isOk (w : World) (bl br : Nat) (es : List Ent) (ba : Option Addr) (cap : Nat) (ma : Option Addr) (mc : Nat) (h : LedgerAt w bl br es ba cap) (hm : SlAt w 4 ma es.length mc (es.flatMap entC)) (hl : es.length ≤ 1000) (hp : ∀ e ∈ es, e.p = 0 ∨ e.p = 1) :
    Calls Tryd.prog 17 #[.pointer (some ⟨bl, 0, none⟩), .slice ma es.length mc] w (fun e w' => e = .returned (.bool true) ∧ Below w.heap.size w w') := by
  have q := ent_neqR
  have Hp := Lib.hid hp
  clear hp
  go_enter Tryd.func17, Tryd.ntmps17
  go_wp2_with fail
  refine (allOk _ _ _ _ _ _ h hl).mono ?_
  rintro e w1 ⟨a1, c1, rfl, hr1, hf1, hb1, _⟩
  have hr := hr1.sl
  clear hr1
  go_wp2_with (go_at_call 11; refine (lenOk _ _ _ _ _ _ (h.all hb1)).mono ?_; rintro e w' ⟨rfl, rfl⟩)
  go_loopw [25] (fun i wr => ∃ k : Nat, k ≤ es.length ∧ i = .int .i64 k ∧ Q w1 wr) (fun i _ => es.length - (intOf i).toNat)
  case atStart => exact ⟨0, by omega, rfl, Q.refl _⟩
  case round =>
    obtain ⟨k, hkn, rfl, hq⟩ := hrel
    by_cases hlt : k < es.length
    · obtain ⟨p1, o1, x, rfl, hx, hp1, c0, c1, c2, c3⟩ := ent_at (hr.all (hq.below _)) hlt
      obtain ⟨p2, o2, y, rfl, hy, hp2, d0, d1, d2, d3⟩ := ent_at ((hm.all hb1).all (hq.below _)) hlt
      obtain rfl : x = y := Option.some.inj (hx.symm.trans hy)
      clear hx hy
      go_wp2_with fail
      go_quiet (fail)
      go_wp2_with fail
      go_roundw
      case rel => exact ⟨k + 1, by omega, by go_num, hq.drewN _⟩
      case measure => simp [intOf]; omega
    · obtain rfl : k = es.length := by omega
      have hb2 : Below w.heap.size w wr := hb1.trans ((hq.below _).mono hb1.size)
      clear hr hq
      go_wp2_with fail
      go_loopw [7] (fun i wr => ∃ z : Int, -1 ≤ z ∧ z ≤ 3 ∧ i = .int .i64 z ∧ Below w.heap.size w wr) (fun i _ => (3 - intOf i).toNat)
      case atStart => exact ⟨-1, by omega, by omega, rfl, hb2⟩
      case round =>
        obtain ⟨z, hz0, hz3, rfl, hb3⟩ := hrel
        by_cases hz : z ≤ 2
        · have hz' : decide (z ≤ 2) = true := by simp [hz]
          go_wp2_with (first
            | (go_at_call 19; refine (worstOk _ _ _ _ _ _ _ (h.all hb3) Hp.out).mono ?_; rintro e w' ⟨rfl, rfl⟩)
            | (go_at_call 25; refine (refWorst _ _ _ _ _ _ (hm.all hb3)).mono ?_; rintro e w4 ⟨rfl, hb4⟩; have hb4' := hb3.trans (hb4.mono hb3.size)))
          go_loopw [8] (fun i wr => ∃ y : Int, -1 ≤ y ∧ y ≤ 5 ∧ i = .int .i64 y ∧ Below w.heap.size w wr) (fun i _ => (5 - intOf i).toNat)
          case atStart => exact ⟨-1, by omega, by omega, rfl, hb4'⟩
          case round =>
            obtain ⟨y, hy0, hy5, rfl, hb5⟩ := hrel
            by_cases hy : y ≤ 4
            · have hy' : decide (y ≤ 4) = true := by simp [hy]
              go_wp2_with (first
                | (go_at_call 18; refine (countOk _ _ _ _ _ _ _ _ (h.all hb5) hl).mono ?_; rintro e w6 ⟨rfl, hb6⟩; have hb6' := hb5.trans (hb6.mono hb5.size))
                | (go_at_call 26; refine (refCount _ _ _ _ _ _ _ (hm.all hb6')).mono ?_; rintro e w7 ⟨rfl, hb7⟩; have hb7' := hb6'.trans (hb7.mono hb6'.size)))
              go_roundw
              case rel => exact ⟨y + 1, by omega, by omega, by go_num, hb7'⟩
              case measure => simp [intOf]; omega
            · obtain rfl : y = 5 := by omega
              go_wp2_with fail
              go_roundw
              case rel => exact ⟨z + 1, by omega, by omega, by go_num, hb5⟩
              case measure => simp [intOf]; omega
        · obtain rfl : z = 3 := by omega
          go_wp2_with fail
          go_ret
          exact ⟨rfl, hb3⟩

def nameS (k : Int) : ByteArray := if k < 0 ∨ 5 < k then ⟨#[]⟩ else ⟨(kname k.toNat).toArray⟩
theorem bytes_of {s : ByteArray} {l : List UInt8} (h : s.data.toList = l) : s = ⟨l.toArray⟩ := by
  cases s with
  | mk d =>
    simp only at h
    subst h
    simp
set_option maxHeartbeats 400000 in
theorem nameOk (w : World) (hk : KindsAt w) (k : Int) : Calls Tryd.prog 20 #[.int .i64 k] w (fun e w' => e = .returned (.string (nameS k)) ∧ w = w') := by
  by_cases h : k < 0 ∨ 5 < k
  · rw [show nameS k = ⟨#[]⟩ from if_pos h]
    have h2 : k < 0 ∨ (0 ≤ k ∧ 6 ≤ k) := by omega
    clear h
    rcases h2 with h2 | ⟨h2, h3⟩
    all_goals
      go_enter Tryd.func20, Tryd.ntmps20
      go_wp2_with fail
      go_ret
      exact ⟨rfl, rfl⟩
  · have hc : k = 0 ∨ k = 1 ∨ k = 2 ∨ k = 3 ∨ k = 4 ∨ k = 5 := by omega
    have hn := fun i hi => hk.name i hi
    rw [show nameS k = ⟨(kname k.toNat).toArray⟩ from if_neg h]
    clear h
    obtain ⟨s0, a0, e0⟩ := hn 0 (by decide)
    obtain ⟨s1, a1, e1⟩ := hn 1 (by decide)
    obtain ⟨s2, a2, e2⟩ := hn 2 (by decide)
    obtain ⟨s3, a3, e3⟩ := hn 3 (by decide)
    obtain ⟨s4, a4, e4⟩ := hn 4 (by decide)
    obtain ⟨s5, a5, e5⟩ := hn 5 (by decide)
    have E0 := Lib.hid (bytes_of e0)
    have E1 := Lib.hid (bytes_of e1)
    have E2 := Lib.hid (bytes_of e2)
    have E3 := Lib.hid (bytes_of e3)
    have E4 := Lib.hid (bytes_of e4)
    have E5 := Lib.hid (bytes_of e5)
    clear e0 e1 e2 e3 e4 e5 hn
    simp at a0 a1 a2 a3 a4 a5
    rcases hc with rfl | rfl | rfl | rfl | rfl | rfl
    all_goals
      go_enter Tryd.func20, Tryd.ntmps20
      go_wp2_with fail
      go_ret
      first
        | exact ⟨by rw [E0.out]; rfl, rfl⟩
        | exact ⟨by rw [E1.out]; rfl, rfl⟩
        | exact ⟨by rw [E2.out]; rfl, rfl⟩
        | exact ⟨by rw [E3.out]; rfl, rfl⟩
        | exact ⟨by rw [E4.out]; rfl, rfl⟩
        | exact ⟨by rw [E5.out]; rfl, rfl⟩
set_option maxHeartbeats 400000 in
theorem refName (w : World) (k : Int) : Calls Tryd.prog 21 #[.int .i64 k] w (fun e w' => e = .returned (.string (nameS k)) ∧ Below w.heap.size w w') := by
  by_cases h : k < 0 ∨ 5 < k
  · rw [show nameS k = ⟨#[]⟩ from if_pos h]
    have h2 : k < 0 ∨ (0 ≤ k ∧ 5 < k) := by omega
    clear h
    rcases h2 with h2 | ⟨h2, h3⟩
    all_goals
      go_enter Tryd.func21, Tryd.ntmps21
      go_wp2_with fail
      go_ret
      exact ⟨rfl, Below.refl _ _⟩
  · have hc : k = 0 ∨ k = 1 ∨ k = 2 ∨ k = 3 ∨ k = 4 ∨ k = 5 := by omega
    rw [show nameS k = ⟨(kname k.toNat).toArray⟩ from if_neg h]
    clear h
    rcases hc with rfl | rfl | rfl | rfl | rfl | rfl
    all_goals
      go_enter Tryd.func21, Tryd.ntmps21
      go_wp2_with fail
      go_ret
      exact ⟨rfl, (Below.refl _ w).alloc (Nat.le_refl _) _⟩
end Go.Proofs.YtfphjokijanahaaDoor
