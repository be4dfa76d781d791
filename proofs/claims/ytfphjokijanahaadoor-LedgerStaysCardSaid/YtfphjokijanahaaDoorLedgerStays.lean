import Derived.Test.YtfphjokijanahaaDoorLedger7
namespace Go.Proofs.YtfphjokijanahaaDoor
open Go Go.RowKit
set_option linter.unusedVariables false

def apt (p : Int) (es : List Ent) : List Ent := es.filter fun e => e.p == p
def Dis (bl br : Nat) (ba : Option Addr) (b0 r0 : Nat) (ba0 : Option Addr) : Prop := ∀ i, own3 bl br ba i → ¬ own3 b0 r0 ba0 i
/-- Three ledgers of ours, apart, and the array that holds the two. -/
structure St3 (w wr : World) (bl br b0 r0 b1 r1 ap : Nat) (es f0 f1 : List Ent) (ba : Option Addr) (c : Nat) (ba0 : Option Addr) (c0 : Nat) (ba1 : Option Addr) (c1 : Nat) : Prop where
  l : LedgerAt wr bl br es ba c
  l0 : LedgerAt wr b0 r0 f0 ba0 c0
  l1 : LedgerAt wr b1 r1 f1 ba1 c1
  o : ∀ i, own3 bl br ba i → w.heap.size ≤ i
  o0 : ∀ i, own3 b0 r0 ba0 i → w.heap.size ≤ i
  o1 : ∀ i, own3 b1 r1 ba1 i → w.heap.size ≤ i
  d0 : Dis bl br ba b0 r0 ba0
  d1 : Dis bl br ba b1 r1 ba1
  d01 : Dis b0 r0 ba0 b1 r1 ba1
  arr : wr.heap[ap]? = some (.cells #[.pointer (some ⟨b0, 0, none⟩), .pointer (some ⟨b1, 0, none⟩)] 35 (0, 0))
  n : ¬ own3 bl br ba ap
  n0 : ¬ own3 b0 r0 ba0 ap
  n1 : ¬ own3 b1 r1 ba1 ap
  bel : Below w.heap.size w wr
theorem St3.all {w wr wr' : World} {bl br b0 r0 b1 r1 ap : Nat} {es f0 f1 : List Ent} {ba : Option Addr} {c : Nat} {ba0 : Option Addr} {c0 : Nat} {ba1 : Option Addr} {c1 : Nat}
    (h : St3 w wr bl br b0 r0 b1 r1 ap es f0 f1 ba c ba0 c0 ba1 c1) (k : Below wr.heap.size wr wr') : St3 w wr' bl br b0 r0 b1 r1 ap es f0 f1 ba c ba0 c0 ba1 c1 :=
  { h with l := h.l.all k, l0 := h.l0.all k, l1 := h.l1.all k, arr := below_obj k h.arr (obj_lt h.arr), bel := h.bel.trans (k.mono h.bel.size) }
/-- What a call that turns one ledger leaves. -/
def Own' (w w' : World) (bl br : Nat) (ba ba' : Option Addr) : Prop := ∀ i, own3 bl br ba' i → own3 bl br ba i ∨ w.heap.size ≤ i
theorem Dis.left {w w' : World} {bl br : Nat} {ba ba' : Option Addr} {b0 r0 : Nat} {ba0 : Option Addr} {f : List Ent} {c : Nat} (h : Dis bl br ba b0 r0 ba0) (l : LedgerAt w b0 r0 f ba0 c) (k : Own' w w' bl br ba ba') : Dis bl br ba' b0 r0 ba0 := by
  intro i hi hj
  rcases k i hi with h1 | h1
  · exact h i h1 hj
  · have := l.own_lt hj
    omega
theorem Dis.symm {bl br : Nat} {ba : Option Addr} {b0 r0 : Nat} {ba0 : Option Addr} (h : Dis bl br ba b0 r0 ba0) : Dis b0 r0 ba0 bl br ba := fun i hi hj => h i hj hi
theorem Own'.not {w w' : World} {bl br : Nat} {ba ba' : Option Addr} (k : Own' w w' bl br ba ba') {ap : Nat} (h : ¬ own3 bl br ba ap) (ha : ap < w.heap.size) : ¬ own3 bl br ba' ap := by
  intro hi
  rcases k _ hi with h1 | h1
  · exact h h1
  · omega
theorem St3.add {w wr wr' : World} {bl br b0 r0 b1 r1 ap : Nat} {es es' f0 f1 : List Ent} {ba ba' : Option Addr} {c c' : Nat} {ba0 : Option Addr} {c0 : Nat} {ba1 : Option Addr} {c1 : Nat}
    (h : St3 w wr bl br b0 r0 b1 r1 ap es f0 f1 ba c ba0 c0 ba1 c1) (l : LedgerAt wr' bl br es' ba' c') (o : ∀ i, own3 bl br ba' i → w.heap.size ≤ i) (bel : Below w.heap.size w wr') (u : Upd (own3 bl br ba) wr wr') (k : Own' wr wr' bl br ba ba') :
    St3 w wr' bl br b0 r0 b1 r1 ap es' f0 f1 ba' c' ba0 c0 ba1 c1 :=
  { l := l, l0 := h.l0.upd u h.d0.symm, l1 := h.l1.upd u h.d1.symm, o := o, o0 := h.o0, o1 := h.o1, d0 := h.d0.left h.l0 k, d1 := h.d1.left h.l1 k, d01 := h.d01,
    arr := u.obj h.arr h.n, n := k.not h.n (obj_lt h.arr), n0 := h.n0, n1 := h.n1, bel := bel }
theorem St3.add0 {w wr wr' : World} {bl br b0 r0 b1 r1 ap : Nat} {es f0 f0' f1 : List Ent} {ba : Option Addr} {c : Nat} {ba0 ba0' : Option Addr} {c0 c0' : Nat} {ba1 : Option Addr} {c1 : Nat}
    (h : St3 w wr bl br b0 r0 b1 r1 ap es f0 f1 ba c ba0 c0 ba1 c1) (l : LedgerAt wr' b0 r0 f0' ba0' c0') (o : ∀ i, own3 b0 r0 ba0' i → w.heap.size ≤ i) (bel : Below w.heap.size w wr') (u : Upd (own3 b0 r0 ba0) wr wr') (k : Own' wr wr' b0 r0 ba0 ba0') :
    St3 w wr' bl br b0 r0 b1 r1 ap es f0' f1 ba c ba0' c0' ba1 c1 :=
  { l := h.l.upd u h.d0, l0 := l, l1 := h.l1.upd u h.d01.symm, o := h.o, o0 := o, o1 := h.o1, d0 := (h.d0.symm.left h.l k).symm, d1 := h.d1, d01 := h.d01.left h.l1 k,
    arr := u.obj h.arr h.n0, n := h.n, n0 := k.not h.n0 (obj_lt h.arr), n1 := h.n1, bel := bel }
theorem St3.add1 {w wr wr' : World} {bl br b0 r0 b1 r1 ap : Nat} {es f0 f1 f1' : List Ent} {ba : Option Addr} {c : Nat} {ba0 : Option Addr} {c0 : Nat} {ba1 ba1' : Option Addr} {c1 c1' : Nat}
    (h : St3 w wr bl br b0 r0 b1 r1 ap es f0 f1 ba c ba0 c0 ba1 c1) (l : LedgerAt wr' b1 r1 f1' ba1' c1') (o : ∀ i, own3 b1 r1 ba1' i → w.heap.size ≤ i) (bel : Below w.heap.size w wr') (u : Upd (own3 b1 r1 ba1) wr wr') (k : Own' wr wr' b1 r1 ba1 ba1') :
    St3 w wr' bl br b0 r0 b1 r1 ap es f0 f1' ba c ba0 c0 ba1' c1' :=
  { l := h.l.upd u h.d1, l0 := h.l0.upd u h.d01, l1 := l, o := h.o, o0 := h.o0, o1 := o, d0 := h.d0, d1 := (h.d1.symm.left h.l k).symm, d01 := (h.d01.symm.left h.l0 k).symm,
    arr := u.obj h.arr h.n1, n := h.n, n0 := h.n0, n1 := k.not h.n1 (obj_lt h.arr), bel := bel }

def StaysL (w : World) (bl br b0 r0 b1 r1 ap : Nat) (es : List Ent) (wr : World) : Prop := ∃ ba c ba0 c0 ba1 c1, St3 w wr bl br b0 r0 b1 r1 ap es (apt 0 es) (apt 1 es) ba c ba0 c0 ba1 c1

set_option maxRecDepth 100000 in
set_option maxHeartbeats 1600000 in
theorem walkStaysL (w : World) (hk : KindsAt w) (a : Option Addr) (n cap : Nat) (ls : List Ent) (ha : SlAt w 4 a n cap (ls.flatMap entC)) :
    Calls Tryd.prog 4 #[.slice a n cap] w (fun e w' => e = .returned (.bool true) ∧ Below w.heap.size w w') := by
  by_cases hn : 100 < n
  · go_enter Tryd.func4, Tryd.ntmps4
    go_wp2_with fail
    refine (aliveLedger _ hk).mono ?_
    rintro e w1 ⟨rfl, hb1⟩
    go_wp2_with fail
    go_ret
    exact ⟨rfl, hb1⟩
  · go_enter Tryd.func4, Tryd.ntmps4
    go_wp2_with fail
    refine (aliveLedger _ hk).mono ?_
    rintro e w1 ⟨rfl, hb1⟩
    go_wp2_with fail
    refine (new_ _).mono ?_
    rintro e w2 ⟨bl, br, ba, bc, rfl, hl, hown, hb2⟩
    go_wp2_with fail
    refine (new_ _).mono ?_
    rintro e w3 ⟨b0, r0, ba0, bc0, rfl, hl0, hown0, hb3⟩
    go_wp2_with fail
    refine (new_ _).mono ?_
    rintro e w4 ⟨b1, r1, ba1, bc1, rfl, hl1, hown1, hb4⟩
    have g1 := hb1.size
    have g2 := hb2.size
    have g3 := hb3.size
    have g4 := hb4.size
    have hst : StaysL w bl br b0 r0 b1 r1 w4.heap.size [] (w4.alloc (.cells #[.pointer (some ⟨b0, 0, none⟩), .pointer (some ⟨b1, 0, none⟩)] 35)) := by
      have k2 := hl.all hb3
      have k3 := k2.all hb4
      have m3 := hl0.all hb4
      refine ⟨ba, bc, ba0, bc0, ba1, bc1, k3.all ((Below.refl _ _).alloc (Nat.le_refl _) _), m3.all ((Below.refl _ _).alloc (Nat.le_refl _) _), hl1.all ((Below.refl _ _).alloc (Nat.le_refl _) _), fun i hi => ?_, fun i hi => ?_, fun i hi => ?_, fun i hi hj => ?_, fun i hi hj => ?_, fun i hi hj => ?_, alloc_new _ _, fun hi => ?_, fun hi => ?_, fun hi => ?_, ?_⟩
      · have := hown i hi; omega
      · have := hown0 i hi; omega
      · have := hown1 i hi; omega
      · have := hl.own_lt hi; have := hown0 i hj; omega
      · have := hl.own_lt hi; have := hown1 i hj; omega
      · have := hl0.own_lt hi; have := hown1 i hj; omega
      · have := k3.own_lt hi; omega
      · have := m3.own_lt hi; omega
      · have := hl1.own_lt hi; omega
      · exact (((hb1.trans (hb2.mono (by omega))).trans (hb3.mono (by omega))).trans (hb4.mono (by omega))).alloc (by omega) _
    have Hst := Lib.hid hst
    clear hst hl hl0 hl1
    go_wp2_with fail
    go_loopw [28] (fun i wr => ∃ k : Nat, k ≤ n ∧ i = .int .i64 k ∧ ∃ es, es.length ≤ k ∧ WF es ∧ StaysL w bl br b0 r0 b1 r1 w4.heap.size es wr) (fun i _ => n - (intOf i).toNat)
    case atStart => exact ⟨0, Nat.zero_le _, rfl, [], by simp, wf_nil, Hst.out⟩
    case round =>
      obtain ⟨k, hkn, rfl, es, hel, hwf, ba, bc, ba0, bc0, ba1, bc1, hs⟩ := hrel
      have Hwf := Lib.hid hwf
      clear hwf Hst
      by_cases hlt : k < n
      · obtain ⟨b, off, x, rfl, hx, hb, c0, c1, c2, c3⟩ := ent_at (ha.all hs.bel) hlt
        clear hx
        have sA := hs.all ((Below.refl _ _).alloc (Nat.le_refl _) (.cells #[.int .i64 x.p, .int .i64 x.k, .int .i64 x.t, .int .i64 x.l] 37))
        have oA := alloc_new wr (.cells #[.int .i64 x.p, .int .i64 x.k, .int .i64 x.t, .int .i64 x.l] 37)
        have hno : ∀ {bl br : Nat} {es : List Ent} {ba : Option Addr} {c : Nat}, LedgerAt wr bl br es ba c → ¬ own3 bl br ba wr.heap.size := fun h hi => by have := h.own_lt hi; omega
        have nl := hno hs.l
        have n0 := hno hs.l0
        have n1 := hno hs.l1
        go_wp2_with fail
        refine (allOk _ _ _ _ _ _ sA.l (by omega)).mono ?_
        rintro e w5 ⟨a5, c5, rfl, hr5, hf5, hb5, _⟩
        have s5 := sA.all hb5
        have o5 := below_obj hb5 oA (obj_lt oA)
        have x0 := obj_cell o5 0
        have x1 := obj_cell o5 1
        have x2 := obj_cell o5 2
        simp at x0 x1 x2
        go_wp2_with fail
        refine (addOwn w _ _ _ _ _ _ _ _ _ s5.l hk s5.o s5.bel).mono ?_
        rintro e w6 ⟨ba6, bc6, rfl, hl6, hown6, hbel6, hu6, hw6⟩
        have o6 := hu6.obj o5 nl
        have s6 := s5.add hl6 hown6 hbel6 hu6 hw6
        have hn6 : ¬ own3 bl br ba6 wr.heap.size := fun hi => by
          rcases hw6 _ hi with h | h
          · exact nl h
          · have := obj_lt o5; omega
        have hr6 := hr5.upd hu6 (fun ad he hi => by have := hf5 ad he; have := sA.l.own_lt hi; omega)
        have hlen6 := addNext_len es x.p x.k x.t (by omega)
        clear c0 c1 c2 c3 hs sA s5 oA o5 x0 x1 x2 hr5
        by_cases he : addErr es x.p x.k x.t = 0
        · rw [if_pos he, he, addV, errV_zero]
          rw [addNext_ok he] at s6 hlen6
          have hp := (addErr_ok.1 he).1
          have hA0 := Lib.hid (show x.p = 0 → addErr (apt 0 es) 0 x.k x.t = 0 ∧ addLev (apt 0 es) 0 x.k = addLev es x.p x.k ∧ addNext (apt 0 es) 0 x.k x.t = apt 0 (es ++ [⟨x.p, x.k, x.t, addLev es x.p x.k⟩]) ∧ apt 1 es = apt 1 (es ++ [⟨x.p, x.k, x.t, addLev es x.p x.k⟩]) from fun h => by
            rw [h] at he ⊢
            exact ⟨apart_err he 0, apart_lev es 0 x.k, apart_next he, (apart_rest (by decide)).symm⟩)
          have hA1 := Lib.hid (show x.p = 1 → addErr (apt 1 es) 1 x.k x.t = 0 ∧ addLev (apt 1 es) 1 x.k = addLev es x.p x.k ∧ addNext (apt 1 es) 1 x.k x.t = apt 1 (es ++ [⟨x.p, x.k, x.t, addLev es x.p x.k⟩]) ∧ apt 0 es = apt 0 (es ++ [⟨x.p, x.k, x.t, addLev es x.p x.k⟩]) from fun h => by
            rw [h] at he ⊢
            exact ⟨apart_err he 1, apart_lev es 1 x.k, apart_next he, (apart_rest (by decide)).symm⟩)
          have hwf' := Lib.hid (Hwf.out.snoc he)
          clear he Hwf
          generalize addLev es x.p x.k = lv at *
          generalize x.p = p at *
          generalize x.k = kd at *
          generalize x.t = t at *
          generalize x.l = l0 at *
          have hlast : (es ++ [(⟨p, kd, t, lv⟩ : Ent)])[es.length]? = some ⟨p, kd, t, lv⟩ := by simp
          have hpre : ∀ j, j < es.length → (es ++ [(⟨p, kd, t, lv⟩ : Ent)])[j]? = es[j]? := fun j hj => List.getElem?_append_left hj
          have hln : (es ++ [(⟨p, kd, t, lv⟩ : Ent)]).length = es.length + 1 := by simp
          obtain ⟨es', hes⟩ : ∃ es', es' = es ++ [(⟨p, kd, t, lv⟩ : Ent)] := ⟨_, rfl⟩
          rw [← hes] at s6 hlen6 hlast hpre hln hwf' hA0 hA1
          clear hes
          go_wp2_with fail
          refine (allOk _ _ _ _ _ _ s6.l hlen6).mono ?_
          rintro e w7 ⟨a7, c7, rfl, hr7, hf7, hb7, _⟩
          have s7 := s6.all hb7
          have o7 := below_obj hb7 o6 (obj_lt o6)
          have hr7o := hr6.all hb7
          obtain ⟨p7, q7, y, rfl, hy, hp7, c0, c1, c2, c3⟩ := ent_at hr7.sl (k := es.length) (by omega)
          obtain rfl := Option.some.inj (hlast.symm.trans hy)
          simp only at c0 c1 c2 c3
          have hz7 : w.heap.size ≤ w7.heap.size := s7.bel.size
          have Hp := Lib.hid hpre
          have H5 := Lib.hid hr7o.sl
          have H7 := Lib.hid hr7.sl
          have S7 := Lib.hid s7
          clear hpre hlast hy hr6 hr7 hr7o hl6 s6 s7 hb7
          generalize wr.heap.size = eb at *
          have q := ent_neq
          rw [hln]
          go_wp2_with fail
          clear c0 c1 c2 c3
          go_loopw [72] (fun i wr => ∃ j : Nat, j ≤ es.length ∧ i = .int .i64 j ∧ Q w7 wr) (fun i _ => es.length - (intOf i).toNat)
          case atStart => exact ⟨0, Nat.zero_le _, rfl, Q.refl _⟩
          case round =>
            obtain ⟨j, hj, rfl, hq⟩ := hrel
            by_cases hjl : j < es.length
            · obtain ⟨p1, o1, z, rfl, hx, hp1, c0, c1, c2, c3⟩ := ent_at (H5.out.all (hq.below _)) hjl
              obtain ⟨p2, o2, y, he7, hy, hp2, d0, d1, d2, d3⟩ := ent_at (H7.out.all (hq.below _)) (show j < es'.length by omega)
              simp only [Option.some.injEq, Addr.mk.injEq, and_true] at he7
              obtain ⟨rfl, rfl⟩ := he7
              obtain rfl : z = y := Option.some.inj (hx.symm.trans ((Hp.out j hjl).symm.trans hy))
              clear hx hy
              go_wp2_with fail
              go_quiet (fail)
              go_wp2_with fail
              go_roundw
              case rel => exact ⟨j + 1, by omega, by go_num, hq.drewN _⟩
              case measure => simp [intOf]; omega
            · obtain rfl : j = es.length := by omega
              have s8 := S7.out.all (hq.below _)
              have o8 := below_obj (hq.below w7.heap.size) o7 (obj_lt o7)
              have x0 := obj_cell o8 0
              have x1 := obj_cell o8 1
              have x2 := obj_cell o8 2
              simp at x0 x1 x2
              rcases hp with rfl | rfl
              · obtain ⟨h1, h2, h3, h4⟩ := hA0.out rfl
                have y0 := obj_cell s8.arr 0
                simp at y0
                have A3 := Lib.hid h3
                have A4 := Lib.hid h4
                have S8 := Lib.hid (s8.all (Below.refl _ _).drew)
                have hi := Lib.hid hln
                clear h3 h4 hln
                go_wp2_with fail
                go_region_held3 (fun x => x.cell? ⟨eb, 0, none⟩ = some (.int .i64 0) ∧ x.cell? ⟨eb, 1, none⟩ = some (.int .i64 kd) ∧ x.cell? ⟨eb, 2, none⟩ = some (.int .i64 t) ∧ x.cell? ⟨w4.heap.size, 0, none⟩ = some (.pointer (some ⟨b0, 0, none⟩)))
                  (first | exact ⟨x0, x1, x2, y0⟩ | exact ⟨x0', x1', x2', y0'⟩)
                  (first
                    | (go_at_call 9; refine (addOwn w _ _ _ _ _ _ _ _ _ (s8.l0.all (Below.refl _ _).drew) hk s8.o0 s8.bel.drew).mono ?_; rintro e w9 ⟨ba9, bc9, rfl, hl9, hown9, hbel9, hu9, hw9⟩; rw [if_pos h1, h1, h2, addV, errV_zero]; have p1 := hu9.obj o8 n0; have p2 := hu9.obj s8.arr s8.n0; have x0' := obj_cell p1 0; have x1' := obj_cell p1 1; have x2' := obj_cell p1 2; have y0' := obj_cell p2 0; have y1' := obj_cell p2 1; simp at x0' x1' x2' y0' y1'))
                have s9 := S8.out.add0 (A3.out ▸ hl9) hown9 hbel9 hu9 hw9
                rw [A4.out] at s9
                have S9 := Lib.hid s9
                clear s9 hl9 hu9 hw9 s8 o8 p1 p2
                go_wp2_with fail
                go_roundw
                case rel => exact ⟨k + 1, by omega, by go_num, es', by have := hi.out; omega, hwf'.out, _, _, _, _, _, _, S9.out⟩
                case measure => simp [intOf]; omega
              · obtain ⟨h1, h2, h3, h4⟩ := hA1.out rfl
                have y0 := obj_cell s8.arr 1
                simp at y0
                have A3 := Lib.hid h3
                have A4 := Lib.hid h4
                have S8 := Lib.hid (s8.all (Below.refl _ _).drew)
                have hi := Lib.hid hln
                clear h3 h4 hln
                go_wp2_with fail
                go_region_held3 (fun x => x.cell? ⟨eb, 0, none⟩ = some (.int .i64 1) ∧ x.cell? ⟨eb, 1, none⟩ = some (.int .i64 kd) ∧ x.cell? ⟨eb, 2, none⟩ = some (.int .i64 t) ∧ x.cell? ⟨w4.heap.size, 1, none⟩ = some (.pointer (some ⟨b1, 0, none⟩)))
                  (first | exact ⟨x0, x1, x2, y0⟩ | exact ⟨x0', x1', x2', y1'⟩)
                  (first
                    | (go_at_call 9; refine (addOwn w _ _ _ _ _ _ _ _ _ (s8.l1.all (Below.refl _ _).drew) hk s8.o1 s8.bel.drew).mono ?_; rintro e w9 ⟨ba9, bc9, rfl, hl9, hown9, hbel9, hu9, hw9⟩; rw [if_pos h1, h1, h2, addV, errV_zero]; have p1 := hu9.obj o8 n1; have p2 := hu9.obj s8.arr s8.n1; have x0' := obj_cell p1 0; have x1' := obj_cell p1 1; have x2' := obj_cell p1 2; have y0' := obj_cell p2 0; have y1' := obj_cell p2 1; simp at x0' x1' x2' y0' y1'))
                have s9 := S8.out.add1 (A3.out ▸ hl9) hown9 hbel9 hu9 hw9
                rw [A4.out] at s9
                have S9 := Lib.hid s9
                clear s9 hl9 hu9 hw9 s8 o8 p1 p2
                go_wp2_with fail
                go_roundw
                case rel => exact ⟨k + 1, by omega, by go_num, es', by have := hi.out; omega, hwf'.out, _, _, _, _, _, _, S9.out⟩
                case measure => simp [intOf]; omega
        · rw [if_neg he, addV, errV_pos _ _ he]
          rw [addNext_bad he] at s6
          have He := Lib.hid he
          clear he
          generalize addErr es x.p x.k x.t = er at *
          go_wp2_with fail
          refine (allOk _ _ _ _ _ _ s6.l (by omega)).mono ?_
          rintro e w7 ⟨a7, c7, rfl, hr7, hf7, hb7, _⟩
          have s7 := s6.all hb7
          have S7 := Lib.hid s7
          clear s6 s7 hr7 hr6 hlen6 hl6
          go_wp2_with fail
          go_roundw
          case rel => exact ⟨k + 1, by omega, by go_num, es, by omega, Hwf.out, _, _, _, _, _, _, S7.out⟩
          case measure => simp [intOf]; omega
      · obtain rfl : k = n := by omega
        go_wp2_with fail
        refine (allOk _ _ _ _ _ _ hs.l (by omega)).mono ?_
        rintro e w5 ⟨a5, c5, rfl, hr5, hf5, hb5, _⟩
        have b5 := hs.bel.trans (hb5.mono hs.bel.size)
        go_wp2_with fail
        refine (fold _ (hk.below b5 hk.pos) _ _ _ _ hr5.sl).mono ?_
        rintro e w6 ⟨a6, c6, rfl, hr6, hf6, hb6⟩
        rw [Hwf.out.1] at hr6 ⊢
        simp only at hr6 ⊢
        rw [errV_zero]
        have hr5' := hr5.all hb6
        have b6 := b5.trans (hb6.mono b5.size)
        have H5 := Lib.hid hr5'.sl
        have H6 := Lib.hid hr6.sl
        clear hr5 hr6 hr5' hf5 hf6 hb5 hb6
        have q := ent_neq
        go_wp2_with fail
        go_loopw [125] (fun i wr => ∃ j : Nat, j ≤ es.length ∧ i = .int .i64 j ∧ Q w6 wr) (fun i _ => es.length - (intOf i).toNat)
        case atStart => exact ⟨0, Nat.zero_le _, rfl, Q.refl _⟩
        case round =>
          obtain ⟨j, hj, rfl, hq⟩ := hrel
          by_cases hjl : j < es.length
          · obtain ⟨p1, o1, x, rfl, hx, hp1, c0, c1, c2, c3⟩ := ent_at (H5.out.all (hq.below _)) hjl
            obtain ⟨p2, o2, y, rfl, hy, hp2, d0, d1, d2, d3⟩ := ent_at (H6.out.all (hq.below _)) hjl
            obtain rfl : x = y := Option.some.inj (hx.symm.trans hy)
            clear hx hy
            go_wp2_with fail
            go_quiet (fail)
            go_wp2_with fail
            go_roundw
            case rel => exact ⟨j + 1, by omega, by go_num, hq.drewN _⟩
            case measure => simp [intOf]; omega
          · obtain rfl : j = es.length := by omega
            go_wp2_with fail
            go_ret
            exact ⟨rfl, b6.trans ((hq.below _).mono b6.size)⟩
end Go.Proofs.YtfphjokijanahaaDoor
