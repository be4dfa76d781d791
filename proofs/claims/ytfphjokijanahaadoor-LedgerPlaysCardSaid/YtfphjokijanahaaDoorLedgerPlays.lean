import Derived.Test.YtfphjokijanahaaDoorLedger10
namespace Go.Proofs.YtfphjokijanahaaDoor
open Go Go.RowKit
set_option linter.unusedVariables false

/-- The ledger and the document's entries, apart. -/
structure PL (w wr : World) (bl br : Nat) (es : List Ent) (ba : Option Addr) (bc : Nat) (ma : Option Addr) (mc : Nat) : Prop where
  l : LedgerAt wr bl br es ba bc
  o : ∀ i, own3 bl br ba i → w.heap.size ≤ i
  m : RowAt wr 46 4 ma es.length mc (es.flatMap entC)
  d : ∀ ad, ma = some ad → ¬ own3 bl br ba ad.block
  bel : Below w.heap.size w wr
theorem PL.all {w wr wr' : World} {bl br : Nat} {es : List Ent} {ba : Option Addr} {bc : Nat} {ma : Option Addr} {mc : Nat} (h : PL w wr bl br es ba bc ma mc) (k : Below wr.heap.size wr wr') : PL w wr' bl br es ba bc ma mc :=
  { h with l := h.l.all k, m := h.m.all k, bel := h.bel.trans (k.mono h.bel.size) }

set_option maxRecDepth 100000 in
set_option maxHeartbeats 1600000 in
theorem walkPlaysL (w : World) (hk : KindsAt w) (a : Option Addr) (n cap : Nat) (ls : List Ent) (ha : SlAt w 4 a n cap (ls.flatMap entC)) :
    Calls Tryd.prog 5 #[.slice a n cap] w (fun e w' => e = .returned (.bool true) ∧ Below w.heap.size w w') := by
  by_cases hn : 60 < n
  · go_enter Tryd.func5, Tryd.ntmps5
    go_wp2_with fail
    refine (aliveLedger _ hk).mono ?_
    rintro e w1 ⟨rfl, hb1⟩
    go_wp2_with fail
    go_ret
    exact ⟨rfl, hb1⟩
  · go_enter Tryd.func5, Tryd.ntmps5
    go_wp2_with fail
    refine (aliveLedger _ hk).mono ?_
    rintro e w1 ⟨rfl, hb1⟩
    go_wp2_with fail
    refine (new_ _).mono ?_
    rintro e w2 ⟨bl, br, ba, bc, rfl, hl, hown, hb2⟩
    have g1 := hb1.size
    have g2 := hb2.size
    have hst : PL w (w2.alloc (.cells #[] 46)) bl br [] ba bc (some ⟨w2.heap.size, 0, none⟩) 0 := by
      refine ⟨hl.all ((Below.refl _ _).alloc (Nat.le_refl _) _), fun i hi => ?_, RowAt.lit w2 #[] _ 4 0 (Nat.zero_le _) rfl (by simp), fun ad he hi => ?_, (hb1.trans (hb2.mono g1)).alloc (by omega) _⟩
      · have := hown i hi; omega
      · obtain rfl := Option.some.inj he
        have := hl.own_lt hi
        simp at this
    have Hst := Lib.hid hst
    clear hst hl
    go_wp2_with fail
    go_loopw [4, 21] (fun m i wr => ∃ k : Nat, k ≤ n ∧ i = .int .i64 k ∧ ∃ es ba bc ma mc, es.length ≤ k ∧ WF es ∧ m = .slice ma es.length mc ∧ PL w wr bl br es ba bc ma mc) (fun _ i _ => n - (intOf i).toNat)
    case atStart => exact ⟨0, Nat.zero_le _, rfl, [], _, _, _, _, by simp, wf_nil, rfl, Hst.out⟩
    case round =>
      obtain ⟨k, hkn, rfl, es, ba, bc, ma, mc, hel, hwf, rfl, hs⟩ := hrel
      have Hwf := Lib.hid hwf
      clear hwf Hst
      by_cases hlt : k < n
      · obtain ⟨b, off, x, rfl, hx, hb, c0, c1, c2, c3⟩ := ent_at (ha.all hs.bel) hlt
        clear hx
        have sA := hs.all ((Below.refl _ _).alloc (Nat.le_refl _) (.cells #[.int .i64 x.p, .int .i64 x.k, .int .i64 x.t, .int .i64 x.l] 37))
        have oA := alloc_new wr (.cells #[.int .i64 x.p, .int .i64 x.k, .int .i64 x.t, .int .i64 x.l] 37)
        have nl : ¬ own3 bl br ba wr.heap.size := fun hi => by have := hs.l.own_lt hi; omega
        go_wp2_with fail
        refine (copyOk _ (hk.below sA.bel hk.pos) _ _ _ _ _ sA.l Hwf.out).mono ?_
        rintro e w5 ⟨bo, ro, bao, bco, rfl, hlo, howno, hb5⟩
        have s5 := sA.all hb5
        have o5 := below_obj hb5 oA (obj_lt oA)
        have x0 := obj_cell o5 0
        have x1 := obj_cell o5 1
        have x2 := obj_cell o5 2
        simp at x0 x1 x2
        have hz5 := sA.bel.size
        go_wp2_with fail
        refine (addOwn w _ _ _ _ _ _ _ _ _ s5.l hk s5.o s5.bel).mono ?_
        rintro e w6 ⟨ba6, bc6, rfl, hl6, hown6, hbel6, hu6, hw6⟩
        have o6 := hu6.obj o5 nl
        have hlo6 := hlo.upd hu6 (fun i hi hj => by have := howno i hi; have := sA.l.own_lt hj; omega)
        have hm6 := s5.m.upd hu6 s5.d
        have x0' := obj_cell o6 0
        have x1' := obj_cell o6 1
        have x2' := obj_cell o6 2
        simp at x0' x1' x2'
        have hd6 : ∀ ad, ma = some ad → ¬ own3 bl br ba6 ad.block := fun ad he hi => by
          rcases hw6 _ hi with h | h
          · exact s5.d ad he h
          · have := s5.m.lt ad he; omega
        clear c0 c1 c2 c3 hs sA s5 oA o5 x0 x1 x2 hlo
        rw [addV]
        generalize hnv : (if addErr es x.p x.k x.t = 0 then addLev es x.p x.k else 0) = nv
        have Hnv := Lib.hid hnv
        clear hnv
        generalize her : addErr es x.p x.k x.t = er
        have Her := Lib.hid her
        clear her
        go_wp2_with fail
        refine (refAdd _ _ _ _ _ _ _ hm6).mono ?_
        rintro e w7 ⟨a7, c7, rfl, hr7, hb7, hloc7⟩
        rw [Her.out]
        have hl7 := hl6.all hb7
        have hlo7 := hlo6.all hb7
        have hm7 := hm6.all hb7
        have hbel7 := hbel6.trans (hb7.mono hbel6.size)
        have hd7 : ∀ ad, a7 = some ad → ¬ own3 bl br ba6 ad.block := fun ad he hi => by
          rcases hloc7 with rfl | h
          · exact hd6 ad he hi
          · have := h ad he; have := hl6.own_lt hi; omega
        have hlen7 := addNext_len es x.p x.k x.t (by omega)
        have HL7 := Lib.hid hl7
        have HR7 := Lib.hid hr7
        have HM7 := Lib.hid hm7
        have HO7 := Lib.hid hlo7
        clear hl6 hl7 hr7 hm6 hm7 hlo6 hlo7 o6 x0' x1' x2' hu6 hw6 hloc7
        by_cases he : er = 0
        · subst he
          have hno := addNext_ok Her.out
          have hwf' := Lib.hid (Hwf.out.snoc Her.out)
          have hlv : addLev es x.p x.k = nv := by have := Hnv.out; rwa [if_pos Her.out] at this
          rw [hno, hlv] at HL7 HR7 hlen7 ⊢
          rw [hlv] at hwf'
          have hlast : (es ++ [(⟨x.p, x.k, x.t, nv⟩ : Ent)])[es.length]? = some ⟨x.p, x.k, x.t, nv⟩ := by simp
          have hln : (es ++ [(⟨x.p, x.k, x.t, nv⟩ : Ent)]).length = es.length + 1 := by simp
          clear hno hlv Hnv Her
          generalize x.p = p at *
          generalize x.k = kd at *
          generalize x.t = t at *
          obtain ⟨es', hes⟩ : ∃ es', es' = es ++ [(⟨p, kd, t, nv⟩ : Ent)] := ⟨_, rfl⟩
          rw [← hes] at HL7 HR7 hlen7 hlast hln hwf' ⊢
          clear hes
          obtain ⟨p7, q7, y, rfl, hy, hp7, c0, c1, c2, c3⟩ := ent_at HR7.out.sl (k := es.length) (by omega)
          obtain rfl := Option.some.inj (hlast.symm.trans hy)
          simp only at c0 c1 c2 c3
          clear hy hlast
          rw [hln]
          go_wp2_with (go_at_call 16; refine (num _ _).mono ?_; rintro e w' ⟨rfl, rfl⟩)
          have hle : es.length ≤ 1000 := by omega
          have hA := HO7.out
          have hB := HM7.out.sl
          have hC := Hwf.out.2
          have hI := isOk w7 bo ro es bao bco ma mc hA hB hle hC
          refine hI.mono ?_
          clear hI hA hB hC
          rintro e w8 ⟨rfl, hb8⟩
          have s8 := Lib.hid ((show PL w w7 bl br es' ba6 bc6 _ c7 from ⟨HL7.out, hown6, HR7.out, hd7, hbel7⟩).all hb8)
          go_wp2_with fail
          have hle2 : es'.length ≤ 1000 := by omega
          have hA := s8.out.l
          have hB := s8.out.m.sl
          have hC := hwf'.out.2
          have hI := isOk w8 bl br es' ba6 bc6 _ c7 hA hB hle2 hC
          rw [hln] at hI
          refine hI.mono ?_
          clear hI hA hB hC
          rintro e w9 ⟨rfl, hb9⟩
          have s9 := Lib.hid (s8.out.all hb9)
          go_wp2_with fail
          go_roundw
          case rel => exact ⟨k + 1, by omega, by go_num, es', _, _, _, _, by omega, hwf'.out, by rw [hln], s9.out⟩
          case measure => simp [intOf]; omega
        · rw [addNext_bad (by rw [Her.out]; exact he)] at HL7 HR7 ⊢
          have hnv : 0 = nv := by have := Hnv.out; rwa [if_neg (by rw [Her.out]; exact he)] at this
          subst hnv
          have hee := Lib.hid he
          have hne : (er != 0) = true := by simp [he]
          have hne2 : (er == 0) = false := by simp [he]
          clear he hlen7 Hnv Her
          go_wp2_with (go_at_call 16; refine (num _ _).mono ?_; rintro e w' ⟨rfl, rfl⟩)
          have hle : es.length ≤ 1000 := by omega
          have hA := HO7.out
          have hB := HM7.out.sl
          have hC := Hwf.out.2
          have hI := isOk w7 bo ro es bao bco ma mc hA hB hle hC
          refine hI.mono ?_
          clear hI hA hB hC
          rintro e w8 ⟨rfl, hb8⟩
          have s8 := Lib.hid ((show PL w w7 bl br es ba6 bc6 _ c7 from ⟨HL7.out, hown6, HR7.out, hd7, hbel7⟩).all hb8)
          go_wp2_with fail
          have hle2 : es.length ≤ 1000 := by omega
          have hA := s8.out.l
          have hB := s8.out.m.sl
          have hC := Hwf.out.2
          have hI := isOk w8 bl br es ba6 bc6 _ c7 hA hB hle2 hC
          refine hI.mono ?_
          clear hI hA hB hC
          rintro e w9 ⟨rfl, hb9⟩
          have s9 := Lib.hid (s8.out.all hb9)
          go_wp2_with fail
          go_roundw
          case rel => exact ⟨k + 1, by omega, by go_num, es, _, _, _, _, by omega, Hwf.out, rfl, s9.out⟩
          case measure => simp [intOf]; omega
      · obtain rfl : k = n := by omega
        have hbel := hs.bel
        go_wp2_with fail
        go_ret
        exact ⟨rfl, hbel⟩
end Go.Proofs.YtfphjokijanahaaDoor
