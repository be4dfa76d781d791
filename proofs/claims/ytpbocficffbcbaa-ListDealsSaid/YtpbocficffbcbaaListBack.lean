import Derived.Test.YtpbocficffbcbaaList3
import Derived.Test.YtpbocficffbcbaaOpen
import Derived.Deep.DeepCutAuto
namespace Go.Proofs.Ytpbocficffbcbaa
open Go Go.RowKit
set_option linter.unusedVariables false

theorem rem_ins (zs : List Int) (i : Nat) (x : Int) (h : i ≤ zs.length) : remAt (insAt zs i x) i = zs := by
  unfold remAt insAt
  have hl : (zs.take i).length = i := by simp; omega
  rw [List.take_append_of_le_length (by omega), List.take_of_length_le (by omega), List.drop_append, List.drop_of_length_le (by omega), hl]
  simp
theorem ins_get (zs : List Int) (i : Nat) (x : Int) (h : i ≤ zs.length) : (insAt zs i x).getD i 0 = x := by
  unfold insAt
  have hl : (zs.take i).length = i := by simp; omega
  rw [List.getD_eq_getElem?_getD, List.getElem?_append_right (by omega), hl]
  simp
theorem ins_rem (zs : List Int) (i : Nat) (h : i < zs.length) : insAt (remAt zs i) i (zs.getD i 0) = zs := by
  unfold remAt insAt
  have hl : (zs.take i).length = i := by simp; omega
  rw [List.take_append_of_le_length (by omega), List.take_of_length_le (by omega), List.drop_append, List.drop_of_length_le (by omega), hl]
  simp [h]
theorem mov_mov (zs : List Int) (i j : Nat) (hi : i < zs.length) (hj : j < zs.length) : movAt (movAt zs i j) j i = zs := by
  unfold movAt
  have := remAt_len zs i hi
  rw [rem_ins _ _ _ (by omega), ins_get _ _ _ (by omega), ins_rem _ _ hi]

set_option maxHeartbeats 400000 in
theorem reversed (w : World) (a : Option Addr) (n cap : Nat) (zs : List Int) (h : SlAt w 1 a n cap (zs.map (.int .i64))) (hn : n < 1000000) :
    Calls Try.prog 24 #[.slice a n cap] w (fun e w' => ∃ a' c', e = .returned (.slice a' n c') ∧ RowAt w' 3 1 a' n c' (zs.reverse.map (.int .i64)) ∧ Fresh w.heap.size a' ∧ Below w.heap.size w w') := by
  go_enter Try.func24, Try.ntmps24
  go_wp2_with fail
  refine (cloneInts _ _ _ _ _ h (by omega)).mono ?_
  rintro e w1 ⟨a1, c1, rfl, hr1, hf1, hb1, hnil⟩
  rcases hr1.sl.form with ⟨rfl, rfl, rfl, hz⟩ | ⟨⟨b1, o1, sp⟩, rfl⟩
  · have hz : zs = [] := by simpa using hz
    subst hz
    go_wp2_with fail
    refine (show Calls Try.prog 83 _ w1 _ from Any.slices_Reverse_int_empty layReverse none 0 w1).mono ?_
    rintro e w2 ⟨rfl, rfl⟩
    go_wp2_with fail
    go_ret
    exact ⟨none, 0, rfl, hr1, hf1, hb1⟩
  · obtain ⟨hsp, _⟩ := hr1.row _ rfl
    simp only at hsp
    subst hsp
    go_wp2_with fail
    refine (sReverse _ _ _ _ _ _ hr1).mono ?_
    rintro e w2 ⟨rfl, hr2, hu2⟩
    have b2 : Below w.heap.size w w2 := hb1.trans (hu2.below hb1.size (fun k hk => by have := hf1 _ rfl; simp at this; omega))
    go_wp2_with fail
    go_ret
    exact ⟨_, _, rfl, hr2, hf1, b2⟩

theorem u64_bd (a : Int) : 0 ≤ IntKind.u64.wrap a := by
  simp [IntKind.wrap, IntKind.signed, IntKind.bits]
  omega
theorem modBd (a : Int) (n : Nat) (hn : n < 1000000) : ∃ i : Nat, wrap64 ((IntKind.u64.wrap a).tmod ((n : Int) + 1)) = i ∧ i ≤ n := by
  have h := u64_bd a
  generalize IntKind.u64.wrap a = u at *
  rw [Int.tmod_eq_emod_of_nonneg h]
  have h1 := Int.emod_nonneg u (show (n : Int) + 1 ≠ 0 by omega)
  have h2 := Int.emod_lt_of_pos u (show (0 : Int) < (n : Int) + 1 by omega)
  generalize u % ((n : Int) + 1) = t at *
  refine ⟨t.toNat, ?_, by omega⟩
  unfold wrap64
  omega

/-- Ints that may be written. -/
structure IntRow (w : World) (b off n : Nat) : Prop where
  lt : b < w.heap.size
  cell : ∀ j, j < n → ∃ z, w.cell? ⟨b, off + j, none⟩ = some (.int .i64 z)
  fz : ∀ j, w.frozen? ⟨b, j, none⟩ = false
theorem IntRow.of_row {w : World} {b off n cap : Nat} {zs : List Int} (h : RowAt w 3 1 (some ⟨b, off, none⟩) n cap (zs.map (.int .i64))) : IntRow w b off n where
  lt := h.lt _ rfl
  cell := fun j hj => by
    have hl := h.len
    simp at hl
    exact ⟨zs.getD j 0, (h.cell j hj).trans (map_int_cell (by omega))⟩
  fz := (h.there).elim (fun _ hh => hh.2.2.2)
theorem IntRow.set {w : World} {b off n : Nat} (h : IntRow w b off n) (k : Nat) (hk : k < n) (u : Int) : IntRow (w.setCell ⟨b, off + k, none⟩ (.int .i64 u)) b off n where
  lt := by simpa using h.lt
  cell := fun j hj => by
    by_cases hjk : j = k
    · subst hjk
      obtain ⟨z, hz⟩ := h.cell j hj
      exact ⟨u, World.cell?_setCell_same' w ⟨b, off + j, none⟩ (.int .i64 u) (by rw [hz]; rfl)⟩
    · obtain ⟨z, hz⟩ := h.cell j hj
      exact ⟨z, (World.cell?_setCell_other w ⟨b, off + k, none⟩ ⟨b, off + j, none⟩ (.int .i64 u) (fun e => hjk (by simp at e))).trans hz⟩
  fz := fun j => by rw [World.frozen?_setCell]; exact h.fz j
theorem IntRow.upd {S : Nat → Prop} {w w' : World} {b off n : Nat} (h : IntRow w b off n) (k : Upd S w w') (hs : ¬ S b) : IntRow w' b off n where
  lt := Nat.lt_of_lt_of_le h.lt k.size
  cell := fun j hj => by
    obtain ⟨z, hz⟩ := h.cell j hj
    exact ⟨z, (k.cell (p := ⟨b, off + j, none⟩) h.lt hs).trans hz⟩
  fz := fun j => (World.frozen?_of_block (a := ⟨b, j, none⟩) (k.block b h.lt hs)).trans (h.fz j)

set_option maxRecDepth 100000 in
set_option maxHeartbeats 3200000 in
theorem walkBack (w : World) (a : Option Addr) (n cap : Nat) (zs : List Int) (h : SlAt w 1 a n cap (zs.map (.int .i64))) (at_ x : Int) :
    Calls Try.prog 4 #[.slice a n cap, .int .i64 at_, .int .i64 x] w (fun e w' => e = .returned (.bool true) ∧ Below w.heap.size w w') := by
  have hl := nil_of_len h
  by_cases hn : 300 < n
  · go_enter Try.func4, Try.ntmps4
    go_wp2_with fail
    refine (aliveList _).mono ?_
    rintro e w1 ⟨rfl, hb1⟩
    go_wp2_with fail
    go_ret
    exact ⟨rfl, hb1⟩
  have Hl := Lib.hid hl
  have hn' : n < 1000000 := by omega
  clear hl
  go_enter Try.func4, Try.ntmps4
  go_wp2_with fail
  refine (aliveList _).mono ?_
  rintro e w1 ⟨rfl, hb1⟩
  have h1 := h.all hb1
  go_upto_region 6 with (fail)
  obtain ⟨i, hi, hin⟩ := modBd at_ n hn'
  generalize wrap64 ((IntKind.u64.wrap at_).tmod ((n : Int) + 1)) = t at *
  subst hi
  go_wp2_with (at_builtin; refine wp_append rfl (.tmp 30) (.tmp 31) 22 rfl 3 (.int .i64 0) 1 8 Try.underlying22 Try.infoInt rfl (by decide) rfl rfl (RowAt.lit w1 #[] _ 1 0 (Nat.zero_le _) rfl (by simp)) (h1.alloc _) (by unfold maxLen; omega) (by omega) ?_; intro wa wc w2 hwas hupd2 hloc2 hnil2; simp only [Nat.zero_add, List.nil_append] at hwas)
  have b2 : Below w.heap.size w w2 := (hb1.alloc hb1.size _).trans (hupd2.below (by have := hb1.size; simp; omega) (fun k hk => by rintro ⟨ad, he, rfl⟩; obtain rfl := Option.some.inj he; have := hb1.size; simp at hk; omega))
  have h2 := h.all b2
  have hws := hwas.sl
  clear hupd2 hloc2 hnil2 h1 hwas
  refine (insOk _ _ _ _ zs h2 (by omega) i hin x).mono ?_
  rintro e w3 ⟨aa, ac, rfl, hra, hfa, hb3⟩
  obtain ⟨ba, oa, rfl, hba, _⟩ := hra.sl.nonempty (by omega)
  have hge : w2.heap.size ≤ ba := hfa _ rfl
  have hli : (insAt zs i x).length = n + 1 := by rw [insAt_len, Hl.out]
  have hx3 : w3.cell? ⟨ba, oa + i, none⟩ = some (.int .i64 x) := by
    have := (hra.cell i (by omega)).trans (map_int_cell (by omega))
    rwa [ins_get _ _ _ (by have := Hl.out; omega)] at this
  have hnn : ((n : Int) + 1 != (n : Int) + 1) = false := by simp
  have hxx : (x != x) = false := by simp
  have Hli := Lib.hid hli
  clear hli
  go_wp2_with fail
  have hrem := remOk w3 _ _ _ _ hra.sl (by omega) i (by omega)
  refine hrem.mono ?_
  clear hrem
  rintro e w4 ⟨ab, bc, rfl, hrb, hfb, hb4⟩
  rw [ins_get _ _ _ (by have := Hl.out; omega)]
  rw [rem_ins _ _ _ (by have := Hl.out; omega)] at hrb
  simp only [Nat.add_sub_cancel] at hrb ⊢
  have b3 := b2.trans (hb3.mono b2.size)
  have b4 := b3.trans (hb4.mono b3.size)
  have h4 := h.all b4
  have hra4 := hra.all hb4
  have c4 : Below w2.heap.size w2 w4 := hb3.trans (hb4.mono hb3.size)
  have hfb' : Fresh w2.heap.size ab := hfb.mono hb3.size
  go_wp2_with fail
  refine (ints _ _ _ _ _ _ _ zs zs hrb.sl h4).mono ?_
  rintro e w5 ⟨rfl, hq5⟩
  rw [show decide (zs = zs) = true by simp]
  have q5 := hq5.below w4.heap.size
  have b5 := b4.trans (q5.mono b4.size)
  have c5 := c4.trans (q5.mono c4.size)
  have h5 := h.all b5
  have hra5 := hra4.all q5
  have hrb5 := hrb.all q5
  clear hra hrb hra4 h4 hx3
  go_wp2_with fail
  refine (reversed _ _ _ _ zs h5 hn').mono ?_
  rintro e w6 ⟨a6, c6, rfl, hr6, hf6, hb6⟩
  go_wp2_with fail
  refine (reversed _ _ _ _ _ hr6.sl hn').mono ?_
  rintro e w7 ⟨a7, c7, rfl, hr7, hf7, hb7⟩
  rw [List.reverse_reverse] at hr7
  have b7 := b5.trans ((hb6.trans (hb7.mono hb6.size)).mono b5.size)
  have c7 := c5.trans ((hb6.trans (hb7.mono hb6.size)).mono c5.size)
  have h7 := h.all b7
  have hra7 := (hra5.all hb6).all hb7
  have hrb7 := (hrb5.all hb6).all hb7
  go_wp2_with fail
  refine (ints _ _ _ _ _ _ _ zs zs hr7.sl h7).mono ?_
  rintro e w8 ⟨rfl, hq8⟩
  rw [show decide (zs = zs) = true by simp]
  have q8 := hq8.below w7.heap.size
  have b8 := b7.trans (q8.mono b7.size)
  have c8 := c7.trans (q8.mono c7.size)
  have hra8 := hra7.all q8
  have hrb8 := hrb7.all q8
  clear hra5 hra7 hrb5 hrb7 hr6 hr7 h7 h5
  go_upto_region 14 with (fail)
  obtain ⟨j, hj, hjn⟩ := modBd x n hn'
  generalize wrap64 ((IntKind.u64.wrap x).tmod ((n : Int) + 1)) = t at *
  subst hj
  go_wp2_with fail
  have hm1 := moveOk w8 _ _ _ _ hra8.sl (by omega) i j (by omega) (by omega)
  refine hm1.mono ?_
  clear hm1
  rintro e w9 ⟨am, mc, rfl, hrm, hfm, hb9⟩
  have b9 := b8.trans (hb9.mono b8.size)
  have c9 := c8.trans (hb9.mono c8.size)
  have hra9 := hra8.all hb9
  have hrb9 := hrb8.all hb9
  have hsm := hrm.sl
  clear hrm hra8 hrb8
  go_wp2_with fail
  have hm2 := moveOk w9 _ _ _ _ hsm (by omega) j i (by omega) (by omega)
  refine hm2.mono ?_
  clear hm2
  rintro e w10 ⟨an, nc, rfl, hrn, hfn, hb10⟩
  rw [mov_mov _ _ _ (by have := Hli.out; omega) (by have := Hli.out; omega)] at hrn
  have b10 := b9.trans (hb10.mono b9.size)
  have c10 := c9.trans (hb10.mono c9.size)
  have hra10 := hra9.all hb10
  have hrb10 := hrb9.all hb10
  have hsn := hrn.sl
  clear hrn hra9 hrb9 hsm
  go_wp2_with fail
  refine (ints _ _ _ _ _ _ _ (insAt zs i x) (insAt zs i x) hsn hra10.sl).mono ?_
  rintro e w11 ⟨rfl, hq11⟩
  rw [show decide (insAt zs i x = insAt zs i x) = true by simp]
  have q11 := hq11.below w10.heap.size
  have b11 := b10.trans (q11.mono b10.size)
  have c11 := c10.trans (q11.mono c10.size)
  have ra := IntRow.of_row (hra10.all q11)
  have hrb11 := hrb10.all q11
  have rb : ∀ ad, ab = some ad → ∃ b o, ab = some ⟨b, o, none⟩ ∧ IntRow w11 b o n ∧ w2.heap.size ≤ b := by
    rintro ⟨b, o, sp⟩ rfl
    obtain ⟨hsp, _⟩ := hrb11.row _ rfl
    simp only at hsp
    subst hsp
    exact ⟨b, o, rfl, IntRow.of_row hrb11, hfb' _ rfl⟩
  have hn0 : ab = none → n = 0 := fun h0 => by have := hrb11.nil h0; have := hrb11.le; omega
  have hbne : ∀ b o, ab = some ⟨b, o, none⟩ → b ≠ ba := fun b o he => by
    have := hfb _ he
    simp at this
    omega
  have Rb := Lib.hid rb
  have Hn0 := Lib.hid hn0
  have Hbne := Lib.hid hbne
  have Hfb := Lib.hid hfb'
  clear hra10 hrb10 hrb11 hsn rb hn0 hbne hfb' hfb hfm hfn hfa hb3 hb4 hb6 hb7 hb9 hb10
  go_wp2_with fail
  go_loopw [119] (fun i wr => ∃ k : Nat, k ≤ n + 1 ∧ i = .int .i64 k ∧ IntRow wr ba oa (n + 1) ∧ Upd (fun k => k = ba) w11 wr) (fun i _ => n + 1 - (intOf i).toNat)
  case atStart => exact ⟨0, by omega, rfl, ra, Upd.refl _ _⟩
  case round =>
    obtain ⟨k, hk, rfl, hrow, hup⟩ := hrel
    by_cases hlt : k < n + 1
    · obtain ⟨z, hz⟩ := hrow.cell k hlt
      have hfz := hrow.fz (oa + k)
      go_wp2_with fail
      go_roundw
      case rel => exact ⟨k + 1, by omega, by go_num, hrow.set k hlt _, hup.setCell _ (fun _ => rfl) _⟩
      case measure => simp [intOf]; omega
    · obtain rfl : k = n + 1 := by omega
      have c12 : Below w2.heap.size w2 wr := c11.trans (hup.below c11.size (fun k hk => by omega))
      have b12 : Below w.heap.size w wr := b11.trans (hup.below b11.size (fun k hk => by have := b2.size; omega))
      go_wp2_with fail
      obtain ⟨wp, rfl⟩ : ∃ wp : World, wp = wr := ⟨_, rfl⟩
      have ra' : ∀ ad, ab = some ad → ∃ b o, ab = some ⟨b, o, none⟩ ∧ IntRow wp b o n ∧ w2.heap.size ≤ b := fun ad he => by
        obtain ⟨b, o, he2, hr2, hg2⟩ := Rb.out ad he
        exact ⟨b, o, he2, hr2.upd hup (Hbne.out b o he2), hg2⟩
      have Ra := Lib.hid ra'
      clear ra' ra hrow
      go_loopw [131] (fun i wr => ∃ k : Nat, k ≤ n ∧ i = .int .i64 k ∧ (∀ b o, ab = some ⟨b, o, none⟩ → IntRow wr b o n) ∧ Upd (blk ab) wp wr) (fun i _ => n - (intOf i).toNat)
      case atStart =>
        refine ⟨0, by omega, rfl, fun b o he => ?_, Upd.refl _ _⟩
        obtain ⟨b', o', he2, hr2, _⟩ := Ra.out _ he
        rw [he] at he2
        simp at he2
        obtain ⟨rfl, rfl⟩ := he2
        exact hr2
      case round =>
        obtain ⟨k, hk, rfl, hrow, hup2⟩ := hrel
        by_cases hlt : k < n
        · obtain ⟨b, o, rfl⟩ : ∃ b o, ab = some ⟨b, o, none⟩ := by
            cases ab with
            | none => have := Hn0.out rfl; omega
            | some ad =>
              obtain ⟨b, o, he, _⟩ := Rb.out _ rfl
              exact ⟨b, o, he⟩
          have hrw := hrow _ _ rfl
          obtain ⟨z, hz⟩ := hrw.cell k hlt
          have hfz := hrw.fz (o + k)
          clear hrow
          go_wp2_with fail
          go_roundw
          case rel => exact ⟨k + 1, by omega, by go_num, fun b' o' he => by (have he' := Option.some.inj he; simp at he'; obtain ⟨rfl, rfl⟩ := he'; exact hrw.set k hlt _), hup2.setCell ⟨b, o + k, none⟩ (fun _ => ⟨⟨b, o, none⟩, rfl, rfl⟩) _⟩
          case measure => simp [intOf]; omega
        · obtain rfl : k = n := by omega
          have c13 : Below w2.heap.size w2 wr := c12.trans (hup2.below c12.size (fun k hk => by rintro ⟨ad, he, rfl⟩; have := Hfb.out ad he; omega))
          have b13 : Below w.heap.size w wr := b12.trans (hup2.below b12.size (fun k hk => by rintro ⟨ad, he, rfl⟩; have := Hfb.out ad he; have := b2.size; omega))
          have h13 := h.all b13
          have w13 := hws.all c13
          clear hrow
          go_wp2_with fail
          refine (ints _ _ _ _ _ _ _ zs zs h13 w13).mono ?_
          rintro e w14 ⟨rfl, hq14⟩
          rw [show decide (zs = zs) = true by simp]
          have b14 := b13.trans ((hq14.below _).mono b13.size)
          go_wp2_with fail
          go_ret
          exact ⟨rfl, b14⟩
end Go.Proofs.Ytpbocficffbcbaa
