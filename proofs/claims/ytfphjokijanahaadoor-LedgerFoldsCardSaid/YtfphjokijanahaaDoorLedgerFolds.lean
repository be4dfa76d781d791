import Derived.Test.YtfphjokijanahaaDoorLedger10
namespace Go.Proofs.YtfphjokijanahaaDoor
open Go Go.RowKit
set_option linter.unusedVariables false

/-- Behind k entries: the entries so far, or the first error. -/
structure FoldsR (w wr : World) (ls : List Ent) (k : Nat) (m b : Value) (es : List Ent) (er : Int) (ma : Option Addr) (mc : Nat) : Prop where
  m : m = .slice ma es.length mc
  b : b = .int .i64 er
  hm : RowAt wr 46 4 ma es.length mc (es.flatMap entC)
  hl : es.length ≤ 1000
  good : er = 0 → foldE [] ls = foldE es (ls.drop k)
  bad : er ≠ 0 → foldE [] ls = ([], er)
  bel : Below w.heap.size w wr

set_option maxRecDepth 100000 in
set_option maxHeartbeats 1600000 in
theorem walkFoldsL (w : World) (hk : KindsAt w) (a : Option Addr) (n cap : Nat) (ls : List Ent) (ha : SlAt w 4 a n cap (ls.flatMap entC)) (kind : Int) :
    Calls Tryd.prog 6 #[.slice a n cap, .int .i64 kind] w (fun e w' => e = .returned (.bool true) ∧ Below w.heap.size w w') := by
  have hlen := ent_cells ha
  by_cases hn : 100 < n
  · go_enter Tryd.func6, Tryd.ntmps6
    go_wp2_with fail
    refine (aliveLedger _ hk).mono ?_
    rintro e w1 ⟨rfl, hb1⟩
    go_wp2_with fail
    go_ret
    exact ⟨rfl, hb1⟩
  · go_enter Tryd.func6, Tryd.ntmps6
    go_wp2_with fail
    refine (aliveLedger _ hk).mono ?_
    rintro e w1 ⟨rfl, hb1⟩
    have g1 := hb1.size
    have hst : FoldsR w (w1.alloc (.cells #[] 46)) ls 0 (.slice (some ⟨w1.heap.size, 0, none⟩) 0 0) (.int .i64 0) [] 0 (some ⟨w1.heap.size, 0, none⟩) 0 :=
      ⟨rfl, rfl, RowAt.lit w1 #[] _ 4 0 (Nat.zero_le _) rfl (by simp), by simp, fun _ => rfl, fun h => absurd rfl h, hb1.alloc g1 _⟩
    have Hst := Lib.hid hst
    clear hst
    go_wp2_with fail
    go_loopw [5, 6, 23] (fun m b i wr => ∃ k : Nat, k ≤ n ∧ i = .int .i64 k ∧ ∃ es er ma mc, FoldsR w wr ls k m b es er ma mc) (fun _ _ i _ => n - (intOf i).toNat)
    case atStart => exact ⟨0, Nat.zero_le _, rfl, _, _, _, _, Hst.out⟩
    case round =>
      obtain ⟨k, hkn, rfl, es, er, ma, mc, rfl, rfl, hm, hel, hgood, hbad, hbel⟩ := hrel
      clear Hst
      by_cases hlt : k < n
      · obtain ⟨b, off, x, rfl, hx, hb, c0, c1, c2, c3⟩ := ent_at (ha.all hbel) hlt
        have hdr := drop_at hx
        clear hx
        have hm' := hm.alloc (.cells #[.int .i64 x.p, .int .i64 x.k, .int .i64 x.t, .int .i64 x.l] 37)
        have bA := hbel.alloc hbel.size (.cells #[.int .i64 x.p, .int .i64 x.k, .int .i64 x.t, .int .i64 x.l] 37)
        by_cases he : er = 0
        · subst he
          have hg := hgood rfl
          rw [hdr, foldE] at hg
          have Hg := Lib.hid hg
          clear hg hgood hbad hdr hm
          go_wp2_with fail
          refine (refAdd _ _ _ _ _ _ _ hm').mono ?_
          rintro e w7 ⟨a7, c7, rfl, hr7, hb7, hloc7⟩
          have hl7 := addNext_len es x.p x.k x.t hel
          have R := Lib.hid (show FoldsR w w7 ls (k + 1) (.slice a7 (addNext es x.p x.k x.t).length c7) (.int .i64 (addErr es x.p x.k x.t)) (addNext es x.p x.k x.t) (addErr es x.p x.k x.t) a7 c7 from
            ⟨rfl, rfl, hr7, hl7, fun h => by rw [Hg.out, if_pos h], fun h => by rw [Hg.out, if_neg h], bA.trans (hb7.mono bA.size)⟩)
          clear hr7 hm' hloc7 c0 c1 c2 c3
          generalize addErr es x.p x.k x.t = er' at *
          generalize addNext es x.p x.k x.t = es' at *
          go_wp2_with fail
          go_roundw
          case rel => exact ⟨k + 1, by omega, by go_num, _, _, _, _, R.out⟩
          case measure => simp [intOf]; omega
        · have hne : (er == 0) = false := by simp [he]
          have R := Lib.hid (show FoldsR w (wr.alloc (.cells #[.int .i64 x.p, .int .i64 x.k, .int .i64 x.t, .int .i64 x.l] 37)) ls (k + 1) (.slice ma es.length mc) (.int .i64 er) es er ma mc from
            ⟨rfl, rfl, hm', hel, fun h => absurd h he, hbad, bA⟩)
          clear he hgood hbad hm hm' hdr
          go_wp2_with fail
          go_roundw
          case rel => exact ⟨k + 1, by omega, by go_num, _, _, _, _, R.out⟩
          case measure => simp [intOf]; omega
      · obtain rfl : k = n := by omega
        by_cases he : er = 0
        · subst he
          have hg := hgood rfl
          rw [List.drop_of_length_le (by omega), foldE] at hg
          have Hf := Lib.hid hg
          clear hg hgood hbad

          go_wp2_with fail
          refine (fold _ (hk.below hbel hk.pos) _ _ _ ls (ha.all hbel)).mono ?_
          rintro e w5 ⟨a5, c5, rfl, hr5, hf5, hb5⟩
          rw [Hf.out] at hr5 ⊢
          simp only at hr5 ⊢
          have b5 := hbel.trans (hb5.mono hbel.size)
          have H5 := Lib.hid hr5.sl
          clear hr5 hf5
          have HM5 := Lib.hid (hm.sl.all hb5)
          clear hm
          have q := ent_neqR
          go_wp2_with (go_at_call 16; refine (num _ _).mono ?_; rintro e w' ⟨rfl, rfl⟩)
          go_loopw [61] (fun i wr => ∃ j : Nat, j ≤ es.length ∧ i = .int .i64 j ∧ Q w5 wr) (fun i _ => es.length - (intOf i).toNat)
          case atStart => exact ⟨0, Nat.zero_le _, rfl, Q.refl _⟩
          case round =>
            obtain ⟨j, hj, rfl, hq⟩ := hrel
            by_cases hjl : j < es.length
            · obtain ⟨p1, o1, x, rfl, hx, hp1, c0, c1, c2, c3⟩ := ent_at (H5.out.all (hq.below _)) hjl
              obtain ⟨p2, o2, y, rfl, hy, hp2, d0, d1, d2, d3⟩ := ent_at (HM5.out.all (hq.below _)) hjl
              obtain rfl : x = y := Option.some.inj (hx.symm.trans hy)
              clear hx hy
              go_wp2_with fail
              go_quiet (fail)
              go_wp2_with fail
              go_roundw
              case rel => exact ⟨j + 1, by omega, by go_num, hq.drewN _⟩
              case measure => simp [intOf]; omega
            · obtain rfl : j = es.length := by omega
              have b6 : Below w.heap.size w wr := b5.trans ((hq.below _).mono b5.size)
              have hk6 := hk.below b6 hk.pos
              go_wp2_with (first
                | (go_at_call 9; refine (addNil _ _ _ _).mono ?_; rintro e w' ⟨rfl, rfl⟩; rw [addV])
                | (go_at_call 10; refine (isErr _ _ _).mono ?_; rintro e w' ⟨rfl, rfl⟩)
                | (go_at_call 12; refine (allNil _).mono ?_; rintro e w' ⟨rfl, rfl⟩)
                | (go_at_call 11; refine (lenNil _).mono ?_; rintro e w' ⟨rfl, rfl⟩)
                | (go_at_call 18; refine (countNil _ _ _).mono ?_; rintro e w7 ⟨rfl, hb7⟩; have b7 := b6.trans (hb7.mono b6.size); have hk7 := hk.below b7 hk.pos)
                | (go_at_call 19; refine (worstNil _ _).mono ?_; rintro e w' ⟨rfl, rfl⟩)
                | (go_at_call 14; refine (copyNil _).mono ?_; rintro e w' ⟨rfl, rfl⟩)
                | (go_at_call 20; refine (nameOk _ hk7 _).mono ?_; rintro e w' ⟨rfl, rfl⟩)
                | (go_at_call 21; refine (refName _ _).mono ?_; rintro e w8 ⟨rfl, hb8⟩; have b8 := b7.trans (hb8.mono b7.size)))
              go_ret
              exact ⟨by simp, b8⟩

        · have hne : (er != 0) = true := by simp [he]
          have Hf := Lib.hid (hbad he)
          clear hgood hbad he hm

          go_wp2_with fail
          refine (fold _ (hk.below hbel hk.pos) _ _ _ ls (ha.all hbel)).mono ?_
          rintro e w5 ⟨a5, c5, rfl, hr5, hf5, hb5⟩
          rw [Hf.out] at hr5 ⊢
          simp only at hr5 ⊢
          have b5 := hbel.trans (hb5.mono hbel.size)
          have H5 := Lib.hid hr5.sl
          clear hr5 hf5
          simp only [List.length_nil]
          have q := ent_neqR
          go_wp2_with (go_at_call 16; refine (num _ _).mono ?_; rintro e w' ⟨rfl, rfl⟩)
          go_loopw [61] (fun i wr => ∃ j : Nat, j ≤ 0 ∧ i = .int .i64 j ∧ Q w5 wr) (fun i _ => 0 - (intOf i).toNat)
          case atStart => exact ⟨0, Nat.zero_le _, rfl, Q.refl _⟩
          case round =>
            obtain ⟨j, hj, rfl, hq⟩ := hrel
            obtain rfl : j = 0 := by omega
            have b6 : Below w.heap.size w wr := b5.trans ((hq.below _).mono b5.size)
            have hk6 := hk.below b6 hk.pos
            go_wp2_with (first
              | (go_at_call 9; refine (addNil _ _ _ _).mono ?_; rintro e w' ⟨rfl, rfl⟩; rw [addV])
              | (go_at_call 10; refine (isErr _ _ _).mono ?_; rintro e w' ⟨rfl, rfl⟩)
              | (go_at_call 12; refine (allNil _).mono ?_; rintro e w' ⟨rfl, rfl⟩)
              | (go_at_call 11; refine (lenNil _).mono ?_; rintro e w' ⟨rfl, rfl⟩)
              | (go_at_call 18; refine (countNil _ _ _).mono ?_; rintro e w7 ⟨rfl, hb7⟩; have b7 := b6.trans (hb7.mono b6.size); have hk7 := hk.below b7 hk.pos)
              | (go_at_call 19; refine (worstNil _ _).mono ?_; rintro e w' ⟨rfl, rfl⟩)
              | (go_at_call 14; refine (copyNil _).mono ?_; rintro e w' ⟨rfl, rfl⟩)
              | (go_at_call 20; refine (nameOk _ hk7 _).mono ?_; rintro e w' ⟨rfl, rfl⟩)
              | (go_at_call 21; refine (refName _ _).mono ?_; rintro e w8 ⟨rfl, hb8⟩; have b8 := b7.trans (hb8.mono b7.size)))
            go_ret
            exact ⟨by simp, b8⟩

end Go.Proofs.YtfphjokijanahaaDoor
