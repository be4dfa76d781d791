import Derived.Test.YtpbocficffbcbaaSorted
import Derived.Test.YtpbocficffbcbaaList3
namespace Go.Proofs.Ytpbocficffbcbaa
open Go Go.RowKit
set_option linter.unusedVariables false

/-- Behind list.Deal. -/
def DealTo (w : World) (zs os : List Int) (e : Ending) (w' : World) : Prop :=
  Below w.heap.size w w' ∧ ((srt os = rng zs.length ∧ ∃ a' c', e = .returned (.tuple #[.slice a' os.length c', .nilIface]) ∧ RowAt w' 3 1 a' os.length c' ((dealOut zs os).map (.int .i64))) ∨
    (srt os ≠ rng zs.length ∧ e = .returned (.tuple #[.slice none 0 0, errV 32 2])))
def RefDealTo (w : World) (zs os : List Int) (e : Ending) (w' : World) : Prop :=
  Below w.heap.size w w' ∧ ((srt os = rng zs.length ∧ ∃ a' c', e = .returned (.tuple #[.slice a' os.length c', .bool true]) ∧ RowAt w' 3 1 a' os.length c' ((dealOut zs os).map (.int .i64))) ∨
    (srt os ≠ rng zs.length ∧ e = .returned (.tuple #[.slice none 0 0, .bool false])))
theorem dealOut_len (zs os : List Int) : (dealOut zs os).length = os.length := by simp [dealOut]
theorem dealOut_take (zs os : List Int) (k : Nat) (hk : k < os.length) : (dealOut zs os).take (k + 1) = (dealOut zs os).take k ++ [zs.getD (os.getD k 0).toNat 0] := by
  rw [List.take_succ_eq_append_getElem (by rw [dealOut_len]; exact hk)]
  simp [dealOut, hk]

set_option maxRecDepth 100000 in
set_option maxHeartbeats 3200000 in
theorem deal (w : World) (a b : Option Addr) (n m ca cb : Nat) (zs os : List Int) (ha : SlAt w 1 a n ca (zs.map (.int .i64))) (hb : SlAt w 1 b m cb (os.map (.int .i64))) (hn : n < 1000) (hm : m < 1000) :
    Calls Try.prog 77 #[.slice a n ca, .slice b m cb] w (DealTo w zs os) := by
  have hzl : zs.length = n := by simpa using ha.len
  have hol : os.length = m := by simpa using hb.len
  have hle1 := ha.le
  have hmx1 := ha.max
  have hle2 := hb.le
  have hmx2 := hb.max
  unfold maxLen at hmx1 hmx2
  have Hzl := Lib.hid hzl
  have Hol := Lib.hid hol
  have hB1 := (Below.refl _ w).alloc (Nat.le_refl _) (.cells #[.slice b m cb] 22)
  have o1 := alloc_new w (.cells #[.slice b m cb] 22)
  have HB1 := Lib.hid hB1
  have O1 := Lib.hid o1
  have h1z : (w.alloc (.cells #[.slice b m cb] 22)).heap.size = w.heap.size + 1 := by simp
  have H1z := Lib.hid h1z
  have HA1 := Lib.hid (ha.alloc (.cells #[.slice b m cb] 22))
  have HO1 := Lib.hid (hb.alloc (.cells #[.slice b m cb] 22))
  clear hzl hol hB1 o1 h1z ha hb
  go_enter Try.func77, Try.ntmps77
  go_wp2_with fail
  refine ((callsIn_wide (n := 1)).1 (values_in Fence.wide 1 trivial rfl _ _ _ _)).mono ?_
  rintro e w' ⟨rfl, rfl⟩
  go_wp2_with fail
  generalize (w.alloc (.cells #[.slice b m cb] 22)) = w1 at *
  refine (sortedV _ w.heap.size (by have := H1z.out; omega) _ _ _ os (obj_cell O1.out 0) HO1.out (by omega)).mono ?_
  rintro e w2 ⟨a2, c2, rfl, hr, hf, hb2⟩
  have B2 := Lib.hid (HB1.out.trans (hb2.mono HB1.out.size))
  have HA2 := Lib.hid (HA1.out.all hb2)
  have HO2 := Lib.hid (HO1.out.all hb2)
  have HR := Lib.hid hr.sl
  obtain ⟨s, hs⟩ : ∃ s, s = srt os := ⟨_, rfl⟩
  rw [← hs] at HR
  have hsl : s.length = m := by rw [hs, srt_len]; exact Hol.out
  have Hs := Lib.hid hs
  have Hsl := Lib.hid hsl
  have hr2 := hr.le
  have hr3 := hr.max
  unfold maxLen at hr3
  clear hr hf hb2 hs hsl
  go_wp2_with fail
  go_loopw [17] (fun i wr => ∃ k : Nat, k ≤ m ∧ i = .int .i64 k ∧ w2 = wr ∧ ∀ j, j < k → s[j]? = some (j : Int)) (fun i _ => m - (intOf i).toNat)
  case atStart => exact ⟨0, Nat.zero_le _, rfl, rfl, fun j hj => absurd hj (Nat.not_lt_zero _)⟩
  case round =>
    obtain ⟨k, hk, rfl, rfl, hok⟩ := hrel
    have Hok := Lib.hid hok
    clear hok
    by_cases hlt : k < m
    · obtain ⟨b1, o1, rfl, hb1, hc⟩ := HR.out.nonempty (by omega)
      have hx := hc k _ (map_int_cell (by have := Hsl.out; omega))
      obtain ⟨x, hxe⟩ : ∃ x, x = s.getD k 0 := ⟨_, rfl⟩
      rw [← hxe] at hx
      have hsx : s[k]? = some x := by rw [hxe]; have := Hsl.out; simp [show k < s.length by omega]
      have Hsx := Lib.hid hsx
      clear hc hxe hsx
      by_cases hxk : x = (k : Int)
      · have hxb : (x != (k : Int)) = false := by simp [hxk]
        have Hk2 := Lib.hid (fun j hj => (by
          by_cases hjk : j = k
          · rw [hjk, Hsx.out, hxk]
          · exact Hok.out j (by omega)) : ∀ j, j < k + 1 → s[j]? = some (j : Int))
        clear hxk
        go_wp2_with fail
        go_roundw
        case rel => exact ⟨k + 1, by omega, by go_num, by trivial, Hk2.out⟩
        case measure => simp [intOf]; omega
      · have hxb : (x != (k : Int)) = true := by simp [hxk]
        have Hne := Lib.hid (show srt os ≠ rng zs.length from fun he => by
          have h1 := Hsx.out
          rw [Hs.out, he] at h1
          by_cases hkn : k < zs.length
          · rw [rng_get _ _ hkn] at h1
            exact hxk (Option.some.inj h1).symm
          · rw [List.getElem?_eq_none (by rw [rng_len]; omega)] at h1
            cases h1)
        clear hxk
        go_wp2_with fail
        go_ret2
        exact ⟨B2.out, .inr ⟨Hne.out, rfl⟩⟩
    · obtain rfl : k = m := by omega
      have hsr : s = rng s.length := rng_of_get (fun i x hi => by
        have hil := (List.getElem?_eq_some_iff.1 hi).1
        have := Hok.out i (by have := Hsl.out; omega)
        rw [this] at hi
        exact (Option.some.inj hi).symm)
      by_cases hkn : k = n
      · subst hkn
        have hkb : ((k : Int) != (k : Int)) = false := by simp
        have Hok2 := Lib.hid (show srt os = rng zs.length by rw [← Hs.out, hsr, Hsl.out, Hzl.out])
        have Hst := Lib.hid (⟨rfl, rfl, RowAt.null _ _ _, (fun ad he => by cases he), Below.refl _ _⟩ : Gr w2 w2 (.slice none 0 0) 0 ((dealOut zs os).take 0) none 0)
        have h2z := B2.out.size
        clear hsr
        go_wp2_with fail
        go_loopw [9, 35] (fun v i wr => ∃ j : Nat, j ≤ k ∧ i = .int .i64 j ∧ ∃ a' c', Gr w2 wr v j ((dealOut zs os).take j) a' c') (fun _ i _ => k - (intOf i).toNat)
        case atStart => exact ⟨0, Nat.zero_le _, rfl, _, _, Hst.out⟩
        case round =>
          obtain ⟨j, hj, rfl, a4, c4, hg⟩ := hrel
          have HG := Lib.hid hg
          obtain rfl := hg.m
          clear hg
          by_cases hjk : j < k
          · obtain ⟨b5, o5, rfl, hb5, hc5⟩ := (HO2.out.all HG.out.bel).nonempty (by omega)
            obtain ⟨b6, o6, rfl, hb6, hc6⟩ := (HA2.out.all HG.out.bel).nonempty (by omega)
            have hjo : j < os.length := by have := Hol.out; omega
            have hy := hc5 j _ (map_int_cell hjo)
            have hin := deal_in Hok2.out (os.getD j 0) (by simp [hjo])
            have htk := dealOut_take zs os j hjo
            obtain ⟨y, hye⟩ : ∃ y, y = os.getD j 0 := ⟨_, rfl⟩
            rw [← hye] at hy hin htk
            obtain ⟨q, rfl⟩ : ∃ q : Nat, y = (q : Int) := ⟨y.toNat, by omega⟩
            have hqn : q < k := by have := hin.2; have := Hzl.out; omega
            have hz := hc6 q _ (map_int_cell (by have := Hzl.out; omega))
            rw [Int.toNat_natCast] at htk
            obtain ⟨z, hze⟩ : ∃ z, z = zs.getD q 0 := ⟨_, rfl⟩
            rw [← hze] at hz htk
            have Htk := Lib.hid htk
            have hlit := (RowAt.lit wr #[.int .i64 z] 3 1 1 (by decide) rfl (by simp [Value.oneCell'])).sl
            have Hlit := Lib.hid hlit
            have hq0 : (0 : Int) ≤ (q : Int) := by omega
            have hq1 : (q : Int) < (k : Int) := by omega
            clear hc5 hc6 hin htk hye hze hlit hjo
            go_wp2_with (at_builtin; refine wp_append rfl (.tmp 39) (.tmp 44) 22 rfl 3 (.int .i64 0) 1 8 Try.underlying22 Try.infoInt rfl (by decide) rfl rfl (HG.out.row.alloc _) Hlit.out (by unfold maxLen; omega) (by omega) ?_; intro a3 c3 W3 hrow3 hupd3 hloc3 hnil3; have g3 := HG.out.snoc hupd3 hloc3 hrow3; clear hrow3 hupd3 hloc3 hnil3)
            go_roundw
            case rel => exact ⟨j + 1, by omega, by go_num, _, _, by rw [Htk.out]; exact g3⟩
            case measure => simp [intOf]; omega
          · obtain rfl : j = k := by omega
            have hfin : (dealOut zs os).take j = dealOut zs os := List.take_of_length_le (by rw [dealOut_len]; have := Hol.out; omega)
            have Hfin := Lib.hid hfin
            clear hfin
            go_wp2_with fail
            go_ret2
            refine ⟨B2.out.trans (HG.out.bel.mono h2z), .inl ⟨Hok2.out, a4, c4, by rw [Hol.out]; rfl, ?_⟩⟩
            have h1 := HG.out.row
            rw [Hfin.out] at h1
            rw [Hol.out]
            exact h1
      · have hkb : ((k : Int) != (n : Int)) = true := by simp; omega
        have Hne := Lib.hid (show srt os ≠ rng zs.length from fun he => by
          have h1 := congrArg List.length he
          rw [← Hs.out, Hsl.out, rng_len, Hzl.out] at h1
          exact hkn h1)
        clear hsr hkn
        go_wp2_with fail
        go_ret2
        exact ⟨B2.out, .inr ⟨Hne.out, rfl⟩⟩

theorem idx_neg (zs : List Int) (x : Int) : (x ∈ zs ∧ 0 ≤ idx zs x) ∨ (x ∉ zs ∧ idx zs x = -1) := by
  by_cases h : x ∈ zs
  · refine .inl ⟨h, ?_⟩
    cases hf : zs.findIdx? (fun y => decide (y = x)) with
    | none =>
      rw [List.findIdx?_eq_none_iff] at hf
      have := hf x h
      simp at this
    | some k =>
      rw [List.findIdx?_eq_some_iff_getElem] at hf
      obtain ⟨hk, he, hno⟩ := hf
      have h1 := idx_hit zs k hk x (by simp [hk]; simpa using he) (fun j hj => by have := hno j hj; simp [show j < zs.length by omega]; simpa using this)
      rw [h1]
      omega
  · refine .inr ⟨h, idx_miss zs x (fun j hj he => h ?_)⟩
    have : zs.getD j 0 = zs[j] := by simp [hj]
    rw [this] at he
    exact he ▸ List.getElem_mem hj

set_option maxRecDepth 100000 in
set_option maxHeartbeats 3200000 in
theorem refDeal (w : World) (a b : Option Addr) (n m ca cb : Nat) (zs os : List Int) (ha : SlAt w 1 a n ca (zs.map (.int .i64))) (hb : SlAt w 1 b m cb (os.map (.int .i64))) (hn : n < 1000) (hm : m < 1000) :
    Calls Try.prog 78 #[.slice a n ca, .slice b m cb] w (RefDealTo w zs os) := by
  have hzl : zs.length = n := by simpa using ha.len
  have hol : os.length = m := by simpa using hb.len
  have hle1 := ha.le
  have hmx1 := ha.max
  have hle2 := hb.le
  have hmx2 := hb.max
  unfold maxLen at hmx1 hmx2
  have Hzl := Lib.hid hzl
  have Hol := Lib.hid hol
  have HA := Lib.hid ha
  have HO := Lib.hid hb
  have Hiff := Lib.hid (deal_iff os zs.length)
  clear hzl hol ha hb
  by_cases hnm : n = m
  · subst hnm
    have hnb : ((n : Int) != (n : Int)) = false := by simp
    have hba := (Below.refl _ w).alloc (Nat.le_refl _) (.cells #[] 3)
    have HBA := Lib.hid hba
    have Hst := Lib.hid (⟨rfl, rfl, RowAt.lit w #[] 3 1 0 (Nat.zero_le _) rfl (by simp), fresh_new (Nat.le_refl _), hba⟩ : Gr w (w.alloc (.cells #[] 3)) (.slice (some ⟨w.heap.size, 0, none⟩) 0 0) 0 ((dealOut zs os).take 0) (some ⟨w.heap.size, 0, none⟩) 0)
    clear hba
    go_enter Try.func78, Try.ntmps78
    go_wp2_with fail
    generalize hw1 : (w.alloc (.cells #[] 3)) = w1 at *
    have HA1 := Lib.hid (HA.out.all HBA.out)
    have HO1 := Lib.hid (HO.out.all HBA.out)
    go_loopw [7] (fun i wr => ∃ k : Nat, k ≤ n ∧ i = .int .i64 k ∧ w1 = wr ∧ ∀ j, j < k → (j : Int) ∈ os) (fun i _ => n - (intOf i).toNat)
    case atStart => exact ⟨0, Nat.zero_le _, rfl, by trivial, fun j hj => absurd hj (Nat.not_lt_zero _)⟩
    case round =>
      obtain ⟨k, hk, rfl, rfl, hok⟩ := hrel
      have Hok := Lib.hid hok
      clear hok
      by_cases hlt : k < n
      · go_wp2_with fail
        refine (refIndex _ _ _ _ os HO1.out k).mono ?_
        rintro e w' ⟨rfl, rfl⟩
        rcases idx_neg os k with ⟨hin, h0⟩ | ⟨hin, h0⟩
        · have Hk2 := Lib.hid (fun j hj => (by
            by_cases hjk : j = k
            · rw [hjk]; exact hin
            · exact Hok.out j (by omega)) : ∀ j, j < k + 1 → (j : Int) ∈ os)
          have hnn : decide (idx os (k : Int) < 0) = false := by simp; omega
          obtain ⟨ii, hii⟩ : ∃ ii, ii = idx os (k : Int) := ⟨_, rfl⟩
          rw [← hii] at hnn h0 ⊢
          clear hin hii
          go_wp2_with fail
          go_roundw
          case rel => exact ⟨k + 1, by omega, by go_num, by trivial, Hk2.out⟩
          case measure => simp [intOf]; omega
        · rw [h0]
          have Hne := Lib.hid (show srt os ≠ rng zs.length from fun he => hin ((Hiff.out.1 he).2 k (by rw [Hzl.out]; exact hlt)))
          clear hin h0
          go_wp2_with fail
          go_ret2
          exact ⟨HBA.out, .inr ⟨Hne.out, rfl⟩⟩
      · obtain rfl : k = n := by omega
        have Hok2 := Lib.hid (Hiff.out.2 ⟨by rw [Hol.out, Hzl.out], fun j hj => Hok.out j (by rw [Hzl.out] at hj; exact hj)⟩)
        go_wp2_with fail
        go_loopw [6, 8] (fun v i wr => ∃ j : Nat, j ≤ k ∧ i = .int .i64 j ∧ ∃ a' c', Gr w wr v j ((dealOut zs os).take j) a' c') (fun _ i _ => k - (intOf i).toNat)
        case atStart => exact ⟨0, Nat.zero_le _, rfl, _, _, Hst.out⟩
        case round =>
          obtain ⟨j, hj, rfl, a4, c4, hg⟩ := hrel
          have HG := Lib.hid hg
          obtain rfl := hg.m
          clear hg
          by_cases hjk : j < k
          · obtain ⟨b5, o5, rfl, hb5, hc5⟩ := (HO.out.all HG.out.bel).nonempty (by omega)
            obtain ⟨b6, o6, rfl, hb6, hc6⟩ := (HA.out.all HG.out.bel).nonempty (by omega)
            have hjo : j < os.length := by have := Hol.out; omega
            have hy := hc5 j _ (map_int_cell hjo)
            have hin := deal_in Hok2.out (os.getD j 0) (by simp [hjo])
            have htk := dealOut_take zs os j hjo
            obtain ⟨y, hye⟩ : ∃ y, y = os.getD j 0 := ⟨_, rfl⟩
            rw [← hye] at hy hin htk
            obtain ⟨q, rfl⟩ : ∃ q : Nat, y = (q : Int) := ⟨y.toNat, by omega⟩
            have hqn : q < k := by have := hin.2; have := Hzl.out; omega
            have hz := hc6 q _ (map_int_cell (by have := Hzl.out; omega))
            rw [Int.toNat_natCast] at htk
            obtain ⟨z, hze⟩ : ∃ z, z = zs.getD q 0 := ⟨_, rfl⟩
            rw [← hze] at hz htk
            have Htk := Lib.hid htk
            have hlit := (RowAt.lit wr #[.int .i64 z] 3 1 1 (by decide) rfl (by simp [Value.oneCell'])).sl
            have Hlit := Lib.hid hlit
            have hq0 : (0 : Int) ≤ (q : Int) := by omega
            have hq1 : (q : Int) < (k : Int) := by omega
            clear hc5 hc6 hin htk hye hze hlit hjo
            go_wp2_with (at_builtin; refine wp_append rfl (.tmp 31) (.tmp 39) 22 rfl 3 (.int .i64 0) 1 8 Try.underlying22 Try.infoInt rfl (by decide) rfl rfl (HG.out.row.alloc _) Hlit.out (by unfold maxLen; omega) (by omega) ?_; intro a3 c3 W3 hrow3 hupd3 hloc3 hnil3; have g3 := HG.out.snoc hupd3 hloc3 hrow3; clear hrow3 hupd3 hloc3 hnil3)
            go_roundw
            case rel => exact ⟨j + 1, by omega, by go_num, _, _, by rw [Htk.out]; exact g3⟩
            case measure => simp [intOf]; omega
          · obtain rfl : j = k := by omega
            have hfin : (dealOut zs os).take j = dealOut zs os := List.take_of_length_le (by rw [dealOut_len]; have := Hol.out; omega)
            have Hfin := Lib.hid hfin
            clear hfin
            go_wp2_with fail
            go_ret2
            refine ⟨HG.out.bel, .inl ⟨Hok2.out, a4, c4, by rw [Hol.out]; rfl, ?_⟩⟩
            have h1 := HG.out.row
            rw [Hfin.out] at h1
            rw [Hol.out]
            exact h1
  · have hnb : ((n : Int) != (m : Int)) = true := by simp; omega
    have Hne := Lib.hid (show srt os ≠ rng zs.length from fun he => by
      have h1 := (Hiff.out.1 he).1
      rw [Hol.out, Hzl.out] at h1
      exact hnm h1.symm)
    clear hnm
    go_enter Try.func78, Try.ntmps78
    go_wp2_with fail
    go_ret2
    exact ⟨Below.refl _ _, .inr ⟨Hne.out, rfl⟩⟩
end Go.Proofs.Ytpbocficffbcbaa
