import Derived.Test.YtfphjokijanahaaDoorLedger8
namespace Go.Proofs.YtfphjokijanahaaDoor
open Go Go.RowKit
set_option linter.unusedVariables false

theorem Tryd.infoEntryR : (Tryd.prog.info? 46).map (fun i => (i.zero, i.size, i.bytes)) = some (some (.agg #[.int .i64 0, .int .i64 0, .int .i64 0, .int .i64 0]), 4, 32) := by kernel_rfl

/-- The document's entries behind a call. -/
def Ref33 (w : World) (a : Option Addr) (es' : List Ent) (err : Int) (e : Ending) (w' : World) : Prop :=
  ∃ a' c', e = .returned (.tuple #[.slice a' es'.length c', .int .i64 err]) ∧ RowAt w' 46 4 a' es'.length c' (es'.flatMap entC) ∧ Below w.heap.size w w' ∧ (a' = a ∨ Fresh w.heap.size a')

set_option maxRecDepth 100000 in
set_option maxHeartbeats 800000 in
theorem refAddBad (w : World) (a : Option Addr) (cap : Nat) (es : List Ent) (p k t : Int) (h : RowAt w 46 4 a es.length cap (es.flatMap entC)) (he : addErr es p k t ≠ 0) :
    Calls Tryd.prog 15 #[.slice a es.length cap, .int .i64 p, .int .i64 k, .int .i64 t] w (Ref33 w a es (addErr es p k t)) := by
  have fin : ∀ e w', (e = .returned (.tuple #[.slice a es.length cap, .int .i64 (addErr es p k t)]) ∧ w = w') → Ref33 w a es (addErr es p k t) e w' := by
    rintro e w' ⟨rfl, rfl⟩
    exact ⟨a, cap, rfl, h, Below.refl _ _, .inl rfl⟩
  refine Calls.mono ?_ fin
  by_cases h1 : (p ≠ 0 ∧ p ≠ 1) ∨ t < 0
  · rw [show addErr es p k t = 1 from if_pos h1]
    clear he fin
    by_cases hp : p ≠ 0 ∧ p ≠ 1
    · have q0 : (p != 0) = true := by simp [hp.1]
      have q1 : (p != 1) = true := by simp [hp.2]
      clear h1 hp
      go_enter Tryd.func15, Tryd.ntmps15
      go_wp2_with fail
      go_ret2
      exact ⟨rfl, rfl⟩
    · have ht : t < 0 := by omega
      have hp' : p = 0 ∨ p = 1 := by omega
      clear h1 hp
      rcases hp' with rfl | rfl
      all_goals
        go_enter Tryd.func15, Tryd.ntmps15
        go_wp2_with fail
        go_ret2
        exact ⟨rfl, rfl⟩
  · have ht : 0 ≤ t := by omega
    have hp' : p = 0 ∨ p = 1 := by omega
    by_cases h2 : k < 0 ∨ 6 ≤ k
    · rw [show addErr es p k t = 6 by unfold addErr; rw [if_neg h1, if_pos h2]]
      clear h1 he fin
      have h2' : k < 0 ∨ (0 ≤ k ∧ 5 < k) := by omega
      clear h2
      rcases hp' with rfl | rfl <;> rcases h2' with hk | ⟨hk, hk5⟩
      all_goals
        go_enter Tryd.func15, Tryd.ntmps15
        go_wp2_with fail
        go_ret2
        exact ⟨rfl, rfl⟩
    · have h3 : 1000 ≤ es.length := by
        apply Decidable.byContradiction
        intro h3
        exact he (by unfold addErr; rw [if_neg h1, if_neg h2, if_neg h3])
      rw [show addErr es p k t = 5 by unfold addErr; rw [if_neg h1, if_neg h2, if_pos h3]]
      have hk0 : 0 ≤ k := by omega
      have hk5 : k ≤ 5 := by omega
      clear h1 h2 he fin
      rcases hp' with rfl | rfl
      all_goals
        go_enter Tryd.func15, Tryd.ntmps15
        go_wp2_with fail
        go_ret2
        exact ⟨rfl, rfl⟩

theorem Ref33.fin {w wr W5 W6 : World} {a a1 a2 : Option Addr} {c2 : Nat} {es : List Ent} {x : Ent} {o1 o2 : Obj} (b0 : Below w.heap.size w wr)
    (hupd1 : Upd (blk (some ⟨wr.heap.size, 0, none⟩)) (wr.alloc o1) W5) (hloc1 : ∀ ad, a1 = some ad → some ⟨wr.heap.size, 0, none⟩ = some ad ∨ (wr.alloc o1).heap.size ≤ ad.block)
    (hupd2 : Upd (blk a1) (W5.alloc o2) W6) (hloc2 : ∀ ad, a2 = some ad → a1 = some ad ∨ (W5.alloc o2).heap.size ≤ ad.block)
    (hrow2 : RowAt W6 46 4 a2 (es.length + 1) c2 (es.flatMap entC ++ entC x)) :
    Ref33 w a (es ++ [x]) 0 (.returned (.tuple #[.slice a2 (es.length + 1) c2, .int .i64 0])) W6 := by
  have hs := b0.size
  have h1 := hupd1.size
  have h2 := hupd2.size
  simp at h1 h2
  have f1 : ∀ ad, a1 = some ad → wr.heap.size ≤ ad.block := fun ad he => by
    rcases hloc1 ad he with h | h
    · obtain rfl := Option.some.inj h
      exact Nat.le_refl _
    · simp at h; omega
  refine ⟨a2, c2, by simp, by simpa using hrow2, ?_, .inr fun ad he => ?_⟩
  · have k1 := b0.alloc hs o1
    have k2 := k1.trans (hupd1.below (by simp; omega) (fun k hk => by rintro ⟨ad, he, rfl⟩; obtain rfl := Option.some.inj he; simp at hk; omega))
    have k3 := k2.alloc (by omega) o2
    exact k3.trans (hupd2.below (by simp; omega) (fun k hk => by rintro ⟨ad, he, rfl⟩; have := f1 ad he; omega))
  · rcases hloc2 ad he with h | h
    · have := f1 ad h; omega
    · simp at h; omega
theorem lv6_get {k : Int} (hk0 : 0 ≤ k) (hk6 : k < 6) : (#[Value.int .i64 0, .int .i64 0, .int .i64 1, .int .i64 1, .int .i64 2, .int .i64 3])[k.toNat]? = some (.int .i64 (base k)) := by
  have hc : k = 0 ∨ k = 1 ∨ k = 2 ∨ k = 3 ∨ k = 4 ∨ k = 5 := by omega
  rcases hc with rfl | rfl | rfl | rfl | rfl | rfl <;> rfl

set_option maxRecDepth 100000 in
set_option maxHeartbeats 1600000 in
theorem refAddOk (w : World) (a : Option Addr) (cap : Nat) (es : List Ent) (p k t : Int) (h : RowAt w 46 4 a es.length cap (es.flatMap entC)) (hp : p = 0 ∨ p = 1) (ht : 0 ≤ t) (hk0 : 0 ≤ k) (hk6 : k < 6) (hlen : es.length < 1000) :
    Calls Tryd.prog 15 #[.slice a es.length cap, .int .i64 p, .int .i64 k, .int .i64 t] w (Ref33 w a (es ++ [⟨p, k, t, addLev es p k⟩]) 0) := by
  have hk5 : k ≤ 5 := by omega
  have hlv := (obj_cell (alloc_new w (.cells #[.int .i64 0, .int .i64 0, .int .i64 1, .int .i64 1, .int .i64 2, .int .i64 3] 3)) k.toNat).trans (lv6_get hk0 hk6)
  have hh := (h.alloc (.cells #[.int .i64 0, .int .i64 0, .int .i64 1, .int .i64 1, .int .i64 2, .int .i64 3] 3))
  have hbb : 0 ≤ base k ∧ base k ≤ 3 := by
    unfold base
    repeat' split
    all_goals omega
  have hcnt := fun n => cntk_bd (es.take n) p k
  have c0 := (Below.refl w.heap.size w).alloc (Nat.le_refl _) (.cells #[.int .i64 0, .int .i64 0, .int .i64 1, .int .i64 1, .int .i64 2, .int .i64 3] 3)
  have hq : (p != 0) = false ∨ ((p != 0) = true ∧ (p != 1) = false) := by
    rcases hp with rfl | rfl
    · exact .inl rfl
    · exact .inr ⟨rfl, rfl⟩
  clear hp
  rcases hq with q0 | ⟨q0, q1⟩
  all_goals
    go_enter Tryd.func15, Tryd.ntmps15
    go_wp2_with fail
    generalize hW : w.alloc (.cells #[.int .i64 0, .int .i64 0, .int .i64 1, .int .i64 1, .int .i64 2, .int .i64 3] 3) = W at *
    have hsz : w.heap.size ≤ W.heap.size := c0.size
    go_loopw [11, 12, 43] (fun c l i wr => ∃ n : Nat, n ≤ es.length ∧ i = .int .i64 n ∧ c = .int .i64 (cntk (es.take n) p k + 1) ∧ l = .bool (decide (2 ≤ worst (es.take n) p)) ∧ Below W.heap.size W wr) (fun _ _ i _ => es.length - (intOf i).toNat)
    case atStart => exact ⟨0, by omega, rfl, rfl, rfl, Below.refl _ _⟩
    case round =>
      obtain ⟨n, hn, rfl, rfl, rfl, hbel⟩ := hrel
      by_cases hlt : n < es.length
      · obtain ⟨b, off, x, rfl, hx, hb, c0, c1, c2, c3⟩ := ent_at (hh.sl.all hbel) hlt
        have e1 := cntk_snoc (es.take n) x p k
        have e2 := worst_snoc (es.take n) x p
        rw [← take_at hx] at e1 e2
        have hbd := hcnt n
        have hln : (es.take n).length ≤ n := List.length_take_le _ _
        by_cases h1 : x.p = p
        · have q3 : (x.p == p) = true := by simp [h1]
          rw [if_pos h1] at e2
          by_cases h2 : x.k = k
          · have q4 : (x.k == k) = true := by simp [h2]
            rw [if_pos ⟨h1.symm, h2.symm⟩] at e1
            by_cases h3 : 2 ≤ x.l
            · have H1 := Lib.hid e1
              have H2 := Lib.hid (show decide (2 ≤ worst (es.take (n + 1)) p) = true by rw [e2]; simp; omega)
              clear e1 e2 hx h1 h2
              go_wp2_with fail
              go_roundw
              case rel => exact ⟨n + 1, by omega, by go_num, by rw [H1.out], by rw [H2.out], hbel.alloc hbel.size _⟩
              case measure => simp [intOf]; omega
            · have H1 := Lib.hid e1
              have H2 := Lib.hid (show decide (2 ≤ worst (es.take (n + 1)) p) = decide (2 ≤ worst (es.take n) p) by rw [e2, Bool.eq_iff_iff]; simp; omega)
              clear e1 e2 hx h1 h2
              go_wp2_with fail
              go_roundw
              case rel => exact ⟨n + 1, by omega, by go_num, by rw [H1.out], by rw [H2.out], hbel.alloc hbel.size _⟩
              case measure => simp [intOf]; omega
          · have q4 : (x.k == k) = false := by simp [h2]
            rw [if_neg (fun e => h2 e.2.symm)] at e1
            by_cases h3 : 2 ≤ x.l
            · have H1 := Lib.hid e1
              have H2 := Lib.hid (show decide (2 ≤ worst (es.take (n + 1)) p) = true by rw [e2]; simp; omega)
              clear e1 e2 hx h1 h2
              go_wp2_with fail
              go_roundw
              case rel => exact ⟨n + 1, by omega, by go_num, by rw [H1.out]; simp, by rw [H2.out], hbel.alloc hbel.size _⟩
              case measure => simp [intOf]; omega
            · have H1 := Lib.hid e1
              have H2 := Lib.hid (show decide (2 ≤ worst (es.take (n + 1)) p) = decide (2 ≤ worst (es.take n) p) by rw [e2, Bool.eq_iff_iff]; simp; omega)
              clear e1 e2 hx h1 h2
              go_wp2_with fail
              go_roundw
              case rel => exact ⟨n + 1, by omega, by go_num, by rw [H1.out]; simp, by rw [H2.out], hbel.alloc hbel.size _⟩
              case measure => simp [intOf]; omega
        · have q3 : (x.p == p) = false := by simp [h1]
          rw [if_neg h1] at e2
          rw [if_neg (fun e => h1 e.1.symm)] at e1
          have H1 := Lib.hid e1
          have H2 := Lib.hid e2
          clear e1 e2 hx h1
          go_wp2_with fail
          go_roundw
          case rel => exact ⟨n + 1, by omega, by go_num, by rw [H1.out]; simp, by rw [H2.out], hbel.alloc hbel.size _⟩
          case measure => simp [intOf]; omega
      · obtain rfl : n = es.length := by omega
        rw [List.take_length]
        have hbd := hcnt es.length
        rw [List.take_length] at hbd
        have hr := hh.all hbel
        have hg := hbel.size
        have b0 : Below w.heap.size w wr := c0.trans (hbel.mono hsz)
        have hcb : cntk es p k + 1 ≤ 1000 := by omega
        have hc0 : 0 ≤ cntk es p k + 1 := by omega
        clear hcnt hlv hW
        have key : True := trivial
        by_cases hK : k = 2 ∨ k = 3
        · have hb1 : base k = 1 := by unfold base; rw [if_pos hK]
          have hL : ∀ v : Int, (if (cntk es p k + 1) % 3 = 0 then (if 2 ≤ worst es p then 3 else 2) else 1) = v → RowKit.Hid (addLev es p k = v) := fun v e => Lib.hid (by
            rw [← e]
            unfold addLev levOf
            rw [hb1]
            by_cases hc : (cntk es p k + 1) % 3 = 0 <;> by_cases hw : 2 ≤ worst es p <;> simp [hK, hc, hw])
          rw [hb1]
          have qk : (k == 2) = true ∨ ((k == 2) = false ∧ (k == 3) = true) := by
            rcases hK with rfl | rfl
            · exact .inl rfl
            · exact .inr ⟨rfl, rfl⟩
          clear hK hb1 hbb
          by_cases hc : (cntk es p k + 1) % 3 = 0
          · have qc : ((cntk es p k + 1) % 3 == 0) = true := by simp [hc]
            rw [if_pos hc] at hL
            clear hc
            by_cases hw : 2 ≤ worst es p
            · have ql : decide (2 ≤ worst es p) = true := by simp [hw]
              rw [if_pos hw] at hL
              have HL := hL 3 rfl
              clear hL hw key
              rcases qk with qk | ⟨qk, qk3⟩
              all_goals
                go_wp2_with (first
                  | (at_builtin; refine wp_append rfl (.tmp 85) (.tmp 86) 42 rfl 46 (.agg #[.int .i64 0, .int .i64 0, .int .i64 0, .int .i64 0]) 4 32 Tryd.underlying42 Tryd.infoEntryR rfl (by decide) rfl rfl (RowAt.lit wr #[] _ 4 0 (Nat.zero_le _) rfl (by simp)) (hr.sl.alloc _) (by unfold maxLen; omega) (by omega) ?_; intro a1 c1 W5 hrow1 hupd1 hloc1 hnil1; simp only [Nat.zero_add, List.nil_append] at hrow1)
                  | (at_builtin; refine wp_append rfl (.tmp 87) (.tmp 93) 42 rfl 46 (.agg #[.int .i64 0, .int .i64 0, .int .i64 0, .int .i64 0]) 4 32 Tryd.underlying42 Tryd.infoEntryR rfl (by decide) rfl rfl (hrow1.alloc _) (SlAt.lit' W5 #[.int .i64 p, .int .i64 k, .int .i64 t, .int .i64 3] 46 4 1 W5.heap.size rfl (by decide) rfl (by simp [Value.oneCell'])) (by unfold maxLen; omega) (by omega) ?_; intro a2 c2 W6 hrow2 hupd2 hloc2 hnil2))
                go_ret2
                rw [HL.out]
                exact Ref33.fin b0 hupd1 hloc1 hupd2 hloc2 hrow2
            · have ql : decide (2 ≤ worst es p) = false := by simp [hw]
              rw [if_neg hw] at hL
              have HL := hL 2 rfl
              clear hL hw key
              rcases qk with qk | ⟨qk, qk3⟩
              all_goals
                go_wp2_with (first
                  | (at_builtin; refine wp_append rfl (.tmp 85) (.tmp 86) 42 rfl 46 (.agg #[.int .i64 0, .int .i64 0, .int .i64 0, .int .i64 0]) 4 32 Tryd.underlying42 Tryd.infoEntryR rfl (by decide) rfl rfl (RowAt.lit wr #[] _ 4 0 (Nat.zero_le _) rfl (by simp)) (hr.sl.alloc _) (by unfold maxLen; omega) (by omega) ?_; intro a1 c1 W5 hrow1 hupd1 hloc1 hnil1; simp only [Nat.zero_add, List.nil_append] at hrow1)
                  | (at_builtin; refine wp_append rfl (.tmp 87) (.tmp 93) 42 rfl 46 (.agg #[.int .i64 0, .int .i64 0, .int .i64 0, .int .i64 0]) 4 32 Tryd.underlying42 Tryd.infoEntryR rfl (by decide) rfl rfl (hrow1.alloc _) (SlAt.lit' W5 #[.int .i64 p, .int .i64 k, .int .i64 t, .int .i64 2] 46 4 1 W5.heap.size rfl (by decide) rfl (by simp [Value.oneCell'])) (by unfold maxLen; omega) (by omega) ?_; intro a2 c2 W6 hrow2 hupd2 hloc2 hnil2))
                go_ret2
                rw [HL.out]
                exact Ref33.fin b0 hupd1 hloc1 hupd2 hloc2 hrow2
          · have qc : ((cntk es p k + 1) % 3 == 0) = false := by simp [hc]
            rw [if_neg hc] at hL
            have HL := hL 1 rfl
            clear hL hc key
            rcases qk with qk | ⟨qk, qk3⟩
            all_goals
              go_wp2_with (first
                | (at_builtin; refine wp_append rfl (.tmp 85) (.tmp 86) 42 rfl 46 (.agg #[.int .i64 0, .int .i64 0, .int .i64 0, .int .i64 0]) 4 32 Tryd.underlying42 Tryd.infoEntryR rfl (by decide) rfl rfl (RowAt.lit wr #[] _ 4 0 (Nat.zero_le _) rfl (by simp)) (hr.sl.alloc _) (by unfold maxLen; omega) (by omega) ?_; intro a1 c1 W5 hrow1 hupd1 hloc1 hnil1; simp only [Nat.zero_add, List.nil_append] at hrow1)
                | (at_builtin; refine wp_append rfl (.tmp 87) (.tmp 93) 42 rfl 46 (.agg #[.int .i64 0, .int .i64 0, .int .i64 0, .int .i64 0]) 4 32 Tryd.underlying42 Tryd.infoEntryR rfl (by decide) rfl rfl (hrow1.alloc _) (SlAt.lit' W5 #[.int .i64 p, .int .i64 k, .int .i64 t, .int .i64 1] 46 4 1 W5.heap.size rfl (by decide) rfl (by simp [Value.oneCell'])) (by unfold maxLen; omega) (by omega) ?_; intro a2 c2 W6 hrow2 hupd2 hloc2 hnil2))
              go_ret2
              rw [HL.out]
              exact Ref33.fin b0 hupd1 hloc1 hupd2 hloc2 hrow2
        · have qk2 : (k == 2) = false := by simp; omega
          have qk3 : (k == 3) = false := by simp; omega
          have hL : RowKit.Hid (addLev es p k = if base k = 2 ∧ 2 ≤ worst es p then 3 else base k) := Lib.hid (by
            unfold addLev levOf
            simp only [hK, false_and, if_false])
          clear hK key
          generalize base k = lv at *
          by_cases hb2 : lv = 2
          · subst hb2
            by_cases hw : 2 ≤ worst es p
            · have ql : decide (2 ≤ worst es p) = true := by simp [hw]
              have HL := Lib.hid (hL.out.trans (if_pos ⟨rfl, hw⟩))
              clear hL hw
              go_wp2_with (first
                | (at_builtin; refine wp_append rfl (.tmp 85) (.tmp 86) 42 rfl 46 (.agg #[.int .i64 0, .int .i64 0, .int .i64 0, .int .i64 0]) 4 32 Tryd.underlying42 Tryd.infoEntryR rfl (by decide) rfl rfl (RowAt.lit wr #[] _ 4 0 (Nat.zero_le _) rfl (by simp)) (hr.sl.alloc _) (by unfold maxLen; omega) (by omega) ?_; intro a1 c1 W5 hrow1 hupd1 hloc1 hnil1; simp only [Nat.zero_add, List.nil_append] at hrow1)
                | (at_builtin; refine wp_append rfl (.tmp 87) (.tmp 93) 42 rfl 46 (.agg #[.int .i64 0, .int .i64 0, .int .i64 0, .int .i64 0]) 4 32 Tryd.underlying42 Tryd.infoEntryR rfl (by decide) rfl rfl (hrow1.alloc _) (SlAt.lit' W5 #[.int .i64 p, .int .i64 k, .int .i64 t, .int .i64 3] 46 4 1 W5.heap.size rfl (by decide) rfl (by simp [Value.oneCell'])) (by unfold maxLen; omega) (by omega) ?_; intro a2 c2 W6 hrow2 hupd2 hloc2 hnil2))
              go_ret2
              rw [HL.out]
              exact Ref33.fin b0 hupd1 hloc1 hupd2 hloc2 hrow2
            · have ql : decide (2 ≤ worst es p) = false := by simp [hw]
              have HL := Lib.hid (hL.out.trans (if_neg (fun h => hw h.2)))
              clear hL hw
              go_wp2_with (first
                | (at_builtin; refine wp_append rfl (.tmp 85) (.tmp 86) 42 rfl 46 (.agg #[.int .i64 0, .int .i64 0, .int .i64 0, .int .i64 0]) 4 32 Tryd.underlying42 Tryd.infoEntryR rfl (by decide) rfl rfl (RowAt.lit wr #[] _ 4 0 (Nat.zero_le _) rfl (by simp)) (hr.sl.alloc _) (by unfold maxLen; omega) (by omega) ?_; intro a1 c1 W5 hrow1 hupd1 hloc1 hnil1; simp only [Nat.zero_add, List.nil_append] at hrow1)
                | (at_builtin; refine wp_append rfl (.tmp 87) (.tmp 93) 42 rfl 46 (.agg #[.int .i64 0, .int .i64 0, .int .i64 0, .int .i64 0]) 4 32 Tryd.underlying42 Tryd.infoEntryR rfl (by decide) rfl rfl (hrow1.alloc _) (SlAt.lit' W5 #[.int .i64 p, .int .i64 k, .int .i64 t, .int .i64 2] 46 4 1 W5.heap.size rfl (by decide) rfl (by simp [Value.oneCell'])) (by unfold maxLen; omega) (by omega) ?_; intro a2 c2 W6 hrow2 hupd2 hloc2 hnil2))
              go_ret2
              rw [HL.out]
              exact Ref33.fin b0 hupd1 hloc1 hupd2 hloc2 hrow2
          · have qb : (lv == 2) = false := by simp [hb2]
            have HL := Lib.hid (hL.out.trans (if_neg (fun h => hb2 h.1)))
            clear hL hb2
            go_wp2_with (first
              | (at_builtin; refine wp_append rfl (.tmp 85) (.tmp 86) 42 rfl 46 (.agg #[.int .i64 0, .int .i64 0, .int .i64 0, .int .i64 0]) 4 32 Tryd.underlying42 Tryd.infoEntryR rfl (by decide) rfl rfl (RowAt.lit wr #[] _ 4 0 (Nat.zero_le _) rfl (by simp)) (hr.sl.alloc _) (by unfold maxLen; omega) (by omega) ?_; intro a1 c1 W5 hrow1 hupd1 hloc1 hnil1; simp only [Nat.zero_add, List.nil_append] at hrow1)
              | (at_builtin; refine wp_append rfl (.tmp 87) (.tmp 93) 42 rfl 46 (.agg #[.int .i64 0, .int .i64 0, .int .i64 0, .int .i64 0]) 4 32 Tryd.underlying42 Tryd.infoEntryR rfl (by decide) rfl rfl (hrow1.alloc _) (SlAt.lit' W5 #[.int .i64 p, .int .i64 k, .int .i64 t, .int .i64 lv] 46 4 1 W5.heap.size rfl (by decide) rfl (by simp [Value.oneCell'])) (by unfold maxLen; omega) (by omega) ?_; intro a2 c2 W6 hrow2 hupd2 hloc2 hnil2))
            go_ret2
            rw [HL.out]
            exact Ref33.fin b0 hupd1 hloc1 hupd2 hloc2 hrow2
end Go.Proofs.YtfphjokijanahaaDoor
