import Derived.Test.YtpbocficffbcbaaList2
namespace Go.Proofs.Ytpbocficffbcbaa
open Go Go.RowKit
set_option linter.unusedVariables false

/-- A new list that grows. -/
structure Gr (w wr : World) (m : Value) (n : Nat) (ys : List Int) (a : Option Addr) (c : Nat) : Prop where
  len : ys.length = n
  m : m = .slice a n c
  row : RowAt wr 3 1 a n c (ys.map (.int .i64))
  fr : Fresh w.heap.size a
  bel : Below w.heap.size w wr
theorem Gr.snoc {w wr w' : World} {m : Value} {n : Nat} {ys : List Int} {a a' : Option Addr} {c c' : Nat} {o : Obj} {x : Int} (h : Gr w wr m n ys a c) (hu : Upd (blk a) (wr.alloc o) w') (hl : ∀ ad, a' = some ad → a = some ad ∨ (wr.alloc o).heap.size ≤ ad.block)
    (hr : RowAt w' 3 1 a' (n + 1) c' (ys.map (.int .i64) ++ [.int .i64 x])) : Gr w w' (.slice a' (n + 1) c') (n + 1) (ys ++ [x]) a' c' where
  len := by simp [h.len]
  m := rfl
  row := by simpa using hr
  fr := fun ad he => by
    rcases hl ad he with h1 | h1
    · exact h.fr ad h1
    · have := h.bel.size; simp at h1; omega
  bel := by
    have hs := h.bel.size
    exact (h.bel.alloc hs o).trans (hu.below (by simp; omega) (fun k hk => by rintro ⟨ad, he, rfl⟩; have := h.fr ad he; omega))
theorem Gr.nil (w : World) : Gr w (w.alloc (.cells #[] 3)) (.slice (some ⟨w.heap.size, 0, none⟩) 0 0) 0 [] (some ⟨w.heap.size, 0, none⟩) 0 :=
  ⟨rfl, rfl, RowAt.lit w #[] _ 1 0 (Nat.zero_le _) rfl (by simp), (fun ad he => by obtain rfl := Option.some.inj he; exact Nat.le_refl _), (Below.refl _ _).alloc (Nat.le_refl _) _⟩
theorem Gr.other {w wr w' : World} {m : Value} {n : Nat} {ys : List Int} {a : Option Addr} {c : Nat} {b k : Nat} {v : Value} (h : Gr w wr m n ys a c) (hu : Upd (blk a) wr w') (hb : b < w.heap.size) (hc : wr.cell? ⟨b, k, none⟩ = some v) : w'.cell? ⟨b, k, none⟩ = some v :=
  (hu.cell (p := ⟨b, k, none⟩) (by have := h.bel.size; exact Nat.lt_of_lt_of_le hb this) (fun ⟨ad, he, hb2⟩ => by have := h.fr ad he; simp at hb2; omega)).trans hc
theorem Gr.to {w wr : World} {m : Value} {n : Nat} {ys : List Int} {a : Option Addr} {c : Nat} (h : Gr w wr m n ys a c) (n' : Nat) (ys' : List Int) (hn : n = n') (hy : ys = ys') : Gr w wr m n' ys' a c := by subst hn; subst hy; exact h

theorem insAt_take (zs : List Int) (i k : Nat) (x : Int) (hi : i ≤ k) (hk : k < zs.length) : insAt (zs.take k) i x ++ [zs.getD k 0] = insAt (zs.take (k + 1)) i x := by
  unfold insAt
  rw [take_snoc zs k 0 hk]
  have hl : (zs.take k).length = k := by simp; omega
  rw [List.take_append_of_le_length (by omega), List.drop_append_of_le_length (by omega)]
  simp
theorem insAt_end (zs : List Int) (i : Nat) (x : Int) (hi : i ≤ zs.length) : insAt (zs.take i) i x = zs.take i ++ [x] := by
  unfold insAt
  have hl : (zs.take i).length = i := by simp; omega
  rw [List.take_of_length_le (by omega), List.drop_of_length_le (by omega)]
/-- What stands behind k rounds. -/
def outK (zs : List Int) (i : Nat) (x : Int) (k : Nat) : List Int := if k ≤ i then zs.take k else insAt (zs.take k) i x

set_option maxRecDepth 100000 in
set_option maxHeartbeats 800000 in
theorem refIns (w : World) (a : Option Addr) (n cap : Nat) (zs : List Int) (h : SlAt w 1 a n cap (zs.map (.int .i64))) (hn : n < 1000000) (i : Nat) (hi : i ≤ n) (x : Int) :
    Calls Try.prog 22 #[.slice a n cap, .int .i64 i, .int .i64 x] w (fun e w' => ∃ a' c', e = .returned (.slice a' (n + 1) c') ∧ RowAt w' 3 1 a' (n + 1) c' ((insAt zs i x).map (.int .i64)) ∧ Fresh w.heap.size a' ∧ Below w.heap.size w w') := by
  have hl := nil_of_len h
  have Hst := Lib.hid (Gr.nil w)
  go_enter Try.func22, Try.ntmps22
  go_wp2_with fail
  go_loopw [7, 8] (fun m v wr => ∃ k : Nat, k ≤ n + 1 ∧ v = .int .i64 k ∧ ∃ l a' c', Gr w wr m l (outK zs i x k) a' c') (fun _ v _ => n + 1 - (intOf v).toNat)
  case atStart => exact ⟨0, by omega, rfl, _, _, _, Hst.out.to _ _ rfl (by simp [outK])⟩
  case round =>
    obtain ⟨k, hk, rfl, l, a1, c1, hg⟩ := hrel
    by_cases hend : k ≤ n
    · obtain ⟨ys, hys⟩ : ∃ ys, ys = outK zs i x k := ⟨_, rfl⟩
      rw [← hys] at hg
      obtain rfl := hg.m
      have hyl : l ≤ n + 1 := by
        have := hg.len
        rw [← this, hys]
        unfold outK
        split
        · simp; omega
        · rw [insAt_len]; simp; omega
      by_cases hlt : k < n
      · obtain ⟨b, off, rfl, hbw, hc⟩ := h.nonempty (by omega)
        have hx : wr.cell? ⟨b, off + k, none⟩ = some (.int .i64 (zs.getD k 0)) := (World.cell?_of_block (hg.bel.block b hbw)).trans (hc k _ (map_int_cell (by omega)))
        have hb : b < wr.heap.size := Nat.lt_of_lt_of_le hbw hg.bel.size
        clear hc
        by_cases hki : k = i
        · subst hki
          have hE := Lib.hid (show ys ++ [x] ++ [zs.getD k 0] = outK zs k x (k + 1) by
            rw [hys, outK, if_pos (Nat.le_refl _), outK, if_neg (by omega), ← insAt_take zs k k x (Nat.le_refl _) (by omega), insAt_end zs k x (by omega)])
          have Hl := Lib.hid hl
          generalize zs.getD k 0 = z at *
          clear hl hys
          have hx1 := cell_alloc hx (.cells #[.int .i64 x] 3)
          go_wp2_with (first
            | (at_builtin; refine wp_append rfl (.tmp 19) (.tmp 21) 22 rfl 3 (.int .i64 0) 1 8 Try.underlying22 Try.infoInt rfl (by decide) rfl rfl (hg.row.alloc _) (RowAt.lit wr #[.int .i64 x] 3 1 1 (by decide) rfl (by simp [Value.oneCell'])).sl (by unfold maxLen; omega) (by omega) ?_; intro a2 c2 W2 hrow2 hupd2 hloc2 hnil2; have g2 := hg.snoc hupd2 hloc2 hrow2; have hx2 := (hupd2.cell (p := ⟨b, off + k, none⟩) (by simp; omega) (fun ⟨ad, he, hb2⟩ => by have := hg.fr ad he; simp at hb2; omega)).trans hx1)
            | (at_builtin; refine wp_append rfl (.tmp 27) (.tmp 32) 22 rfl 3 (.int .i64 0) 1 8 Try.underlying22 Try.infoInt rfl (by decide) rfl rfl (g2.row.alloc _) (RowAt.lit W2 #[.int .i64 z] 3 1 1 (by decide) rfl (by simp [Value.oneCell'])).sl (by unfold maxLen; omega) (by omega) ?_; intro a3 c3 W3 hrow3 hupd3 hloc3 hnil3; have g3 := g2.snoc hupd3 hloc3 hrow3))
          go_roundw
          case rel => exact ⟨k + 1, by omega, by go_num, _, _, _, g3.to _ _ rfl hE.out⟩
          case measure => first | (simp [intOf]; done) | (simp [intOf]; omega)
        · have hkb : ((k : Int) == (i : Int)) = false := by simp; omega
          have hE := Lib.hid (show ys ++ [zs.getD k 0] = outK zs i x (k + 1) by
            rw [hys]
            unfold outK
            by_cases h1 : k ≤ i
            · rw [if_pos h1, if_pos (by omega), take_snoc zs k 0 (by omega)]
            · rw [if_neg h1, if_neg (by omega), insAt_take zs i k x (by omega) (by omega)])
          have Hl := Lib.hid hl
          generalize zs.getD k 0 = z at *
          clear hl hys hki
          go_wp2_with (at_builtin; refine wp_append rfl (.tmp 27) (.tmp 32) 22 rfl 3 (.int .i64 0) 1 8 Try.underlying22 Try.infoInt rfl (by decide) rfl rfl (hg.row.alloc _) (RowAt.lit wr #[.int .i64 z] 3 1 1 (by decide) rfl (by simp [Value.oneCell'])).sl (by unfold maxLen; omega) (by omega) ?_; intro a3 c3 W3 hrow3 hupd3 hloc3 hnil3; have g3 := hg.snoc hupd3 hloc3 hrow3)
          go_roundw
          case rel => exact ⟨k + 1, by omega, by go_num, _, _, _, g3.to _ _ rfl hE.out⟩
          case measure => first | (simp [intOf]; done) | (simp [intOf]; omega)
      · obtain rfl : k = n := by omega
        by_cases hki : k = i
        · subst hki
          have hE := Lib.hid (show ys ++ [x] = outK zs k x (k + 1) by
            rw [hys, outK, if_pos (Nat.le_refl _), outK, if_neg (by omega), ← insAt_end zs k x (by omega), List.take_of_length_le (show zs.length ≤ k by omega), List.take_of_length_le (show zs.length ≤ k + 1 by omega)])
          have Hl := Lib.hid hl
          clear hl hys
          go_wp2_with (at_builtin; refine wp_append rfl (.tmp 19) (.tmp 21) 22 rfl 3 (.int .i64 0) 1 8 Try.underlying22 Try.infoInt rfl (by decide) rfl rfl (hg.row.alloc _) (RowAt.lit wr #[.int .i64 x] 3 1 1 (by decide) rfl (by simp [Value.oneCell'])).sl (by unfold maxLen; omega) (by omega) ?_; intro a2 c2 W2 hrow2 hupd2 hloc2 hnil2; have g2 := hg.snoc hupd2 hloc2 hrow2)
          go_roundw
          case rel => exact ⟨k + 1, by omega, by first | rfl | go_num, _, _, _, g2.to _ _ rfl hE.out⟩
          case measure => first | (simp [intOf]; done) | (simp [intOf]; omega)
        · have hkb : ((k : Int) == (i : Int)) = false := by simp; omega
          have hE := Lib.hid (show ys = outK zs i x (k + 1) by
            rw [hys]
            unfold outK
            rw [if_neg (by omega), if_neg (by omega), List.take_of_length_le (show zs.length ≤ k by omega), List.take_of_length_le (show zs.length ≤ k + 1 by omega)])
          have Hl := Lib.hid hl
          clear hl hys hki
          go_wp2_with fail
          go_roundw
          case rel => exact ⟨k + 1, by omega, by first | rfl | go_num, _, _, _, hg.to _ _ rfl hE.out⟩
          case measure => first | (simp [intOf]; done) | (simp [intOf]; omega)
    · obtain rfl : k = n + 1 := by omega
      have hE : outK zs i x (n + 1) = insAt zs i x := by
        unfold outK
        rw [if_neg (by omega), List.take_of_length_le (by omega)]
      rw [hE] at hg
      have hll : l = n + 1 := by rw [← hg.len, insAt_len, hl]
      subst hll
      obtain rfl := hg.m
      have Hg := Lib.hid hg
      clear hg hE hl
      go_wp2_with fail
      go_ret
      exact ⟨a1, c1, rfl, Hg.out.row, Hg.out.fr, Hg.out.bel⟩

/-- What stands behind k rounds of Remove. -/
def outR (zs : List Int) (i k : Nat) : List Int := if k ≤ i then zs.take k else remAt (zs.take k) i
theorem remAt_take (zs : List Int) (i k : Nat) (hi : i < k) (hk : k < zs.length) : remAt (zs.take k) i ++ [zs.getD k 0] = remAt (zs.take (k + 1)) i := by
  unfold remAt
  rw [take_snoc zs k 0 hk]
  have hl : (zs.take k).length = k := by simp; omega
  rw [List.take_append_of_le_length (by omega), List.drop_append_of_le_length (by omega)]
  simp
theorem remAt_end (zs : List Int) (i : Nat) (hi : i < zs.length) : remAt (zs.take (i + 1)) i = zs.take i := by
  unfold remAt
  rw [List.take_take, Nat.min_eq_left (by omega), List.drop_of_length_le (by simp; omega), List.append_nil]
set_option maxRecDepth 100000 in
set_option maxHeartbeats 800000 in
theorem refRem (w : World) (a : Option Addr) (n cap : Nat) (zs : List Int) (h : SlAt w 1 a n cap (zs.map (.int .i64))) (hn : n < 1000000) (i : Nat) (hi : i < n) :
    Calls Try.prog 23 #[.slice a n cap, .int .i64 i] w (fun e w' => ∃ a' c', e = .returned (.slice a' (n - 1) c') ∧ RowAt w' 3 1 a' (n - 1) c' ((remAt zs i).map (.int .i64)) ∧ Fresh w.heap.size a' ∧ Below w.heap.size w w') := by
  have hl := nil_of_len h
  have Hst := Lib.hid (Gr.nil w)
  go_enter Try.func23, Try.ntmps23
  go_wp2_with fail
  go_loopw [5, 6] (fun m v wr => ∃ k : Nat, k ≤ n ∧ v = .int .i64 k ∧ ∃ l a' c', Gr w wr m l (outR zs i k) a' c') (fun _ v _ => n - (intOf v).toNat)
  case atStart => exact ⟨0, by omega, rfl, _, _, _, Hst.out.to _ _ rfl (by simp [outR])⟩
  case round =>
    obtain ⟨k, hk, rfl, l, a1, c1, hg⟩ := hrel
    by_cases hlt : k < n
    · obtain ⟨ys, hys⟩ : ∃ ys, ys = outR zs i k := ⟨_, rfl⟩
      rw [← hys] at hg
      obtain rfl := hg.m
      have hyl : l ≤ n := by
        have := hg.len
        rw [← this, hys]
        unfold outR
        split
        · simp; omega
        · rw [remAt_len _ _ (by simp; omega)]; simp; omega
      obtain ⟨b, off, rfl, hbw, hc⟩ := h.nonempty (by omega)
      have hx : wr.cell? ⟨b, off + k, none⟩ = some (.int .i64 (zs.getD k 0)) := (World.cell?_of_block (hg.bel.block b hbw)).trans (hc k _ (map_int_cell (by omega)))
      have hb : b < wr.heap.size := Nat.lt_of_lt_of_le hbw hg.bel.size
      clear hc
      by_cases hki : k = i
      · subst hki
        have hE := Lib.hid (show ys = outR zs k (k + 1) by
          rw [hys, outR, if_pos (Nat.le_refl _), outR, if_neg (by omega), remAt_end zs k (by omega)])
        have Hl := Lib.hid hl
        clear hl hys hx
        go_wp2_with fail
        go_roundw
        case rel => exact ⟨k + 1, by omega, by first | rfl | go_num, _, _, _, hg.to _ _ rfl hE.out⟩
        case measure => first | (simp [intOf]; done) | (simp [intOf]; omega)
      · have hkb : ((k : Int) != (i : Int)) = true := by simp; omega
        have hE := Lib.hid (show ys ++ [zs.getD k 0] = outR zs i (k + 1) by
          rw [hys]
          unfold outR
          by_cases h1 : k ≤ i
          · rw [if_pos h1, if_pos (by omega), take_snoc zs k 0 (by omega)]
          · rw [if_neg h1, if_neg (by omega), remAt_take zs i k (by omega) (by omega)])
        have Hl := Lib.hid hl
        generalize zs.getD k 0 = z at *
        clear hl hys hki
        go_wp2_with (at_builtin; refine wp_append rfl (.tmp 17) (.tmp 22) 22 rfl 3 (.int .i64 0) 1 8 Try.underlying22 Try.infoInt rfl (by decide) rfl rfl (hg.row.alloc _) (RowAt.lit wr #[.int .i64 z] 3 1 1 (by decide) rfl (by simp [Value.oneCell'])).sl (by unfold maxLen; omega) (by omega) ?_; intro a3 c3 W3 hrow3 hupd3 hloc3 hnil3; have g3 := hg.snoc hupd3 hloc3 hrow3)
        go_roundw
        case rel => exact ⟨k + 1, by omega, by first | rfl | go_num, _, _, _, g3.to _ _ rfl hE.out⟩
        case measure => first | (simp [intOf]; done) | (simp [intOf]; omega)
    · obtain rfl : k = n := by omega
      have hE : outR zs i k = remAt zs i := by
        unfold outR
        rw [if_neg (by omega), List.take_of_length_le (by omega)]
      rw [hE] at hg
      have hll : l = k - 1 := by rw [← hg.len, remAt_len _ _ (by omega), hl]
      subst hll
      obtain rfl := hg.m
      have Hg := Lib.hid hg
      clear hg hE hl
      go_wp2_with fail
      go_ret
      exact ⟨a1, c1, rfl, Hg.out.row, Hg.out.fr, Hg.out.bel⟩
end Go.Proofs.Ytpbocficffbcbaa
