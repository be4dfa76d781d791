import Derived.Test.YtpbocficffbcbaaEvs
import Derived.Test.YtpbocficffbcbaaInts
namespace Go.Proofs.Ytpbocficffbcbaa
open Go Go.RowKit
set_option linter.unusedVariables false

set_option maxRecDepth 100000 in
set_option maxHeartbeats 800000 in
theorem events (w : World) (a b : Option Addr) (n m ca cb : Nat) (l k : List Ev) (ha : SlAt w 6 a n ca (evs l)) (hb : SlAt w 6 b m cb (evs k)) :
    Calls Try.prog 36 #[.slice a n ca, .slice b m cb] w (fun e w' => e = .returned (.bool (decide (l = k))) ∧ Q w w') := by
  have hl := ev_len ha
  have hk := ev_len hb
  have hn1 := ha.le
  have hn2 := ha.max
  have hm1 := hb.le
  have hm2 := hb.max
  unfold maxLen at hn2 hm2
  by_cases hnm : n = m
  · subst hnm
    have q := ev_neq
    go_enter Try.func36, Try.ntmps36
    go_wp2_with fail
    go_loopw [13] (fun i wr => ∃ j : Nat, j ≤ n ∧ i = .int .i64 j ∧ Q w wr ∧ l.take j = k.take j) (fun i _ => n - (intOf i).toNat)
    case atStart => exact ⟨0, Nat.zero_le _, rfl, Q.refl _, by simp⟩
    case round =>
      obtain ⟨j, hj, rfl, hq, heq⟩ := hrel
      by_cases hlt : j < n
      · obtain ⟨b1, o1, x, rfl, hx, hb1, ⟨xk, xa, xb, xc, xd, xe⟩⟩ := ev_at (ha.all (hq.below _)) hlt
        obtain ⟨b2, o2, y, rfl, hy, hb2, ⟨yk, ya, yb, yc, yd, ye⟩⟩ := ev_at (hb.all (hq.below _)) hlt
        have hsx := Lib.hid (ev_take hx)
        have hsy := Lib.hid (ev_take hy)
        have hdx := Lib.hid (show l ≠ k ∨ x = y by
          by_cases h : l = k
          · subst h
            exact .inr (Option.some.inj (hx.symm.trans hy))
          · exact .inl h)
        have Heq := Lib.hid heq
        clear heq hx hy
        by_cases hxy : x = y
        · subst hxy
          go_wp2_with fail
          go_quiet (fail)
          go_wp2_with fail
          go_roundw
          case rel => exact ⟨j + 1, by omega, by go_num, hq.drewN _, by rw [hsx.out, hsy.out, Heq.out]⟩
          case measure => simp [intOf]; omega
        · have hne : decide (x ≠ y) = true := by simp [hxy]
          have hdd := Lib.hid (show decide (l = k) = false by rcases hdx.out with h | h; (simp [h]); (exact absurd h hxy))
          have qq := fun w => (q w x y).trans (by rw [hne])
          clear q
          go_wp2_with fail
          go_quiet (fail)
          go_wp2_with fail
          go_ret
          exact ⟨by rw [hdd.out]; rfl, hq.drewN _⟩
      · obtain rfl : j = n := by omega
        have hlk := Lib.hid (show decide (l = k) = true by rw [List.take_of_length_le (by omega), List.take_of_length_le (by omega)] at heq; simp [heq])
        clear heq
        go_wp2_with fail
        go_ret
        exact ⟨by rw [hlk.out]; rfl, hq⟩
  · have hne : (n != m) = true := by simp [hnm]
    have hdd := Lib.hid (show decide (l = k) = false by rw [decide_eq_false_iff_not]; intro h; rw [h] at hl; omega)
    have hne2 : ((n : Int) != (m : Int)) = true := by simp; omega
    clear hl hk
    go_enter Try.func36, Try.ntmps36
    go_wp2_with fail
    go_ret
    exact ⟨by rw [hdd.out]; rfl, Q.refl _⟩

/-! ### a new list of events that grows -/
structure GrE (B : Nat) (w wr : World) (m : Value) (n : Nat) (ys : List Ev) (a : Option Addr) (c : Nat) : Prop where
  len : ys.length = n
  m : m = .slice a n c
  row : RowAt wr 64 6 a n c (evs ys)
  fr : Fresh B a
  bel : Below B w wr
  le : B ≤ wr.heap.size
theorem GrE.snoc {B : Nat} {w wr w' : World} {m : Value} {n : Nat} {ys : List Ev} {a a' : Option Addr} {c c' : Nat} {o : Obj} {x : Ev} (h : GrE B w wr m n ys a c) (hu : Upd (blk a) (wr.alloc o) w') (hl : ∀ ad, a' = some ad → a = some ad ∨ (wr.alloc o).heap.size ≤ ad.block)
    (hr : RowAt w' 64 6 a' (n + 1) c' (evs ys ++ evC x)) : GrE B w w' (.slice a' (n + 1) c') (n + 1) (ys ++ [x]) a' c' where
  len := by simp [h.len]
  m := rfl
  row := by simpa [evs] using hr
  fr := fun ad he => by
    rcases hl ad he with h1 | h1
    · exact h.fr ad h1
    · have := h.le; simp at h1; omega
  le := by have := h.le; have := hu.size; simp at this; omega
  bel := by
    have hs := h.le
    exact (h.bel.alloc hs o).trans (hu.below (by simp; omega) (fun k hk => by rintro ⟨ad, he, rfl⟩; have := h.fr ad he; omega))
theorem GrE.nil (w : World) : GrE w.heap.size w (w.alloc (.cells #[] 64)) (.slice (some ⟨w.heap.size, 0, none⟩) 0 0) 0 [] (some ⟨w.heap.size, 0, none⟩) 0 :=
  ⟨rfl, rfl, RowAt.lit w #[] _ 6 0 (Nat.zero_le _) rfl (by simp), (fun ad he => by obtain rfl := Option.some.inj he; exact Nat.le_refl _), (Below.refl _ _).alloc (Nat.le_refl _) _, by simp⟩
theorem GrE.null (w : World) : GrE w.heap.size w w (.slice none 0 0) 0 [] none 0 :=
  ⟨rfl, rfl, RowAt.null _ _ _, (fun ad he => by cases he), Below.refl _ _, Nat.le_refl _⟩
theorem GrE.to {B : Nat} {w wr : World} {m : Value} {n : Nat} {ys : List Ev} {a : Option Addr} {c : Nat} (h : GrE B w wr m n ys a c) (n' : Nat) (ys' : List Ev) (hn : n = n') (hy : ys = ys') : GrE B w wr m n' ys' a c := by subst hn; subst hy; exact h
theorem GrE.step {B : Nat} {w wr w2 : World} {m : Value} {n : Nat} {ys : List Ev} {a : Option Addr} {c : Nat} (h : GrE B w wr m n ys a c) (k : Below wr.heap.size wr w2) : GrE B w w2 m n ys a c :=
  ⟨h.len, h.m, h.row.all k, h.fr, h.bel.trans (k.mono h.le), Nat.le_trans h.le k.size⟩

/-- Behind a call that hands back new events. -/
def NewEvs (w : World) (l : List Ev) (e : Ending) (w' : World) : Prop :=
  ∃ a c, e = .returned (.slice a l.length c) ∧ RowAt w' 64 6 a l.length c (evs l) ∧ Fresh w.heap.size a ∧ Below w.heap.size w w'
def invs (l : List Ev) : List Ev := l.reverse.map inv
theorem invs_drop {l : List Ev} {k : Nat} {e : Ev} (h : l[k]? = some e) : invs (l.drop k) = invs (l.drop (k + 1)) ++ [inv e] := by
  obtain ⟨hk, rfl⟩ := List.getElem?_eq_some_iff.1 h
  unfold invs
  rw [List.drop_eq_getElem_cons hk, List.reverse_cons, List.map_append]
  rfl
theorem invs_len (l : List Ev) : (invs l).length = l.length := by simp [invs]

set_option maxRecDepth 100000 in
set_option maxHeartbeats 800000 in
theorem refInverts (w : World) (a : Option Addr) (n cap : Nat) (l : List Ev) (h : SlAt w 6 a n cap (evs l)) (hn : n < 100000) :
    Calls Try.prog 37 #[.slice a n cap] w (NewEvs w (invs l)) := by
  have hl := ev_len h
  have Hst := Lib.hid (GrE.nil w)
  go_enter Try.func37, Try.ntmps37
  go_wp2_with fail
  go_loopw [3, 4] (fun m v wr => ∃ v0 : Int, v = .int .i64 v0 ∧ -1 ≤ v0 ∧ v0 < n ∧ ∃ a' c', GrE w.heap.size w wr m (n - (v0 + 1).toNat) (invs (l.drop (v0 + 1).toNat)) a' c') (fun _ v _ => (intOf v + 1).toNat)
  case atStart => exact ⟨n - 1, rfl, by omega, by omega, _, _, Hst.out.to _ _ (by omega) (by rw [List.drop_of_length_le (by omega)]; rfl)⟩
  case round =>
    obtain ⟨v0, rfl, hv0, hv1, a1, c1, hg⟩ := hrel
    by_cases hlt : 0 ≤ v0
    · obtain ⟨j, rfl⟩ : ∃ j : Nat, v0 = j := ⟨v0.toNat, by omega⟩
      have hjn : j < n := by omega
      obtain ⟨b1, o1, x, rfl, hx, hb1, ⟨xk, xa, xb, xc, xd, xe⟩⟩ := ev_at (h.all (hg.bel)) hjn
      have hdr := invs_drop hx
      rw [show ((j : Int) + 1).toNat = j + 1 by omega] at hg
      have Hd := Lib.hid hdr
      clear hdr hx
      obtain ⟨len, hlen⟩ : ∃ len, len = n - (j + 1) := ⟨_, rfl⟩
      rw [← hlen] at hg
      have hln : len ≤ n := by omega
      have hlen2 : len + 1 = n - j := by omega
      obtain ⟨ys, hys⟩ : ∃ ys, ys = invs (l.drop (j + 1)) := ⟨_, rfl⟩
      rw [← hys] at hg
      have Hys := Lib.hid hys
      have Hlen := Lib.hid hlen2
      clear hys hlen hlen2
      obtain rfl := hg.m
      have Hl := Lib.hid hl
      clear hl
      go_wp2_with fail
      refine (refInvert _ x).mono ?_
      rintro e w2 ⟨rfl, hb2⟩
      have g2 := hg.step hb2
      obtain ⟨y, hy⟩ : ∃ y, y = inv x := ⟨_, rfl⟩
      rw [← hy]
      have Hy := Lib.hid hy
      clear hy
      go_wp2_with (at_builtin; refine wp_append rfl (.tmp 13) (.tmp 19) 40 rfl 64 (.agg #[.int .i64 0, .int .i64 0, .int .i64 0, .int .i64 0, .int .i64 0, .int .i64 0]) 6 48 Try.underlying40 Try.infoEv rfl (by decide) rfl rfl (g2.row.alloc _) (RowAt.lit w2 (evA y) 64 6 1 (by decide) rfl (by simp [Value.oneCell'])).sl (by unfold maxLen; omega) (by omega) ?_; intro a3 c3 W3 hrow3 hupd3 hloc3 hnil3; have g3 := g2.snoc (x := y) hupd3 hloc3 hrow3)
      go_roundw
      case rel => exact ⟨(j : Int) - 1, rfl, by omega, by omega, _, _, g3.to _ _ (by rw [Hlen.out]; omega) (by rw [show ((j : Int) - 1 + 1).toNat = j by omega, Hd.out, Hys.out, Hy.out])⟩
      case measure => first | (simp [intOf]; done) | (simp [intOf]; omega)
    · obtain rfl : v0 = -1 := by omega
      have hg' : GrE w.heap.size w wr u3 (invs l).length (invs l) a1 c1 := hg.to _ _ (by rw [invs_len]; simp; omega) (by simp)
      clear hg
      obtain rfl := hg'.m
      have Hg := Lib.hid hg'
      clear hg' hl
      go_wp2_with fail
      go_ret
      exact ⟨a1, c1, rfl, Hg.out.row, Hg.out.fr, Hg.out.bel⟩
end Go.Proofs.Ytpbocficffbcbaa
