import Derived.Test.YtfphjokijanahaaDoorLedger7
namespace Go.Proofs.YtfphjokijanahaaDoor
open Go Go.RowKit
set_option linter.unusedVariables false

/-- How many of a player have a level. -/
def cntl (es : List Ent) (p l : Int) : Int := (es.filter fun e => e.p == p && e.l == l).length
theorem cntl_snoc (es : List Ent) (e : Ent) (p l : Int) : cntl (es ++ [e]) p l = cntl es p l + if e.p = p ∧ e.l = l then 1 else 0 := by
  unfold cntl
  rw [List.filter_append]
  by_cases h : e.p = p ∧ e.l = l
  · simp [h.1, h.2]
  · rw [if_neg h]
    have : (e.p == p && e.l == l) = false := by
      rw [Bool.eq_false_iff]
      intro hh
      simp at hh
      exact h hh
    simp [this]
theorem cntl_bd (es : List Ent) (p l : Int) : 0 ≤ cntl es p l ∧ cntl es p l ≤ es.length := by
  unfold cntl
  have := List.length_filter_le (fun e : Ent => e.p == p && e.l == l) es
  omega
theorem take_at {α : Type} {l : List α} {k : Nat} {e : α} (h : l[k]? = some e) : l.take (k + 1) = l.take k ++ [e] := by
  obtain ⟨hk, rfl⟩ := List.getElem?_eq_some_iff.1 h
  exact List.take_succ_eq_append_getElem hk

set_option maxRecDepth 100000 in
set_option maxHeartbeats 800000 in
theorem refCount (w : World) (a : Option Addr) (n cap : Nat) (es : List Ent) (p l : Int) (h : SlAt w 4 a n cap (es.flatMap entC)) :
    Calls Tryd.prog 26 #[.slice a n cap, .int .i64 p, .int .i64 l] w (fun e w' => e = .returned (.int .i64 (cntl es p l)) ∧ Below w.heap.size w w') := by
  have hlen := ent_cells h
  have hnm := Nat.le_trans h.le h.max
  unfold maxLen at hnm
  go_enter Tryd.func26, Tryd.ntmps26
  go_wp2_with fail
  go_loopw [7, 12] (fun c i wr => ∃ k : Nat, k ≤ n ∧ i = .int .i64 k ∧ c = .int .i64 (cntl (es.take k) p l) ∧ Below w.heap.size w wr) (fun _ i _ => n - (intOf i).toNat)
  case atStart => exact ⟨0, by omega, rfl, rfl, Below.refl _ _⟩
  case round =>
    obtain ⟨k, hkn, rfl, rfl, hbel⟩ := hrel
    by_cases hlt : k < n
    · obtain ⟨b, off, x, rfl, hx, hb, c0, c1, c2, c3⟩ := ent_at (h.all hbel) hlt
      have hsn := cntl_snoc (es.take k) x p l
      rw [← take_at hx] at hsn
      have hbd := cntl_bd (es.take k) p l
      have hlk : (es.take k).length ≤ k := List.length_take_le _ _
      have Hs := Lib.hid hsn
      clear hsn hx
      by_cases h1 : x.p = p
      · have q1 : (x.p == p) = true := by simp [h1]
        by_cases h2 : x.l = l
        · have q2 : (x.l == l) = true := by simp [h2]
          have hE := Lib.hid (And.intro h1 h2)
          clear h1 h2
          go_wp2_with fail
          go_roundw
          case rel => exact ⟨k + 1, by omega, by go_num, by rw [Hs.out, if_pos hE.out], hbel.alloc hbel.size _⟩
          case measure => simp [intOf]; omega
        · have q2 : (x.l == l) = false := by simp [h2]
          have hE := Lib.hid (show ¬ (x.p = p ∧ x.l = l) from fun h => h2 h.2)
          clear h1 h2
          go_wp2_with fail
          go_roundw
          case rel => exact ⟨k + 1, by omega, by go_num, by rw [Hs.out, if_neg hE.out]; simp, hbel.alloc hbel.size _⟩
          case measure => simp [intOf]; omega
      · have q1 : (x.p == p) = false := by simp [h1]
        have hE := Lib.hid (show ¬ (x.p = p ∧ x.l = l) from fun h => h1 h.1)
        clear h1
        go_wp2_with fail
        go_roundw
        case rel => exact ⟨k + 1, by omega, by go_num, by rw [Hs.out, if_neg hE.out]; simp, hbel.alloc hbel.size _⟩
        case measure => simp [intOf]; omega
    · obtain rfl : k = n := by omega
      have e1 := Lib.hid (show es.take k = es from List.take_of_length_le (by omega))
      go_wp2_with fail
      go_ret
      exact ⟨by rw [e1.out]; rfl, hbel⟩

set_option maxRecDepth 100000 in
set_option maxHeartbeats 800000 in
theorem countOk (w : World) (bl br : Nat) (es : List Ent) (ba : Option Addr) (cap : Nat) (p l : Int) (hh : LedgerAt w bl br es ba cap) (hl : es.length ≤ 1000) :
    Calls Tryd.prog 18 #[.pointer (some ⟨bl, 0, none⟩), .int .i64 p, .int .i64 l] w (fun e w' => e = .returned (.int .i64 (cntl es p l)) ∧ Below w.heap.size w w') := by
  go_enter Tryd.func18, Tryd.ntmps18
  go_wp2_with fail
  refine (allOk _ _ _ _ _ _ hh hl).mono ?_
  rintro e w1 ⟨a, c, rfl, hr, hf, hb1, _⟩
  have h := hr.sl
  clear hr
  go_wp2_with fail
  go_loopw [7, 13] (fun c i wr => ∃ k : Nat, k ≤ es.length ∧ i = .int .i64 k ∧ c = .int .i64 (cntl (es.take k) p l) ∧ Below w1.heap.size w1 wr) (fun _ i _ => es.length - (intOf i).toNat)
  case atStart => exact ⟨0, by omega, rfl, rfl, Below.refl _ _⟩
  case round =>
    obtain ⟨k, hkn, rfl, rfl, hbel⟩ := hrel
    by_cases hlt : k < es.length
    · obtain ⟨b, off, x, rfl, hx, hb, c0, c1, c2, c3⟩ := ent_at (h.all hbel) hlt
      have hsn := cntl_snoc (es.take k) x p l
      rw [← take_at hx] at hsn
      have hbd := cntl_bd (es.take k) p l
      have hlk : (es.take k).length ≤ k := List.length_take_le _ _
      have Hs := Lib.hid hsn
      clear hsn hx
      by_cases h1 : x.p = p
      · have q1 : (x.p == p) = true := by simp [h1]
        by_cases h2 : x.l = l
        · have q2 : (x.l == l) = true := by simp [h2]
          have hE := Lib.hid (And.intro h1 h2)
          clear h1 h2
          go_wp2_with fail
          go_roundw
          case rel => exact ⟨k + 1, by omega, by go_num, by rw [Hs.out, if_pos hE.out], hbel.alloc hbel.size _⟩
          case measure => simp [intOf]; omega
        · have q2 : (x.l == l) = false := by simp [h2]
          have hE := Lib.hid (show ¬ (x.p = p ∧ x.l = l) from fun h => h2 h.2)
          clear h1 h2
          go_wp2_with fail
          go_roundw
          case rel => exact ⟨k + 1, by omega, by go_num, by rw [Hs.out, if_neg hE.out]; simp, hbel.alloc hbel.size _⟩
          case measure => simp [intOf]; omega
      · have q1 : (x.p == p) = false := by simp [h1]
        have hE := Lib.hid (show ¬ (x.p = p ∧ x.l = l) from fun h => h1 h.1)
        clear h1
        go_wp2_with fail
        go_roundw
        case rel => exact ⟨k + 1, by omega, by go_num, by rw [Hs.out, if_neg hE.out]; simp, hbel.alloc hbel.size _⟩
        case measure => simp [intOf]; omega
    · obtain rfl : k = es.length := by omega
      have e1 := Lib.hid (show es.take es.length = es from List.take_of_length_le (by omega))
      go_wp2_with fail
      go_ret
      exact ⟨by rw [e1.out]; rfl, hb1.trans (hbel.mono hb1.size)⟩
theorem countNil (w : World) (p l : Int) : Calls Tryd.prog 18 #[.pointer none, .int .i64 p, .int .i64 l] w (fun e w' => e = .returned (.int .i64 0) ∧ Below w.heap.size w w') := by
  go_enter Tryd.func18, Tryd.ntmps18
  go_wp2_with (go_at_call 12; refine (allNil _).mono ?_; rintro e w' ⟨rfl, rfl⟩)
  go_loopw [7, 13] (fun c i wr => i = .int .i64 0 ∧ c = .int .i64 0 ∧ wr = w) (fun _ i _ => 0)
  case atStart => exact ⟨rfl, rfl, rfl⟩
  case round =>
    obtain ⟨rfl, rfl, rfl⟩ := hrel
    go_wp2_with fail
    go_ret
    exact ⟨rfl, Below.refl _ _⟩

theorem worst_snoc' (es : List Ent) (e : Ent) (p : Int) : worst (es ++ [e]) p = if e.p = p then max (worst es p) e.l else worst es p := by
  unfold worst
  rw [List.foldl_append]
  rfl
set_option maxRecDepth 100000 in
set_option maxHeartbeats 800000 in
theorem refWorst (w : World) (a : Option Addr) (n cap : Nat) (es : List Ent) (p : Int) (h : SlAt w 4 a n cap (es.flatMap entC)) :
    Calls Tryd.prog 25 #[.slice a n cap, .int .i64 p] w (fun e w' => e = .returned (.int .i64 (worst es p)) ∧ Below w.heap.size w w') := by
  have hlen := ent_cells h
  have hnm := Nat.le_trans h.le h.max
  unfold maxLen at hnm
  go_enter Tryd.func25, Tryd.ntmps25
  go_wp2_with fail
  go_loopw [5, 10] (fun c i wr => ∃ k : Nat, k ≤ n ∧ i = .int .i64 k ∧ c = .int .i64 (worst (es.take k) p) ∧ Below w.heap.size w wr) (fun _ i _ => n - (intOf i).toNat)
  case atStart => exact ⟨0, by omega, rfl, rfl, Below.refl _ _⟩
  case round =>
    obtain ⟨k, hkn, rfl, rfl, hbel⟩ := hrel
    by_cases hlt : k < n
    · obtain ⟨b, off, x, rfl, hx, hb, c0, c1, c2, c3⟩ := ent_at (h.all hbel) hlt
      have hsn := worst_snoc' (es.take k) x p
      rw [← take_at hx] at hsn
      have Hs := Lib.hid hsn
      clear hsn hx
      by_cases h1 : x.p = p
      · have q1 : (x.p == p) = true := by simp [h1]
        have hE := Lib.hid h1
        clear h1
        by_cases h2 : worst (es.take k) p < x.l
        · have hm := Lib.hid (show max (worst (es.take k) p) x.l = x.l by omega)
          go_wp2_with fail
          go_roundw
          case rel => exact ⟨k + 1, by omega, by go_num, by rw [Hs.out, if_pos hE.out, hm.out], hbel.alloc hbel.size _⟩
          case measure => simp [intOf]; omega
        · have hm := Lib.hid (show max (worst (es.take k) p) x.l = worst (es.take k) p by omega)
          go_wp2_with fail
          go_roundw
          case rel => exact ⟨k + 1, by omega, by go_num, by rw [Hs.out, if_pos hE.out, hm.out], hbel.alloc hbel.size _⟩
          case measure => simp [intOf]; omega
      · have q1 : (x.p == p) = false := by simp [h1]
        have hE := Lib.hid h1
        clear h1
        go_wp2_with fail
        go_roundw
        case rel => exact ⟨k + 1, by omega, by go_num, by rw [Hs.out, if_neg hE.out], hbel.alloc hbel.size _⟩
        case measure => simp [intOf]; omega
    · obtain rfl : k = n := by omega
      have e1 := Lib.hid (show es.take k = es from List.take_of_length_le (by omega))
      go_wp2_with fail
      go_ret
      exact ⟨by rw [e1.out]; rfl, hbel⟩
end Go.Proofs.YtfphjokijanahaaDoor
