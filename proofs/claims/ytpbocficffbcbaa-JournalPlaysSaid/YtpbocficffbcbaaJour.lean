import Derived.Test.YtpbocficffbcbaaBackw
namespace Go.Proofs.Ytpbocficffbcbaa
open Go Go.RowKit
set_option linter.unusedVariables false

/-! ### cmp.Compare, the search -/
def cmpI (x y : Int) : Int := if x < y then -1 else if y < x then 1 else 0
set_option maxHeartbeats 400000 in
theorem isNaN (w : World) (x : Int) : Calls Try.prog 129 #[.int .i64 x] w (fun e w' => e = .returned (.bool false) ∧ w = w') := by
  have hx : (x != x) = false := by simp
  go_enter Try.func129, Try.ntmps129
  go_wp2_with fail
  go_ret
  exact ⟨rfl, rfl⟩
set_option maxHeartbeats 800000 in
theorem compare (w : World) (x y : Int) : Calls Try.prog 114 #[.int .i64 x, .int .i64 y] w (fun e w' => e = .returned (.int .i64 (cmpI x y)) ∧ w = w') := by
  have hc : (x < y ∧ cmpI x y = -1) ∨ (y < x ∧ ¬ x < y ∧ cmpI x y = 1) ∨ (x = y ∧ cmpI x y = 0) := by
    unfold cmpI
    by_cases h1 : x < y
    · simp [h1]
    · by_cases h2 : y < x
      · simp [h1, h2]
      · simp [h1, h2]; omega
  rcases hc with ⟨h1, h2⟩ | ⟨h1, h1', h2⟩ | ⟨rfl, h2⟩
  all_goals
    have H := Lib.hid h2
    clear h2
    go_enter Try.func114, Try.ntmps114
    go_wp2_with (go_at_call 129; refine (isNaN _ _).mono ?_; rintro e w' ⟨rfl, rfl⟩)
    go_ret
    exact ⟨ret_int H.out.symm, rfl⟩
set_option maxHeartbeats 400000 in
theorem find1 (w : World) (a b c : Int) : Calls Try.prog 113 #[.agg #[.int .i64 a, .int .i64 b], .int .i64 c] w (fun e w' => e = .returned (.int .i64 (cmpI a c)) ∧ Below w.heap.size w w') := by
  go_enter Try.func113, Try.ntmps113
  go_wp2_with (go_at_call 114; refine (compare _ _ _).mono ?_; rintro e w' ⟨rfl, rfl⟩)
  go_ret
  exact ⟨rfl, (Below.refl _ _).alloc (Nat.le_refl _) _⟩

/-- A checkpoint: its number, how many events stand ahead. -/
abbrev Mk := Int × Nat
def mkC (m : Mk) : List Value := [.int .i64 m.1, .int .i64 (m.2 : Int)]
abbrev mks (l : List Mk) : List Value := l.flatMap mkC
theorem mk_len {w : World} {a : Option Addr} {n cap : Nat} {l : List Mk} (h : SlAt w 2 a n cap (mks l)) : l.length = n := by
  have := h.len
  rw [cells_len mkC 2 (fun _ => rfl)] at this
  omega
theorem mk_at {w : World} {a : Option Addr} {n cap k : Nat} {l : List Mk} (h : SlAt w 2 a n cap (mks l)) (hk : k < n) :
    ∃ b off m, a = some ⟨b, off, none⟩ ∧ l[k]? = some m ∧ b < w.heap.size ∧ w.cell? ⟨b, off + k * 2, none⟩ = some (.int .i64 m.1) ∧ w.cell? ⟨b, off + k * 2 + 1, none⟩ = some (.int .i64 (m.2 : Int)) := by
  have hl := mk_len h
  obtain ⟨b, off, rfl, hb, hc⟩ := h.nonempty (by omega)
  have hk' : k < l.length := by omega
  have key := fun j hj => cells_at mkC 2 (fun _ => rfl) l k j (l[k]) hk' hj
  have e : l.getD k l[k] = l[k] := by simp [List.getD, List.getElem?_eq_getElem hk']
  rw [e] at key
  refine ⟨b, off, l[k], rfl, List.getElem?_eq_getElem hk', hb, ?_, ?_⟩
  · exact hc (k * 2) _ (by rw [show k * 2 = k * 2 + 0 from rfl, key 0 (by decide)]; rfl)
  · exact hc (k * 2 + 1) _ (by rw [key 1 (by decide)]; rfl)

/-- Numbers rise. -/
def Rise (l : List Mk) : Prop := ∀ (i j : Nat) (x y : Mk), l[i]? = some x → l[j]? = some y → i < j → x.1 < y.1
/-- The place of a number; the length: none. -/
def firstGe (l : List Mk) (c : Int) : Nat := (l.takeWhile (fun m => decide (m.1 < c))).length
/-- Behind the search. -/
def SearchTo (w : World) (l : List Mk) (c : Int) (e : Ending) (w' : World) : Prop :=
  ∃ i : Nat, i ≤ l.length ∧ (∀ (j : Nat) (x : Mk), l[j]? = some x → j < i → x.1 < c) ∧ (∀ (j : Nat) (x : Mk), l[j]? = some x → i ≤ j → c ≤ x.1) ∧ e = .returned (.tuple #[.int .i64 i, .bool (decide (∃ x : Mk, l[i]? = some x ∧ x.1 = c))]) ∧ Below w.heap.size w w'

set_option maxRecDepth 100000 in
set_option maxHeartbeats 1600000 in
theorem search (w : World) (a : Option Addr) (n cap : Nat) (l : List Mk) (h : SlAt w 2 a n cap (mks l)) (hr : Rise l) (hn : n < 1000000) (c : Int) :
    Calls Try.prog 112 #[.slice a n cap, .int .i64 c, .func (.func 113) #[] #[]] w (SearchTo w l c) := by
  have hl := mk_len h
  have Hr := Lib.hid hr
  have Hl := Lib.hid hl
  clear hl hr
  go_enter Try.func112, Try.ntmps112
  go_wp2_with fail
  go_loopw [9, 10] (fun s t wr => ∃ i j : Nat, i ≤ j ∧ j ≤ n ∧ s = .int .i64 i ∧ t = .int .i64 j ∧ (∀ (k : Nat) (x : Mk), l[k]? = some x → k < i → x.1 < c) ∧ (∀ (k : Nat) (x : Mk), l[k]? = some x → j ≤ k → c ≤ x.1) ∧ Below w.heap.size w wr) (fun s t _ => (intOf t).toNat - (intOf s).toNat)
  case atStart => exact ⟨0, n, by omega, by omega, rfl, rfl, (fun k x _ hk => by omega), (fun k x hk hk2 => by have := (List.getElem?_eq_some_iff.1 hk).1; have := Hl.out; omega), Below.refl _ _⟩
  case round =>
    obtain ⟨i, j, hij, hjn, rfl, rfl, hlo, hhi, hbel⟩ := hrel
    by_cases hlt : i < j
    · obtain ⟨m, hm⟩ : ∃ m, m = (i + j) / 2 := ⟨_, rfl⟩
      have hm1 : i ≤ m := by omega
      have hm2 : m < j := by omega
      have Hlo := Lib.hid hlo
      have Hhi := Lib.hid hhi
      obtain ⟨b, off, x, rfl, hx, hb, c0, c1⟩ := mk_at (h.all hbel) (show m < n by omega)
      have Hx := Lib.hid hx
      clear hlo hhi hx
      go_upto_region 5 with (fail)
      have hmid : ((i : Int) + (j : Int)) / 2 = (m : Int) := by omega
      have Hr2 := Hr.out
      generalize ((i : Int) + (j : Int)) / 2 = z at *
      subst hmid
      clear hm
      have hcm : cmpI x.1 c < 0 ↔ x.1 < c := by
        unfold cmpI
        by_cases h1 : x.1 < c
        · simp [h1]
        · by_cases h2 : c < x.1 <;> simp [h1, h2]
      have Hcm := Lib.hid hcm
      have Hr3 := Lib.hid Hr2
      clear hcm Hr2
      go_wp2_with (go_at_call 113; refine (find1 _ _ _ _).mono ?_; rintro e w2 ⟨rfl, hb2⟩)
      · have hneg : cmpI x.1 c < 0 := by assumption
        have hxc := Hcm.out.1 hneg
        go_roundw
        case rel => exact ⟨m + 1, j, by omega, by omega, by go_num, rfl, fun k y hk hkm => by (by_cases hkm2 : k = m; (subst hkm2; rw [Hx.out] at hk; cases hk; exact hxc); (have := Hr3.out k m y x hk Hx.out (by omega); omega)), Hhi.out, hbel.trans (hb2.mono hbel.size)⟩
        case measure => simp [intOf]; omega
      · have hneg : 0 ≤ cmpI x.1 c := by assumption
        have hxc : ¬ x.1 < c := fun h => by have := Hcm.out.2 h; omega
        go_roundw
        case rel => exact ⟨i, m, by omega, by omega, rfl, rfl, Hlo.out, fun k y hk hkm => by (by_cases hkm2 : k = m; (subst hkm2; rw [Hx.out] at hk; cases hk; omega); (have := Hr3.out m k x y Hx.out hk (by omega); omega)), hbel.trans (hb2.mono hbel.size)⟩
        case measure => simp [intOf]; omega
    · obtain rfl : i = j := by omega
      have Hlo := Lib.hid hlo
      have Hhi := Lib.hid hhi
      clear hlo hhi
      by_cases hin : i < n
      · obtain ⟨b, off, x, rfl, hx, hb, c0, c1⟩ := mk_at (h.all hbel) hin
        have hcm : (cmpI x.1 c == 0) = decide (∃ y : Mk, l[i]? = some y ∧ y.1 = c) := by
          rw [hx, Bool.eq_iff_iff]
          simp [cmpI]
          by_cases h1 : x.1 < c
          · simp [h1]; omega
          · by_cases h2 : c < x.1
            · simp [h1, h2]; omega
            · simp [h1, h2]; omega
        have Hcm := Lib.hid hcm
        clear hx hcm
        go_wp2_with (go_at_call 113; refine (find1 _ _ _ _).mono ?_; rintro e w2 ⟨rfl, hb2⟩)
        go_ret2
        exact ⟨i, by have := Hl.out; omega, Hlo.out, Hhi.out, by rw [← Hcm.out]; rfl, hbel.trans (hb2.mono hbel.size)⟩
      · have hd : decide (∃ y : Mk, l[i]? = some y ∧ y.1 = c) = false := by
          have := Hl.out
          rw [List.getElem?_eq_none (by omega)]
          simp
        have Hd := Lib.hid hd
        clear hd
        go_wp2_with fail
        go_ret2
        exact ⟨i, by have := Hl.out; omega, Hlo.out, Hhi.out, by rw [Hd.out]; rfl, hbel⟩
end Go.Proofs.Ytpbocficffbcbaa
