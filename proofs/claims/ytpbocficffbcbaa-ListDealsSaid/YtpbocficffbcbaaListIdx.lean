import Derived.Test.YtpbocficffbcbaaList3
import Derived.Test.YtpbocficffbcbaaMap
import Derived.Deep.DeepCutAuto
namespace Go.Proofs.Ytpbocficffbcbaa
open Go Go.RowKit Go.Shelf
set_option linter.unusedVariables false

/-- The first place of a number. -/
def idx (zs : List Int) (x : Int) : Int := Lib.idxOf zs x
theorem idx_hit (zs : List Int) (k : Nat) (hk : k < zs.length) (x : Int) (h : zs.getD k 0 = x) (hne : ∀ j, j < k → zs.getD j 0 ≠ x) : idx zs x = k := by
  have := Lib.idxOf_hit zs zs.length k x hk (Nat.le_refl _) h hne
  rwa [List.take_length] at this
theorem idx_miss (zs : List Int) (x : Int) (h : ∀ j, j < zs.length → zs.getD j 0 ≠ x) : idx zs x = -1 := by
  have := Lib.idxOf_miss zs zs.length x h
  rwa [List.take_length] at this

theorem indexOf (w : World) (a : Option Addr) (n cap : Nat) (zs : List Int) (h : SlAt w 1 a n cap (zs.map (.int .i64))) (x : Int) :
    Calls Try.prog 84 #[.slice a n cap, .int .i64 x] w (fun e w' => e = .returned (.int .i64 (idx zs x)) ∧ w = w') := by
  have hl := nil_of_len h
  have hm := h.max
  have hle := h.le
  unfold maxLen at hm
  rcases Nat.eq_zero_or_pos n with h0 | h0
  · subst h0
    obtain rfl : zs = [] := List.eq_nil_of_length_eq_zero hl
    exact (show Calls Try.prog 84 _ w _ from Any.slices_Index_int_empty layIndex a cap x w).mono (fun e w' ⟨h1, h2⟩ => ⟨h1, h2.symm⟩)
  · obtain ⟨b, off, rfl, hb, hc⟩ := h.nonempty h0
    refine (show Calls Try.prog 84 _ w _ from Any.slices_Index_int layIndex b off n cap zs x w (by omega) (by omega) (fun j hj => hc j _ (map_int_cell hj))).mono ?_
    rintro e w' ⟨rfl, rfl⟩
    rw [List.take_of_length_le (by omega)]
    exact ⟨rfl, rfl⟩
set_option maxHeartbeats 400000 in
theorem listIndex (w : World) (a : Option Addr) (n cap : Nat) (zs : List Int) (h : SlAt w 1 a n cap (zs.map (.int .i64))) (x : Int) :
    Calls Try.prog 26 #[.slice a n cap, .int .i64 x] w (fun e w' => e = .returned (.int .i64 (idx zs x)) ∧ w = w') := by
  go_enter Try.func26, Try.ntmps26
  go_wp2_with fail
  refine (indexOf _ _ _ _ zs h x).mono ?_
  rintro e w' ⟨rfl, rfl⟩
  go_wp2_with fail
  go_ret
  exact ⟨rfl, rfl⟩

set_option maxHeartbeats 400000 in
theorem refIndex (w : World) (a : Option Addr) (n cap : Nat) (zs : List Int) (h : SlAt w 1 a n cap (zs.map (.int .i64))) (x : Int) :
    Calls Try.prog 27 #[.slice a n cap, .int .i64 x] w (fun e w' => e = .returned (.int .i64 (idx zs x)) ∧ w = w') := by
  have hl := nil_of_len h
  have hm := h.max
  have hle := h.le
  unfold maxLen at hm
  go_enter Try.func27, Try.ntmps27
  go_wp2_with fail
  go_loop [5] (fun i => ∃ k : Nat, k ≤ n ∧ i = .int .i64 k ∧ ∀ j, j < k → zs.getD j 0 ≠ x) (fun i => n - (intOf i).toNat)
  case atStart => exact ⟨0, Nat.zero_le _, rfl, fun j hj => absurd hj (Nat.not_lt_zero _)⟩
  case round =>
    obtain ⟨k, hk, rfl, hne⟩ := hrel
    by_cases hlt : k < n
    · obtain ⟨b, off, rfl, hb, hc⟩ := h.nonempty (by omega)
      have hx := hc k _ (map_int_cell (by omega))
      have hit := Lib.hid (fun e : zs.getD k 0 = x => idx_hit zs k (by omega) x e hne)
      have Hne := Lib.hid (fun e : ¬ zs.getD k 0 = x => (fun j (hj : j < k + 1) => (by
        by_cases hjk : j = k
        · rw [hjk]; exact e
        · exact hne j (by omega) : zs.getD j 0 ≠ x)))
      have Hl := Lib.hid hl
      clear hc hne hl
      generalize zs.getD k 0 = z at *
      by_cases hz : z = x
      · have Hit := hit.out hz
        have HH := Lib.hid Hit
        subst hz
        clear Hit hit
        go_wp2_with fail
        go_ret
        exact ⟨by rw [HH.out]; rfl, rfl⟩
      · have hzb : (z == x) = false := by simp [hz]
        have HN := Lib.hid (Hne.out hz)
        clear hit Hne
        go_wp2_with fail
        go_round
        case rel => exact ⟨k + 1, by omega, by go_num, HN.out⟩
        case measure => simp [intOf]; omega
    · obtain rfl : k = n := by omega
      have HH := Lib.hid (idx_miss zs x (fun j hj => hne j (by omega)))
      clear hne hl
      go_wp2_with fail
      go_ret
      exact ⟨by rw [HH.out]; rfl, rfl⟩

theorem nodup_snoc (zs : List Int) (k : Nat) (hk : k < zs.length) : (zs.take (k + 1)).Nodup ↔ (zs.take k).Nodup ∧ zs.getD k 0 ∉ zs.take k := by
  rw [take_snoc zs k 0 hk, List.nodup_append]
  constructor
  · rintro ⟨h1, _, h3⟩
    exact ⟨h1, fun hm => h3 _ hm _ (by simp) rfl⟩
  · rintro ⟨h1, h2⟩
    refine ⟨h1, by simp, fun a ha b hb e => ?_⟩
    simp at hb
    subst hb
    subst e
    exact h2 ha
theorem nodup_take {zs : List Int} (k : Nat) (h : zs.Nodup) : (zs.take k).Nodup := h.sublist (List.take_sublist k zs)
theorem mem_take_iff (zs : List Int) (k : Nat) (x : Int) (hk : k ≤ zs.length) : x ∈ zs.take k ↔ ∃ j, j < k ∧ zs.getD j 0 = x := by
  rw [List.mem_take_iff_getElem]
  constructor
  · rintro ⟨j, hj, e⟩
    exact ⟨j, by omega, by rw [← e]; simp [show j < zs.length by omega]⟩
  · rintro ⟨j, hj, e⟩
    exact ⟨j, by omega, by rw [← e]; simp [show j < zs.length by omega]⟩
theorem idx_new (zs : List Int) (k : Nat) (hk : k < zs.length) : idx zs (zs.getD k 0) = k ↔ zs.getD k 0 ∉ zs.take k := by
  rw [mem_take_iff _ _ _ (by omega)]
  constructor
  · intro h hm
    obtain ⟨j, hj, e⟩ := hm
    obtain ⟨i, hi, he, hn⟩ : ∃ i, i ≤ j ∧ zs.getD i 0 = zs.getD k 0 ∧ ∀ l, l < i → zs.getD l 0 ≠ zs.getD k 0 := by
      clear h
      induction j using Nat.strongRecOn with
      | _ j ih =>
        by_cases hx : ∃ l, l < j ∧ zs.getD l 0 = zs.getD k 0
        · obtain ⟨l, hl, hl2⟩ := hx
          obtain ⟨i, h1, h2, h3⟩ := ih l hl (by omega) hl2
          exact ⟨i, by omega, h2, h3⟩
        · exact ⟨j, Nat.le_refl _, e, fun l hl h2 => hx ⟨l, hl, h2⟩⟩
    have := idx_hit zs i (by omega) (zs.getD k 0) he hn
    rw [this] at h
    omega
  · intro h
    exact idx_hit zs k hk _ rfl (fun j hj e => h ⟨j, hj, e⟩)

set_option maxRecDepth 100000 in
set_option maxHeartbeats 400000 in
theorem refOnce (w : World) (a : Option Addr) (n cap : Nat) (zs : List Int) (h : SlAt w 1 a n cap (zs.map (.int .i64))) :
    Calls Try.prog 29 #[.slice a n cap] w (fun e w' => e = .returned (.bool (decide zs.Nodup)) ∧ w = w') := by
  have hl := nil_of_len h
  have hm := h.max
  have hle := h.le
  unfold maxLen at hm
  go_enter Try.func29, Try.ntmps29
  go_wp2_with fail
  go_loop [6] (fun i => ∃ k : Nat, k ≤ n ∧ i = .int .i64 k ∧ (zs.take k).Nodup) (fun i => n - (intOf i).toNat)
  case atStart => exact ⟨0, Nat.zero_le _, rfl, by simp⟩
  case round =>
    obtain ⟨k, hk, rfl, hnd⟩ := hrel
    by_cases hlt : k < n
    · obtain ⟨b, off, rfl, hb, hc⟩ := h.nonempty (by omega)
      have hx := hc k _ (map_int_cell (by omega))
      have hsn := nodup_snoc zs k (by omega)
      have hid := idx_new zs k (by omega)
      have h1 := Lib.hid (fun e : idx zs (zs.getD k 0) = k => hsn.2 ⟨hnd, hid.1 e⟩)
      have h2 := Lib.hid (fun e : ¬ idx zs (zs.getD k 0) = k => (by
        rw [decide_eq_false_iff_not]
        exact fun hz => e (hid.2 (hsn.1 (nodup_take (k + 1) hz)).2) : decide zs.Nodup = false))
      have Hl := Lib.hid hl
      clear hc hnd hsn hid hl
      generalize zs.getD k 0 = z at *
      go_wp2_with fail
      refine (refIndex _ _ _ _ zs h z).mono ?_
      rintro e w' ⟨rfl, rfl⟩
      generalize idx zs z = y at *
      by_cases hz : y = k
      · have H1 := Lib.hid (h1.out hz)
        subst hz
        clear h1 h2
        go_wp2_with fail
        go_round
        case rel => exact ⟨k + 1, by omega, by go_num, H1.out⟩
        case measure => simp [intOf]; omega
      · have H2 := Lib.hid (h2.out hz)
        have hzb : (y != (k : Int)) = true := by simp [hz]
        clear h1 h2 hz
        go_wp2_with fail
        go_ret
        exact ⟨by rw [H2.out]; rfl, rfl⟩
    · obtain rfl : k = n := by omega
      rw [List.take_of_length_le (by omega)] at hnd
      have H := Lib.hid (show decide zs.Nodup = true by simpa using hnd)
      clear hnd hl
      go_wp2_with fail
      go_ret
      exact ⟨by rw [H.out]; rfl, rfl⟩

abbrev unitV (_ : Unit) : Value := .agg #[]
abbrev intV (x : Int) : Value := .int .i64 x
theorem keyInt : KeyLaw Try.prog 3 intV := keyLaw_int Try.underlying3
theorem look_unit {w : World} {r : Nat} {m : List (Int × Unit)} (hm : MapIs w r intV unitV m) (x : Int) :
    (Instr.lookup 117 (.map (some r)) (.int .i64 x) true).run Try.prog w = .ok (.tuple #[.agg #[], .bool (has m x)]) w := by
  have h := run_lookup_ok_is keyInt Try.underlying117 hm (z := .agg #[]) (fun w => by kernel_rfl) x
  refine h.trans ?_
  cases fnd x m 0 <;> rfl
def OnceR (w : World) (r : Nat) (zs : List Int) (k : Nat) (wr : World) : Prop :=
  ∃ m, MapIs wr r intV unitV m ∧ (∀ x, has m x = decide (x ∈ zs.take k)) ∧ (zs.take k).Nodup ∧ Below w.heap.size w wr

set_option maxRecDepth 100000 in
set_option maxHeartbeats 800000 in
theorem listOnce (w : World) (a : Option Addr) (n cap : Nat) (zs : List Int) (h : SlAt w 1 a n cap (zs.map (.int .i64))) :
    Calls Try.prog 28 #[.slice a n cap] w (fun e w' => e = .returned (.bool (decide zs.Nodup)) ∧ Below w.heap.size w w') := by
  have hl := nil_of_len h
  have hm := h.max
  have hle := h.le
  unfold maxLen at hm
  have hmm := @run_makeMap Try.prog
  have hst : OnceR w w.heap.size zs 0 (w.alloc (.map #[] 0)) := ⟨[], alloc_new w _, by simp [has, fnd], by simp, (Below.refl _ _).alloc (Nat.le_refl _) _⟩
  have Hst := Lib.hid hst
  clear hst
  go_enter Try.func28, Try.ntmps28
  go_wp2_with fail
  go_loopw [11] (fun i wr => ∃ k : Nat, k ≤ n ∧ i = .int .i64 k ∧ OnceR w w.heap.size zs k wr) (fun i _ => n - (intOf i).toNat)
  case atStart => exact ⟨0, Nat.zero_le _, rfl, Hst.out⟩
  case round =>
    obtain ⟨k, hk, rfl, m, hmap, hhas, hnd, hbel⟩ := hrel
    by_cases hlt : k < n
    · obtain ⟨b, off, rfl, hb, hc⟩ := h.nonempty (by omega)
      have hx : wr.cell? ⟨b, off + k, none⟩ = _ := (World.cell?_of_block (hbel.block b hb)).trans (hc k _ (map_int_cell (by omega)))
      have hsn := nodup_snoc zs k (by omega)
      have htk := take_snoc zs k 0 (show k < zs.length by omega)
      have hlk := look_unit hmap (zs.getD k 0)
      rw [hhas] at hlk
      obtain ⟨w2, hU, hu2, hd2, hm2⟩ := run_mapUpdate_is keyInt Try.underlying117 (show MapIs (wr.alloc (.cells #[] 118)) w.heap.size intV unitV m from alloc_obj hmap) (zs.getD k 0) ()
      by_cases hin : zs.getD k 0 ∈ zs.take k
      · have hdec : decide (zs.getD k 0 ∈ zs.take k) = true := by simpa using hin
        rw [hdec] at hlk
        have H := Lib.hid (show decide zs.Nodup = false by rw [decide_eq_false_iff_not]; exact fun hz => (hsn.1 (nodup_take (k + 1) hz)).2 hin)
        have Hb := Lib.hid (hbel.alloc hbel.size (.cells #[] 118))
        generalize zs.getD k 0 = z at *
        clear hc hnd hsn htk hhas hU hu2 hd2 hm2 hin hdec hl hmap
        go_wp2_with fail
        go_ret
        exact ⟨by rw [H.out]; rfl, Hb.out⟩
      · have hdec : decide (zs.getD k 0 ∈ zs.take k) = false := by simpa using hin
        rw [hdec] at hlk
        have hR : OnceR w w.heap.size zs (k + 1) w2 := by
          refine ⟨_, hm2, fun x => ?_, hsn.2 ⟨hnd, hin⟩, (hbel.alloc hbel.size _).trans (hu2.below (by have := hbel.size; simp; omega) (fun i hi e => by omega))⟩
          rw [has_put, hhas, htk]
          simp [Bool.or_comm]
        have HR := Lib.hid hR
        generalize zs.getD k 0 = z at *
        clear hc hnd hsn htk hhas hu2 hd2 hm2 hin hdec hl hmap hR
        go_wp2_with fail
        go_roundw
        case rel => exact ⟨k + 1, by omega, by go_num, HR.out⟩
        case measure => simp [intOf]; omega
    · obtain rfl : k = n := by omega
      rw [List.take_of_length_le (by omega)] at hnd
      have H := Lib.hid (show decide zs.Nodup = true by simpa using hnd)
      clear hnd hl hhas hmap
      go_wp2_with fail
      go_ret
      exact ⟨by rw [H.out]; rfl, hbel⟩
end Go.Proofs.Ytpbocficffbcbaa
