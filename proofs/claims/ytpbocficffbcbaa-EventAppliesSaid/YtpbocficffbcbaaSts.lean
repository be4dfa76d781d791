import Derived.Test.YtpbocficffbcbaaEqI
import Derived.Test.YtpbocficffbcbaaState4
import Derived.Test.YtpbocficffbcbaaDoS
namespace Go.Proofs.Ytpbocficffbcbaa
open Go Go.RowKit
set_option linter.unusedVariables false

theorem lists_get {cs : Array Value} (hs : cs.size = 37) (j : Nat) (hj : j < 11) : ((cs.extract 1 (1 + 11)).toList.toArray)[j]? = cs[1 + j]? := by
  simp only [Array.toArray_toList, Array.getElem?_extract]
  rw [if_pos (by omega)]
theorem run_index_ls (w : World) (ls : Array Value) (j : Nat) (hj : j < 11) (v : Value) (hv : ls[j]? = some v) : (Instr.index 74 (.agg ls) (.int .i64 j)).run Try.prog w = .ok v w := by
  have h1 : Try.prog.cellsOf 22 = 1 := by kernel_rfl
  have hi : (Try.prog.info? 22).map (·.size) = some 1 := by kernel_rfl
  cases hq : Try.prog.info? 22 with
  | none => simp [hq] at hi
  | some i =>
    have hs : i.size = 1 := by simpa [hq] using hi
    simp [Instr.index, asIntOf, Sem.run_bind, run_underlying Try.underlying74 w, sizeOf, typeInfo, hq, hs, part, isAgg, hv]
    intro hh
    omega

/-- Is a state larger than is looked at? -/
def longB (s : St) (most : Nat) : Bool := decide (most < s.o.length) || (List.range 11).any (fun i => decide (most + 10 < (s.l.getD i []).length))
theorem longB_fits {s : St} {most : Nat} (ok : StOk s) (h : longB s most = false) : Fits s (most + 10) := by
  simp only [longB, Bool.or_eq_false_iff, decide_eq_false_iff_not, List.any_eq_false, List.mem_range, decide_eq_true_eq, Nat.not_lt] at h
  refine ⟨by omega, fun i => ?_⟩
  by_cases hi : i < 11
  · exact h.2 i hi
  · rw [show s.l.getD i [] = [] by simp [List.getD, List.getElem?_eq_none (show s.l.length ≤ i by rw [ok.l]; omega)]]
    simp
theorem longB_true {s : St} {most k : Nat} (hk : k < 11) (h : most + 10 < (s.l.getD k []).length) : longB s most = true := by
  simp only [longB, Bool.or_eq_true, List.any_eq_true, List.mem_range, decide_eq_true_eq]
  exact .inr ⟨k, hk, h⟩
theorem longB_false {s : St} {most : Nat} (h0 : s.o.length ≤ most) (h : ∀ k, k < 11 → (s.l.getD k []).length ≤ most + 10) : longB s most = false := by
  simp only [longB, Bool.or_eq_false_iff, decide_eq_false_iff_not, List.any_eq_false, List.mem_range, decide_eq_true_eq, Nat.not_lt]
  exact ⟨h0, h⟩

set_option maxRecDepth 100000 in
set_option maxHeartbeats 800000 in
theorem long (w : World) (cs : Array Value) (s : St) (h : StC w cs s) (most : Nat) (hm : most ≤ 1000) (r : Bool) (hr : r = longB s most) :
    Calls Try.prog 55 #[.agg cs, .int .i64 most] w (fun e w' => e = .returned (.bool r) ∧ Below w.heap.size w w') := by
  have hsz := h.size
  have b0 : Below w.heap.size w (w.alloc (.cells cs 79)) := ((Below.refl _ w).alloc (Nat.le_refl _) _)
  have ob := alloc_new w (.cells cs 79)
  obtain ⟨a0, c0, e0, r0⟩ := h.sl 0 (by decide)
  have k0 : (w.alloc (.cells cs 79)).cell? ⟨w.heap.size, 0, none⟩ = some (.slice a0 s.o.length c0) := (obj_cell ob 0).trans e0
  have hl0 := r0.le
  have hm0 := r0.max
  unfold maxLen at hm0
  change s.o.length ≤ c0 at hl0
  have hR := World.rangeAt_of_block ob 1 11
  have hls := lists_get hsz
  have hx : ∀ j, j < 11 → ∃ a c, ((cs.extract 1 (1 + 11)).toList.toArray)[j]? = some (.slice a (s.l.getD j []).length c) ∧ (s.l.getD j []).length ≤ c ∧ c ≤ 9223372036854775807 := fun j hj => by
    obtain ⟨a, c, h1, h2⟩ := h.sl (1 + j) (by omega)
    have hn : lenOf s (1 + j) = (s.l.getD j []).length := by simp [lenOf, Nat.add_sub_cancel_left]
    rw [hn] at h1 h2
    exact ⟨a, c, (hls j hj).trans h1, h2.le, h2.max⟩
  have hll : (cs.extract 1 (1 + 11)).toList.length = 11 := by simp; omega
  generalize (cs.extract 1 (1 + 11)).toList = ls at hR hx hll
  have Hr := Lib.hid hr
  have HR := Lib.hid hR
  have Hx := Lib.hid hx
  have Hll := Lib.hid hll
  have B0 := Lib.hid b0
  obtain ⟨n, hn⟩ : ∃ n, n = s.o.length := ⟨_, rfl⟩
  rw [← hn] at k0 hl0
  have Hn := Lib.hid hn
  clear hr hR hx hll b0 ob hls h r0 e0 hn
  go_enter Try.func55, Try.ntmps55
  by_cases hlt : most < n
  · go_wp2_with fail
    go_ret
    exact ⟨ret_bool (by rw [Hr.out]; simp [longB]; have := Hn.out; omega), B0.out⟩
  · have hge : n ≤ most := by omega
    clear hlt
    go_wp2_with (refine wpList_load_mid rfl 74 (.tmp 12) rfl w.heap.size 1 rfl ls _ HR.out Try.underlying74 rfl (by rw [Hll.out]; kernel_rfl) ?_)
    go_loop [14] (fun i => ∃ k : Nat, k ≤ 11 ∧ i = .int .i64 k ∧ ∀ j, j < k → (s.l.getD j []).length ≤ most + 10) (fun i => 11 - (intOf i).toNat)
    case atStart => exact ⟨0, by omega, rfl, fun j hj => absurd hj (Nat.not_lt_zero _)⟩
    case round =>
      obtain ⟨k, hk, rfl, hrel⟩ := hrel
      have Hrel := Lib.hid hrel
      clear hrel
      by_cases hlt : k < 11
      · obtain ⟨a, c, h1, h2, h3⟩ := Hx.out k hlt
        have q := fun w => run_index_ls w _ k hlt _ h1
        obtain ⟨m, hm⟩ : ∃ m, m = (s.l.getD k []).length := ⟨_, rfl⟩
        rw [← hm] at h2 q
        have Hm := Lib.hid hm
        clear hm h1
        by_cases hbig : most + 10 < m
        · go_wp2_with fail
          go_ret
          exact ⟨ret_bool (by rw [Hr.out]; exact (longB_true hlt (by have := Hm.out; omega)).symm), B0.out⟩
        · go_wp2_with fail
          go_round
          case rel => exact ⟨k + 1, by omega, by go_num, fun j hj => by
            by_cases hjk : j = k
            · subst hjk; have := Hm.out; omega
            · exact Hrel.out j (by omega)⟩
          case measure => simp [intOf]; omega
      · obtain rfl : k = 11 := by omega
        go_wp2_with fail
        go_ret
        exact ⟨ret_bool (by rw [Hr.out]; exact (longB_false (by have := Hn.out; omega) Hrel.out).symm), B0.out⟩
end Go.Proofs.Ytpbocficffbcbaa
