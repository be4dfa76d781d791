/-
  slices.Sorted(slices.Values(l)) at ints: a new row, the numbers sorted.
-/
import Derived.RangeFuncNested
import Derived.RangeFuncBound
import Derived.RangeFuncCalls
import Derived.RangeFuncLeaves
import Derived.Shelf.Abstract
import Derived.Shelf.RegionOpen
import Derived.WalkKit
import Derived.OwnWalkIn
import Derived.TacticsInMore
import Derived.LoopNIn
import Derived.LoopIn
import Derived.Shelf.Slices.In.SortNone
import Derived.Test.YtpbocficffbcbaaShelfSort
import Derived.Test.YtpbocficffbcbaaDealLaw
import Derived.Test.YtpbocficffbcbaaBackw
namespace Go.Proofs.Ytpbocficffbcbaa
open Go Go.RowKit Go.Shelf Go.Sort
set_option linter.unusedVariables false
attribute [local go_sem] Oper.semAt_some

theorem below_grow (w : World) (os : Array Obj) : Go.RowKit.Below w.heap.size w (grow w os) := ⟨rfl, rfl, rfl, by simp, fun k hk => heap_grow_old _ _ hk⟩

theorem sSort (w : World) (a : Option Addr) (n cap : Nat) (zs : List Int) (h : RowAt w 3 1 a n cap (zs.map (.int .i64))) (hn : n < 1000000) :
    Calls Try.prog 126 #[.slice a n cap] w (fun e w' => e = .returned (.tuple #[]) ∧ RowAt w' 3 1 a n cap ((srt zs).map (.int .i64)) ∧ Upd (blk a) w w') := by
  have hl : zs.length = n := by simpa using h.len
  cases a with
  | none =>
    have hc := h.nil rfl
    have hle := h.le
    obtain rfl : cap = 0 := hc
    obtain rfl : n = 0 := by omega
    obtain rfl : zs = [] := List.eq_nil_of_length_eq_zero hl
    refine (show Calls Try.prog 126 _ w _ from Any.slices_Sort_int_none laySort none 0 w).mono ?_
    rintro e w' ⟨rfl, rfl⟩
    exact ⟨rfl, by simpa [srt] using h, Upd.refl _ _⟩
  | some ad =>
    obtain ⟨hsp, cur, hg, _⟩ := h.row ad rfl
    obtain ⟨b, off, sp⟩ := ad
    simp only at hsp hg
    subst hsp hl
    have hb := obj_lt hg
    have hle := h.le
    refine (show Calls Try.prog 126 _ w _ from Any.slices_Sort_int laySort b off cap zs w h.holds hb (by omega)).mono ?_
    rintro e w' ⟨rfl, q, os, rfl⟩
    have hr := putRow_row (q := q) (m := zs.length) (zs := srt zs) h (by rw [srt_len]; exact Nat.le_refl _) (by rw [srt_len]; exact hle)
    rw [List.take_of_length_le (by rw [srt_len]; exact Nat.le_refl _)] at hr
    have hu := putRow_upd w q b off (srt zs).toArray
    refine ⟨rfl, hr.all (below_grow _ os), ?_⟩
    exact (hu.mono (fun k _ hk => ⟨_, rfl, hk.symm⟩)).trans (Upd.of_below (below_grow _ os) (S := fun _ => False)) (fun _ _ f => f.elim)

abbrev encI (x : Int) : Array Value := #[Value.int .i64 x]
set_option maxRecDepth 100000 in
set_option maxHeartbeats 2000000 in
theorem values1_in (F : Fence) (n : Nat) (h7 : F.fn 127) (hro : F.round = none) (hn : 1 ≤ n) (l Bs n₀ : Nat) (a : Option Addr) (len cap : Nat) (zs : List Int) (hlen : len < 1000000)
    (hb : ∀ ad, a = some ad → 0 < len → ad.block < n₀) (J Jx : List Int → World → Prop)
    (hY : ∀ pre x W, J pre W → pre.length < len → YieldAt F (n - 1) Try.prog l (encI x) W fun e W' =>
      (e = .returned (.bool true) ∧ J (pre ++ [x]) W' ∧ KpB n₀ Bs W W') ∨ (e = .returned (.bool false) ∧ Jx (pre ++ [x]) W'))
    (W : World) (hBs0 : Bs < W.heap.size) (hBs : W.cell? ⟨Bs, 0, none⟩ = some (.slice a len cap)) (hs : SlAt W 1 a len cap (zs.map (.int .i64))) (h0 : J [] W) :
    CallsIn F n Try.prog 127 #[.func (.yield l) #[] #[], .pointer (some ⟨Bs, 0, none⟩)] W fun e W' => (∃ v, e = .returned v) ∧
      ((∃ ys : List Int, ys = zs ∧ J ys W') ∨ (∃ pre, True ∧ Jx pre W')) := by
  have hzl : zs.length = len := by simpa using hs.len
  have hle := hs.le
  have hmx := hs.max
  unfold maxLen at hmx
  refine callsIn_of_wp Try.func127 rfl h7 ?_ hro
  simp only [Try.ntmps127, List.size_toArray, List.length_cons, List.length_nil, Nat.reduceAdd, Nat.reduceSub, Array.replicate_succ, Array.replicate_zero, List.push_toArray, List.append_toArray, List.nil_append, List.cons_append]
  have Hzl := Lib.hid hzl
  clear hzl
  gi_wp2
  gi_loopw [7] (fun i wr => ∃ k : Nat, k ≤ len ∧ i = .int .i64 k ∧ J (zs.take k) wr ∧ KpB n₀ Bs W wr)
    (fun i _ => len - (intOf i).toNat)
  case atStart => exact ⟨0, Nat.zero_le _, rfl, h0, KpB.refl _ _ _⟩
  case round =>
    obtain ⟨k, hk, rfl, hJs, hnx⟩ := hrel
    by_cases hlt : k < len
    · have hsr := hs.below hnx.bel hb
      obtain ⟨b1, o1, rfl, hb1, hc⟩ := hsr.nonempty (by omega)
      have hx := hc k _ (map_int_cell (by have := Hzl.out; omega))
      obtain ⟨x, hxe⟩ : ∃ x, x = zs.getD k 0 := ⟨_, rfl⟩
      rw [← hxe] at hx
      have Hx := Lib.hid (show zs.take k ++ [x] = zs.take (k + 1) by rw [hxe, take_snoc zs k 0 (by have := Hzl.out; omega)])
      obtain ⟨fn, tmps, assign, body, hy, hR⟩ := hY (zs.take k) x wr hJs (by rw [List.length_take]; omega)
      try dsimp only at hy
      clear hc hxe hsr
      gi_wp2
      refine hR.mono ?_
      rintro e W3 (⟨rfl, hJ3, hk3⟩ | ⟨rfl, hJx3⟩)
      · gi_wp2
        go_roundw
        case rel => exact ⟨k + 1, by omega, by simp, by rw [← Hx.out]; exact hJ3, hnx.trans hk3⟩
        case measure => first | (simp [intOf]; done) | (simp [intOf]; omega)
      · gi_wp2
        refine bodyPost_ret (results_none rfl _ _ _) rfl ?_
        exact ⟨⟨_, rfl⟩, .inr ⟨_, trivial, hJx3⟩⟩
    · obtain rfl : k = len := by omega
      have hJ2 : J zs wr := by rwa [List.take_of_length_le (by have := Hzl.out; omega)] at hJs
      gi_wp2
      go_end0
      exact ⟨⟨_, rfl⟩, .inl ⟨_, rfl, hJ2⟩⟩
set_option maxHeartbeats 1000000 in
theorem values_in (F : Fence) (n : Nat) (h5 : F.fn 109) (hro : F.round = none) (a : Option Addr) (len cap : Nat) (w : World) :
    CallsIn F n Try.prog 109 #[.slice a len cap] w fun e w' => e = .returned (.func (.func 127) #[] #[.pointer (some ⟨w.heap.size, 0, none⟩)]) ∧ w' = w.alloc (.cells #[.slice a len cap] 22) := by
  refine callsIn_of_wp Try.func109 rfl h5 ?_ hro
  simp only [Try.ntmps109, List.size_toArray, List.length_cons, List.length_nil, Nat.reduceAdd, Nat.reduceSub, Array.replicate_succ, Array.replicate_zero, List.push_toArray, List.append_toArray, List.nil_append, List.cons_append]
  gi_wp2
  go_ret
  exact ⟨rfl, rfl⟩
theorem values_stops (F : Fence) (n : Nat) (h7 : F.fn 127) (hro : F.round = none) (hn : 1 ≤ n) (Bs n₀ : Nat) (a : Option Addr) (len cap : Nat) (zs : List Int) (hlen : len < 1000000) (w : World)
    (hBs : Bs < w.heap.size) (hn₀ : n₀ ≤ w.heap.size) (hb : ∀ ad, a = some ad → 0 < len → ad.block < n₀) (hc : w.cell? ⟨Bs, 0, none⟩ = some (.slice a len cap)) (hs : SlAt w 1 a len cap (zs.map (.int .i64))) :
    SeqStopsK F n Try.prog 127 #[.pointer (some ⟨Bs, 0, none⟩)] encI (KpB n₀ Bs) (fun ys => ys = zs) (fun _ => True) len w := fun l J Jx W hW _ _ hY h0 =>
  values1_in F n h7 hro hn l Bs n₀ a len cap zs hlen hb J Jx hY W (Nat.lt_of_lt_of_le hBs hW.size) ((hW.cell (p := ⟨Bs, 0, none⟩) hBs).trans hc) (hs.all hW) h0

theorem wpListIn_append_row {F : Fence} {n' : Nat} {P : Program} {w : World} {ops : Array Oper} {rest : List Oper} {o : Oper} {a : Act} {Q : Exit → Act → World → Prop} (hgd : o.guard = none) (s x : Operand) (t : TypeId)
    (ho : o.op = .call { callee := .builtin .append, args := #[s, x], argTypes := #[t, t] }) (e : TypeId) (z : Value) (size bytes : Nat) (ht : P.underlying t = some (.slice e))
    (hinf : (P.info? e).map (fun i => (i.zero, i.size, i.bytes)) = some (some z, size, bytes)) (hzs : z.cells.size = size) (hsz : 0 < size)
    {sa : Option Addr} {n scap : Nat} (hs : a.eval s = .slice sa n scap) {xa : Option Addr} {m c : Nat} (hx : a.eval x = .slice xa m c) {xs : List Value} (hr : RowAt w e size sa n scap xs) {news : List Value} (hxs : SlAt w size xa m c news)
    (h63 : n + m ≤ maxLen) (hbytes : (n + m) * bytes ≤ 140737488355328)
    (h : ∀ a' cap' w', RowAt w' e size a' (n + m) cap' (xs ++ news) → Upd (blk sa) w w' → (∀ ad, a' = some ad → sa = some ad ∨ w.heap.size ≤ ad.block) → (a' = none ↔ sa = none ∧ m = 0) → wpListIn F n' P ops Q rest (a.put o.dst (.slice a' (n + m) cap')) w') : wpListIn F n' P ops Q (o :: rest) a w :=
  wpListIn_plain hgd fun K hK => opIn_append s x t ho e z size bytes ht hinf hzs hsz hs hx hr hxs h63 hbytes (fun a' cap' w' h1 h2 h3 h4 => hK _ _ (h a' cap' w' h1 h2 h3 h4))

/-- Between two rounds. -/
structure InvA (w : World) (pre : List Int) (W : World) : Prop where
  len : pre.length < 1000000
  ex : ∃ oa oc, W.heap[w.heap.size]? = some (.cells #[.slice oa pre.length oc] 22 (0, 0)) ∧ RowAt W 3 1 oa pre.length oc (pre.map (.int .i64)) ∧ (∀ ad, oa = some ad → w.heap.size + 1 ≤ ad.block)
  bel : Go.RowKit.Below w.heap.size w W
  sz : w.heap.size + 1 ≤ W.heap.size
theorem invA_own (w : World) (B : Nat) (hB : w.heap.size + 1 ≤ B) : OwnFrom B (InvA w) := by
  intro s W W' row hs hg hr
  obtain ⟨oa, oc, ho, hrow, hf⟩ := hs.ex
  have hr' : ∀ r, row = some r → ∃ o : Obj, W.heap[r]? = some o ∧ o.isCells = false := fun r e => (hr r e).2
  exact ⟨hs.len, ⟨oa, oc, obj_grown ho hg hr', row_grown hrow hg hr', hf⟩, hs.bel.trans ((Upd.of_grown hg).below (Nat.le_trans (by omega) hs.sz) (fun k hk e => by have := (hr k e).1; omega)), Nat.le_trans hs.sz hg.size⟩
theorem fin_invA {w W W3 : World} {pre : List Int} {x : Int} {n : Nat} {oa a3 : Option Addr} {oc c3 : Nat} {X : Obj} {B Bs : Nat}
    (hBs : Bs < w.heap.size) (hbel : Go.RowKit.Below w.heap.size w W) (hsz : w.heap.size + 1 ≤ W.heap.size) (hlen : pre.length < 1000000) (ho : W.heap[w.heap.size]? = some (.cells #[.slice oa pre.length oc] 22 (0, 0)))
    (hrow : RowAt W 3 1 oa pre.length oc (pre.map (.int .i64))) (hf : ∀ ad, oa = some ad → w.heap.size + 1 ≤ ad.block)
    (hrow3 : RowAt W3 3 1 a3 (pre.length + 1) c3 (pre.map (.int .i64) ++ [.int .i64 x])) (hupd3 : Upd (blk oa) (W.alloc X) W3) (hloc3 : ∀ ad, a3 = some ad → oa = some ad ∨ (W.alloc X).heap.size ≤ ad.block) (hpl : pre.length < n) (hn : n < 100000) :
    (KeepsFrom B W (W3.setCell ⟨w.heap.size, 0, none⟩ (.slice a3 (pre.length + 1) c3)) ∧ KpB w.heap.size Bs W (W3.setCell ⟨w.heap.size, 0, none⟩ (.slice a3 (pre.length + 1) c3)) ∧ InvA w (pre ++ [x]) (W3.setCell ⟨w.heap.size, 0, none⟩ (.slice a3 (pre.length + 1) c3))) ∧
      W3.heap[w.heap.size]? = some (.cells #[.slice oa pre.length oc] 22 (0, 0)) ∧ W3.frozen? ⟨w.heap.size, 0, none⟩ = false := by
  have hu : Upd (blk oa) W W3 := ((Upd.refl _ W).alloc X).trans hupd3 (fun _ _ hb => hb)
  have hnb : ¬ blk oa w.heap.size := by rintro ⟨ad, he, hb⟩; have := hf ad he; omega
  have ho3 := hu.obj ho hnb
  have hu4 : Upd (fun k => blk oa k ∨ k = w.heap.size) W (W3.setCell ⟨w.heap.size, 0, none⟩ (.slice a3 (pre.length + 1) c3)) := (hu.mono (fun _ _ h => .inl h)).setCell _ (fun _ => .inr rfl) _
  have hcells : ∀ k o, (blk oa k ∨ k = w.heap.size) → W.heap[k]? = some o → o.isCells = true := by
    rintro k o (⟨ad, he, rfl⟩ | rfl) hk
    · obtain ⟨_, cur, hg2, _⟩ := hrow.row ad he
      rw [hg2] at hk
      cases hk
      rfl
    · rw [ho] at hk
      cases hk
      rfl
  have h3z : W.heap.size ≤ W3.heap.size := hu.size
  have hf3 : ∀ ad, a3 = some ad → w.heap.size + 1 ≤ ad.block := fun ad he => by
    rcases hloc3 ad he with h1 | h1
    · exact hf ad h1
    · simp at h1; omega
  refine ⟨⟨keepsFrom_upd B hu4 hcells, ⟨hu4.below (by omega) (fun k hk => by rintro (⟨ad, he, rfl⟩ | rfl); (have := hf ad he; omega); omega), hu4.size, fun hb => hu4.block _ hb (by rintro (⟨ad, he, hb2⟩ | hb2); (have := hf ad he; omega); omega)⟩,
    ⟨by simp; omega, ⟨a3, c3, ?_, ?_, hf3⟩, hbel.trans (hu4.below (by omega) (fun k hk => by rintro (⟨ad, he, rfl⟩ | rfl); (have := hf ad he; omega); omega)), by have := hu4.size; omega⟩⟩, ho3, obj_free ho3 0⟩
  · simpa using obj_set ho3 0 (.slice a3 (pre.length + 1) c3)
  · have := hrow3.setCell ⟨w.heap.size, 0, none⟩ (fun ad he => by have := hf3 ad he; simp; omega) (.slice a3 (pre.length + 1) c3)
    simpa using this

set_option maxRecDepth 100000 in
set_option maxHeartbeats 4000000 in
theorem appendSeq (w : World) (Bs : Nat) (hBs : Bs < w.heap.size) (a : Option Addr) (n cap : Nat) (zs : List Int) (hc : w.cell? ⟨Bs, 0, none⟩ = some (.slice a n cap)) (h : SlAt w 1 a n cap (zs.map (.int .i64))) (hn : n < 100000) :
    Calls Try.prog 131 #[.slice none 0 0, .func (.func 127) #[] #[.pointer (some ⟨Bs, 0, none⟩)]] w (fun e w' => ∃ a' c', e = .returned (.slice a' n c') ∧ RowAt w' 3 1 a' n c' (zs.map (.int .i64)) ∧ Fresh w.heap.size a' ∧ Go.RowKit.Below w.heap.size w w') := by
  have hl0 : zs.length = n := by simpa using h.len
  have hl := Lib.hid hl0
  clear hl0
  refine (callsIn_wide (n := 3)).1 ?_
  refine callsIn_of_wp_marks Try.func131 rfl trivial ?_ rfl
  simp only [Try.ntmps131, List.size_toArray, List.length_cons, List.length_nil, Nat.reduceAdd, Nat.reduceSub, Array.replicate_succ, Array.replicate_zero, List.push_toArray, List.append_toArray, List.nil_append, List.cons_append]
  gi_wp2
  have hB0 : Go.RowKit.Below w.heap.size w (w.alloc (.cells #[.slice none 0 0] 22)) := (Below.refl _ w).alloc (Nat.le_refl _) _
  have bO := alloc_new w (.cells #[.slice none 0 0] 22)
  refine wpIn_rangeFunc_ownH rfl (by omega) (gf := 127) (lb := #[.pointer (some ⟨Bs, 0, none⟩)]) rfl trivial (enters_of Try.func127 (by kernel_rfl) rfl)
    (values_stops Fence.wide _ trivial rfl (by omega) Bs w.heap.size a n cap zs (by omega) _ (by simp; omega) (by simp) (fun ad he h0 => h.lt ad he h0) ((World.cell?_of_block (hB0.block Bs hBs)).trans hc) (h.all hB0)) KpB.trans (kpB_b (by simp) (by simp; omega)) (Below.refl _ _) (fun _ => rfl)
    (InvA w) (fun _ _ _ => False) (invA_own w _ (by simp)) (fun _ _ _ _ _ hs _ _ => hs)
    ⟨by simp, ⟨none, 0, bO, RowAt.null _ _ _, fun ad he => by cases he⟩, hB0, by simp⟩
    (fun x a' W => a' = { tmps := #[.slice none 0 0, .func (.func 127) #[] #[.pointer (some ⟨Bs, 0, none⟩)], .pointer (some ⟨w.heap.size, 0, none⟩), undef, .slice none 0 0, .int .i64 x, .func (.func 127) #[] #[.pointer (some ⟨Bs, 0, none⟩)], .int .i64 x, undef, undef, undef, undef, undef], defers := [] })
    (fun x a' _ W W' row hs hg hr => hs) ?assign ?body ?done ?stop
  case assign =>
    intro l' pre x W K hI hK
    gi_wp2
    exact hK _ _ (KeepsFrom.refl _ _) (KpB.refl _ _ _) hI rfl
  case body =>
    rintro l' pre x a' W hl' hloop hI rfl hpl
    obtain ⟨hlen, ⟨oa, oc, ho, hrow, hf⟩, hbel, hsz⟩ := hI
    have c0 := obj_cell ho 0
    have f0 := obj_free ho 0
    simp at c0
    gi_wp2_with (gi_at_builtin; refine wpListIn_append_row rfl (.tmp 8) (.tmp 10) 22 rfl 3 (.int .i64 0) 1 8 Try.underlying22 Try.infoInt rfl (by decide) rfl rfl (hrow.alloc _) (RowAt.lit W #[.int .i64 x] 3 1 1 (by decide) rfl (by simp [Value.oneCell'])).sl (by unfold maxLen; omega) (by omega) ?_; intro a3 c3 W3 hrow3 hupd3 hloc3 hnil3; obtain ⟨hpost, ho3, hf3⟩ := fin_invA hBs hbel hsz hlen ho hrow hf hrow3 hupd3 hloc3 hpl hn; have c3' := obj_cell ho3 0; simp at c3'; have hpost' := Lib.hid hpost; clear hpost)
    exact hpost'.out
  case done =>
    rintro D ys W hD rfl hI hK
    obtain ⟨hlen, ⟨oa, oc, ho, hrow, hf⟩, hbel, hsz⟩ := hI
    have c0 := obj_cell ho 0
    simp at c0
    gi_wp2
    refine ⟨by simp, .inl ⟨_, _, rfl, run_takeDeferred hK, ?_⟩⟩
    have hne : ∀ ad, oa = some ad → w.heap.size ≤ ad.block := fun ad he => by have := hf ad he; omega
    have hr2 := row_grown hrow (grownBy_putObj' W D (.deferred none)) (fun r e => by cases e; exact ⟨_, hK, rfl⟩)
    rw [hl.out] at hr2
    exact ⟨_, results_tmp rfl _ _ _, oa, oc, by rw [← hl.out]; rfl, hr2, hne, hbel.trans (belowK_b (w := w) (Nat.le_refl _) W D _ _ (by simp at hD; omega) hK rfl rfl)⟩
  case stop =>
    rintro D c pre W _ _ h _
    exact h.elim

set_option maxHeartbeats 1000000 in
theorem collectV (w : World) (Bs : Nat) (hBs : Bs < w.heap.size) (a : Option Addr) (n cap : Nat) (zs : List Int) (hc : w.cell? ⟨Bs, 0, none⟩ = some (.slice a n cap)) (h : SlAt w 1 a n cap (zs.map (.int .i64))) (hn : n < 100000) :
    Calls Try.prog 125 #[.func (.func 127) #[] #[.pointer (some ⟨Bs, 0, none⟩)]] w (fun e w' => ∃ a' c', e = .returned (.slice a' n c') ∧ RowAt w' 3 1 a' n c' (zs.map (.int .i64)) ∧ Fresh w.heap.size a' ∧ Go.RowKit.Below w.heap.size w w') := by
  go_enter Try.func125, Try.ntmps125
  go_wp2_with fail
  refine (appendSeq _ Bs hBs _ _ _ zs hc h hn).mono ?_
  rintro e w1 ⟨a1, c1, rfl, hr, hf, hb⟩
  go_wp2_with fail
  go_ret
  exact ⟨a1, c1, rfl, hr, hf, hb⟩
set_option maxHeartbeats 1000000 in
theorem sortedV (w : World) (Bs : Nat) (hBs : Bs < w.heap.size) (a : Option Addr) (n cap : Nat) (zs : List Int) (hc : w.cell? ⟨Bs, 0, none⟩ = some (.slice a n cap)) (h : SlAt w 1 a n cap (zs.map (.int .i64))) (hn : n < 100000) :
    Calls Try.prog 108 #[.func (.func 127) #[] #[.pointer (some ⟨Bs, 0, none⟩)]] w (fun e w' => ∃ a' c', e = .returned (.slice a' n c') ∧ RowAt w' 3 1 a' n c' ((srt zs).map (.int .i64)) ∧ Fresh w.heap.size a' ∧ Go.RowKit.Below w.heap.size w w') := by
  go_enter Try.func108, Try.ntmps108
  go_wp2_with fail
  refine (collectV _ Bs hBs _ _ _ zs hc h hn).mono ?_
  rintro e w1 ⟨a1, c1, rfl, hr, hf, hb⟩
  go_wp2_with fail
  refine (sSort _ _ _ _ zs hr (by omega)).mono ?_
  rintro e w2 ⟨rfl, hr2, hu2⟩
  go_wp2_with fail
  go_ret
  exact ⟨a1, c1, rfl, hr2, hf, hb.trans (hu2.below hb.size (fun k hk ⟨ad, he, hq⟩ => by have := hf ad he; omega))⟩
end Go.Proofs.Ytpbocficffbcbaa
