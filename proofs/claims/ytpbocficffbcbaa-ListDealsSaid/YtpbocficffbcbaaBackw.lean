import Derived.RangeFuncNested
import Derived.RangeFuncBound
import Derived.RangeFuncCalls
import Derived.RangeFuncLeaves
import Derived.Shelf.Abstract
import Derived.Shelf.RegionOpen
import Derived.WalkKit
import Derived.OwnWalkIn
import Derived.TacticsInMore
import Derived.LoopNIn
import Derived.LoopIn
import Derived.Test.YtpbocficffbcbaaEvs2
namespace Go.Proofs.Ytpbocficffbcbaa
open Go Go.RowKit Go.Shelf
set_option linter.unusedVariables false
attribute [local go_sem] Oper.semAt_some

/-- What a round keeps: the blocks below n₀, and the box. -/
structure KpB (n₀ Bs : Nat) (W W' : World) : Prop where
  bel : Below n₀ W W'
  size : W.heap.size ≤ W'.heap.size
  box : Bs < W.heap.size → W'.heap[Bs]? = W.heap[Bs]?
theorem KpB.refl (n₀ Bs : Nat) (W : World) : KpB n₀ Bs W W := ⟨Below.refl _ _, Nat.le_refl _, fun _ => rfl⟩
theorem KpB.trans {n₀ Bs : Nat} {A B C : World} (h : KpB n₀ Bs A B) (k : KpB n₀ Bs B C) : KpB n₀ Bs A C :=
  ⟨h.bel.trans k.bel, Nat.le_trans h.size k.size, fun hb => (k.box (Nat.lt_of_lt_of_le hb h.size)).trans (h.box hb)⟩
theorem kpB_b {n₀ Bs : Nat} {w : World} (hn : n₀ ≤ w.heap.size) (hB : Bs < w.heap.size) (W : World) (l : Nat) (o o' : Obj) (hl : w.heap.size ≤ l) (h : W.heap[l]? = some o) (h1 : o.isCells = false) (h2 : o.isWalk = false) : KpB n₀ Bs W (W.putObj l o') :=
  ⟨belowK_b hn W l o o' hl h h1 h2, by simp, fun _ => World.putObj_heap_other (by omega)⟩

abbrev encE (x : Nat × Ev) : Array Value := #[Value.int .i64 (x.1 : Int), evV x.2]
set_option maxRecDepth 100000 in
set_option maxHeartbeats 2000000 in
theorem back1_in (F : Fence) (n : Nat) (h7 : F.fn 124) (hro : F.round = none) (hn : 1 ≤ n) (l Bs n₀ : Nat) (a : Option Addr) (len cap : Nat) (es : List Ev) (hlen : len < 1000000)
    (hb : ∀ ad, a = some ad → 0 < len → ad.block < n₀) (J Jx : List (Nat × Ev) → World → Prop)
    (hY : ∀ pre x W, J pre W → pre.length < len → YieldAt F (n - 1) Try.prog l (encE x) W fun e W' =>
      (e = .returned (.bool true) ∧ J (pre ++ [x]) W' ∧ KpB n₀ Bs W W') ∨ (e = .returned (.bool false) ∧ Jx (pre ++ [x]) W'))
    (W : World) (hBs0 : Bs < W.heap.size) (hBs : W.cell? ⟨Bs, 0, none⟩ = some (.slice a len cap)) (hs : SlAt W 6 a len cap (evs es)) (h0 : J [] W) :
    CallsIn F n Try.prog 124 #[.func (.yield l) #[] #[], .pointer (some ⟨Bs, 0, none⟩)] W fun e W' => (∃ v, e = .returned v) ∧
      ((∃ ys : List (Nat × Ev), ys.map Prod.snd = es.reverse ∧ J ys W') ∨ (∃ pre, True ∧ Jx pre W')) := by
  have hel := ev_len hs
  refine callsIn_of_wp Try.func124 rfl h7 ?_ hro
  simp only [Try.ntmps124, List.size_toArray, List.length_cons, List.length_nil, Nat.reduceAdd, Nat.reduceSub, Array.replicate_succ, Array.replicate_zero, List.push_toArray, List.append_toArray, List.nil_append, List.cons_append]
  have Hel := Lib.hid hel
  clear hel
  gi_wp2
  gi_loopw [3] (fun i wr => ∃ v0 : Int, i = .int .i64 v0 ∧ -1 ≤ v0 ∧ v0 < len ∧ ∃ pre, pre.map Prod.snd = (es.drop (v0 + 1).toNat).reverse ∧ J pre wr ∧ KpB n₀ Bs W wr)
    (fun i _ => (intOf i + 1).toNat)
  case atStart => exact ⟨len - 1, by simp, by omega, by omega, [], by have := Hel.out; rw [List.drop_of_length_le (by omega)]; rfl, h0, KpB.refl _ _ _⟩
  case round =>
    obtain ⟨v0, rfl, hv0, hv1, pre, hpre, hJs, hnx⟩ := hrel
    by_cases hlt : 0 ≤ v0
    · obtain ⟨j, rfl⟩ : ∃ j : Nat, v0 = j := ⟨v0.toNat, by omega⟩
      have hsr := hs.below hnx.bel hb
      obtain ⟨b1, o1, x, rfl, hx, hb1, ⟨xk, xa, xb, xc, xd, xe⟩⟩ := ev_at hsr (show j < len by omega)
      have hbs' := (World.cell?_of_block (w := W) (a := ⟨Bs, 0, none⟩) (hnx.box hBs0)).trans hBs
      rw [show ((j : Int) + 1).toNat = j + 1 by omega] at hpre
      have hpl : pre.length < len := by
        have := congrArg List.length hpre
        have h2 := Hel.out
        simp at this
        omega
      have hpre2 : (pre ++ [(j, x)]).map Prod.snd = (es.drop j).reverse := by
        obtain ⟨hk, rfl⟩ := List.getElem?_eq_some_iff.1 hx
        rw [List.map_append, hpre, List.drop_eq_getElem_cons hk, List.reverse_cons]
        rfl
      have Hp := Lib.hid hpre2
      clear hpre hpre2 hx
      obtain ⟨fn, tmps, assign, body, hy, hR⟩ := hY pre (j, x) wr hJs hpl
      try dsimp only at hy
      gi_wp2
      refine hR.mono ?_
      rintro e W3 (⟨rfl, hJ3, hk3⟩ | ⟨rfl, hJx3⟩)
      · gi_wp2
        go_roundw
        case rel => exact ⟨(j : Int) - 1, by simp, by omega, by omega, pre ++ [(j, x)], by rw [show ((j : Int) - 1 + 1).toNat = j by omega]; exact Hp.out, hJ3, hnx.trans hk3⟩
        case measure => first | (simp [intOf]; done) | (simp [intOf]; omega)
      · gi_wp2
        refine bodyPost_ret (results_none rfl _ _ _) rfl ?_
        exact ⟨⟨_, rfl⟩, .inr ⟨_, trivial, hJx3⟩⟩
    · obtain rfl : v0 = -1 := by omega
      have Hp := Lib.hid hpre
      clear hpre
      gi_wp2
      go_end0
      exact ⟨⟨_, rfl⟩, .inl ⟨_, Hp.out, hJs⟩⟩
set_option maxHeartbeats 1000000 in
theorem backward_in (F : Fence) (n : Nat) (h5 : F.fn 107) (hro : F.round = none) (a : Option Addr) (len cap : Nat) (w : World) :
    CallsIn F n Try.prog 107 #[.slice a len cap] w fun e w' => e = .returned (.func (.func 124) #[] #[.pointer (some ⟨w.heap.size, 0, none⟩)]) ∧ w' = w.alloc (.cells #[.slice a len cap] 40) := by
  refine callsIn_of_wp Try.func107 rfl h5 ?_ hro
  simp only [Try.ntmps107, List.size_toArray, List.length_cons, List.length_nil, Nat.reduceAdd, Nat.reduceSub, Array.replicate_succ, Array.replicate_zero, List.push_toArray, List.append_toArray, List.nil_append, List.cons_append]
  gi_wp2
  go_ret
  exact ⟨rfl, rfl⟩

theorem back_stops (F : Fence) (n : Nat) (h7 : F.fn 124) (hro : F.round = none) (hn : 1 ≤ n) (Bs n₀ : Nat) (a : Option Addr) (len cap : Nat) (es : List Ev) (hlen : len < 1000000) (w : World)
    (hBs : Bs < w.heap.size) (hn₀ : n₀ ≤ w.heap.size) (hb : ∀ ad, a = some ad → 0 < len → ad.block < n₀) (hc : w.cell? ⟨Bs, 0, none⟩ = some (.slice a len cap)) (hs : SlAt w 6 a len cap (evs es)) :
    SeqStopsK F n Try.prog 124 #[.pointer (some ⟨Bs, 0, none⟩)] encE (KpB n₀ Bs) (fun ys => ys.map Prod.snd = es.reverse) (fun _ => True) len w := fun l J Jx W hW _ _ hY h0 =>
  back1_in F n h7 hro hn l Bs n₀ a len cap es hlen hb J Jx hY W (Nat.lt_of_lt_of_le hBs hW.size) ((hW.cell (p := ⟨Bs, 0, none⟩) hBs).trans hc) (hs.all hW) h0

theorem want_none {o : Oper} {y : Nat → Option Bool} (hg : o.guard = none) {A B : Prop} (h : A) : if Region.wanted o y = true then A else B := by
  simp only [Region.wanted, hg, if_true]
  exact h
theorem opIn_append {F : Fence} {n' : Nat} {P : Program} {w : World} {o : Oper} {a : Act} {K : Act → World → Prop} {Q : Exit → Act → World → Prop} (s x : Operand) (t : TypeId)
    (ho : o.op = .call { callee := .builtin .append, args := #[s, x], argTypes := #[t, t] }) (e : TypeId) (z : Value) (size bytes : Nat) (ht : P.underlying t = some (.slice e))
    (hinf : (P.info? e).map (fun i => (i.zero, i.size, i.bytes)) = some (some z, size, bytes)) (hzs : z.cells.size = size) (hsz : 0 < size)
    {sa : Option Addr} {n scap : Nat} (hs : a.eval s = .slice sa n scap) {xa : Option Addr} {m c : Nat} (hx : a.eval x = .slice xa m c) {xs : List Value} (hr : RowAt w e size sa n scap xs) {news : List Value} (hxs : SlAt w size xa m c news)
    (h63 : n + m ≤ maxLen) (hbytes : (n + m) * bytes ≤ 140737488355328)
    (h : ∀ a' cap' w', RowAt w' e size a' (n + m) cap' (xs ++ news) → Upd (blk sa) w w' → (∀ ad, a' = some ad → sa = some ad ∨ w.heap.size ≤ ad.block) → (a' = none ↔ sa = none ∧ m = 0) → K (a.put o.dst (.slice a' (n + m) cap')) w') : o.wpIn F n' P a w K Q := by
  obtain ⟨a', cap', w', hrun, h1, h2, h3, h4⟩ := run_append_rs (P := P) w t o.type e z size bytes ht hinf hzs hsz sa n scap xs hr xa m c news hxs h63 hbytes
  unfold Oper.wpIn
  refine ⟨?_, ?_⟩
  · simp [Oper.about, ho, resolve, Target.leads, Sem.run_pure]
  · rw [Oper.semAt_plain F _ _ (by rw [ho]; intro c hc'; cases hc')]
    simp [execOp, ho, resolve, invoke, builtin, hs, hx, hrun, Result.andThen]
    exact h a' cap' w' h1 h2 h3 h4

/-! ### the caller -/
theorem keepsFrom_upd {S : Nat → Prop} {W W' : World} (B : Nat) (h : Upd S W W') (hS : ∀ k o, S k → W.heap[k]? = some o → o.isCells = true) : KeepsFrom B W W' :=
  ⟨h.size, fun k o _ hk ho => (h.block k (obj_lt hk) (fun hs => by rw [hS k o hs hk] at ho; cases ho)).trans hk⟩

/-- Between two rounds. -/
structure InvI (w : World) (pre : List (Nat × Ev)) (W : World) : Prop where
  len : pre.length < 1000000
  ex : ∃ oa oc, W.heap[w.heap.size]? = some (.cells #[.slice oa pre.length oc] 40 (0, 0)) ∧ RowAt W 64 6 oa pre.length oc (evs (pre.map fun x => inv x.2)) ∧ (∀ ad, oa = some ad → w.heap.size + 2 ≤ ad.block)
  bel : Below w.heap.size w W
  sz : w.heap.size + 2 ≤ W.heap.size

theorem row_grown {W W' : World} {row : Option Nat} {e : TypeId} {sz n cap : Nat} {a : Option Addr} {xs : List Value} (h : RowAt W e sz a n cap xs) (hg : W.grownBy W' row) (hr : ∀ r, row = some r → ∃ o : Obj, W.heap[r]? = some o ∧ o.isCells = false) : RowAt W' e sz a n cap xs :=
  h.upd (Upd.of_grown hg) (fun ad he hrow => by
    obtain ⟨o, ho, hc⟩ := hr _ hrow
    obtain ⟨_, cur, hg2, _⟩ := h.row ad he
    rw [hg2] at ho
    cases ho
    cases hc)
theorem obj_grown {W W' : World} {row : Option Nat} {k : Nat} {cs : Array Value} {t : TypeId} {fr : Nat × Nat} (h : W.heap[k]? = some (.cells cs t fr)) (hg : W.grownBy W' row) (hr : ∀ r, row = some r → ∃ o : Obj, W.heap[r]? = some o ∧ o.isCells = false) : W'.heap[k]? = some (.cells cs t fr) :=
  (Upd.of_grown hg).obj h (fun hrow => by
    obtain ⟨o, ho, hc⟩ := hr _ hrow
    rw [h] at ho
    cases ho
    cases hc)
theorem invI_own (w : World) (B : Nat) (hB : w.heap.size + 2 ≤ B) : OwnFrom B (InvI w) := by
  intro s W W' row hs hg hr
  obtain ⟨oa, oc, ho, hrow, hf⟩ := hs.ex
  have hr' : ∀ r, row = some r → ∃ o : Obj, W.heap[r]? = some o ∧ o.isCells = false := fun r e => (hr r e).2
  exact ⟨hs.len, ⟨oa, oc, obj_grown ho hg hr', row_grown hrow hg hr', hf⟩, hs.bel.trans ((Upd.of_grown hg).below (Nat.le_trans (by omega) hs.sz) (fun k hk e => by have := (hr k e).1; omega)), Nat.le_trans hs.sz hg.size⟩

theorem fin_inv {w W w2 W3 : World} {pre : List (Nat × Ev)} {x : Nat × Ev} {n : Nat} {oa a3 : Option Addr} {oc c3 : Nat} {X : Obj} {B : Nat}
    (hbel : Below w.heap.size w W) (hsz : w.heap.size + 2 ≤ W.heap.size) (hlen : pre.length < 1000000) (ho : W.heap[w.heap.size]? = some (.cells #[.slice oa pre.length oc] 40 (0, 0)))
    (hrow : RowAt W 64 6 oa pre.length oc (evs (pre.map fun x => inv x.2))) (hf : ∀ ad, oa = some ad → w.heap.size + 2 ≤ ad.block) (hb2 : Below W.drew.heap.size W.drew w2)
    (hrow3 : RowAt W3 64 6 a3 (pre.length + 1) c3 (evs (pre.map fun x => inv x.2) ++ evC (inv x.2))) (hupd3 : Upd (blk oa) (w2.alloc X) W3) (hloc3 : ∀ ad, a3 = some ad → oa = some ad ∨ (w2.alloc X).heap.size ≤ ad.block) (hpl : pre.length < n) (hn : n < 100000) :
    (KeepsFrom B W (W3.setCell ⟨w.heap.size, 0, none⟩ (.slice a3 (pre.length + 1) c3)) ∧ KpB w.heap.size (w.heap.size + 1) W (W3.setCell ⟨w.heap.size, 0, none⟩ (.slice a3 (pre.length + 1) c3)) ∧ InvI w (pre ++ [x]) (W3.setCell ⟨w.heap.size, 0, none⟩ (.slice a3 (pre.length + 1) c3))) ∧
      W3.heap[w.heap.size]? = some (.cells #[.slice oa pre.length oc] 40 (0, 0)) ∧ W3.frozen? ⟨w.heap.size, 0, none⟩ = false := by
  have hz2 : W.heap.size ≤ w2.heap.size := hb2.size
  have hu : Upd (blk oa) W W3 := ((Upd.of_below (undrew (w := W) hb2)).alloc X).trans hupd3 (fun _ _ hb => hb)
  have hnb : ¬ blk oa w.heap.size := by rintro ⟨ad, he, hb⟩; have := hf ad he; omega
  have ho3 := hu.obj ho hnb
  have hu4 : Upd (fun k => blk oa k ∨ k = w.heap.size) W (W3.setCell ⟨w.heap.size, 0, none⟩ (.slice a3 (pre.length + 1) c3)) := (hu.mono (fun _ _ h => .inl h)).setCell _ (fun _ => .inr rfl) _
  have hcells : ∀ k o, (blk oa k ∨ k = w.heap.size) → W.heap[k]? = some o → o.isCells = true := by
    rintro k o (⟨ad, he, rfl⟩ | rfl) hk
    · obtain ⟨_, cur, hg2, _⟩ := hrow.row ad he
      rw [hg2] at hk
      cases hk
      rfl
    · rw [ho] at hk
      cases hk
      rfl
  have h3z : W.heap.size ≤ W3.heap.size := hu.size
  have hf3 : ∀ ad, a3 = some ad → w.heap.size + 2 ≤ ad.block := fun ad he => by
    rcases hloc3 ad he with h1 | h1
    · exact hf ad h1
    · simp at h1; omega
  refine ⟨⟨keepsFrom_upd B hu4 hcells, ⟨hu4.below (by omega) (fun k hk => by rintro (⟨ad, he, rfl⟩ | rfl); (have := hf ad he; omega); omega), hu4.size, fun hb => hu4.block _ hb (by rintro (⟨ad, he, hb2⟩ | hb2); (have := hf ad he; omega); omega)⟩,
    ⟨by simp; omega, ⟨a3, c3, ?_, ?_, hf3⟩, hbel.trans (hu4.below (by omega) (fun k hk => by rintro (⟨ad, he, rfl⟩ | rfl); (have := hf ad he; omega); omega)), by have := hu4.size; omega⟩⟩, ho3, obj_free ho3 0⟩
  · simpa using obj_set ho3 0 (.slice a3 (pre.length + 1) c3)
  · have := hrow3.setCell ⟨w.heap.size, 0, none⟩ (fun ad he => by have := hf3 ad he; simp; omega) (.slice a3 (pre.length + 1) c3)
    simpa [evs] using this

set_option maxRecDepth 100000 in
set_option maxHeartbeats 4000000 in
theorem inverts (w : World) (a : Option Addr) (n cap : Nat) (l : List Ev) (h : SlAt w 6 a n cap (evs l)) (hn : n < 100000) :
    Calls Try.prog 76 #[.slice a n cap] w (NewEvs w (invs l)) := by
  have hl := Lib.hid (ev_len h)
  refine (callsIn_wide (n := 3)).1 ?_
  refine callsIn_of_wp_marks Try.func76 rfl trivial ?_ rfl
  simp only [Try.ntmps76, List.size_toArray, List.length_cons, List.length_nil, Nat.reduceAdd, Nat.reduceSub, Array.replicate_succ, Array.replicate_zero, List.push_toArray, List.append_toArray, List.nil_append, List.cons_append]
  gi_wp2_with (refine ⟨trivial, ?_⟩; gi_at_call 107; refine (backward_in Fence.wide _ trivial rfl _ _ _ _).mono ?_; rintro e w' ⟨rfl, rfl⟩)
  have hB0 : Below w.heap.size w ((w.alloc (.cells #[.slice none 0 0] 40)).alloc (.cells #[.slice a n cap] 40)) := ((Below.refl _ w).alloc (Nat.le_refl _) _).alloc (by simp) _
  have bN := alloc_new (w.alloc (.cells #[.slice none 0 0] 40)) (.cells #[.slice a n cap] 40)
  have bO := alloc_obj (x := .cells #[.slice a n cap] 40) (alloc_new w (.cells #[.slice none 0 0] 40))
  rw [World.size_alloc] at bN
  refine wpIn_rangeFunc_ownH rfl (by omega) (gf := 124) (lb := #[.pointer (some ⟨w.heap.size + 1, 0, none⟩)]) rfl trivial (enters_of Try.func124 (by kernel_rfl) rfl)
    (back_stops Fence.wide _ trivial rfl (by omega) (w.heap.size + 1) w.heap.size a n cap l (by omega) _ (by simp) (by simp; omega) (fun ad he h0 => h.lt ad he h0) (obj_cell bN 0) (h.all hB0)) KpB.trans (kpB_b (by simp; omega) (by simp)) (Below.refl _ _) (fun _ => rfl)
    (InvI w) (fun _ _ _ => False) (invI_own w _ (by simp)) (fun _ _ _ _ _ hs _ _ => hs)
    ⟨by simp, ⟨none, 0, bO, RowAt.null _ _ _, fun ad he => by cases he⟩, hB0, by simp⟩
    (fun x a' W => ∃ be, a' = { tmps := #[.slice a n cap, undef, .slice none 0 0, .pointer (some ⟨w.heap.size, 0, none⟩), undef, .pointer (some ⟨be, 0, none⟩), .slice a n cap, .func (.func 124) #[] #[.pointer (some ⟨w.heap.size + 1, 0, none⟩)], .int .i64 (x.1 : Int), evV x.2, undef, undef, undef, undef, undef, undef], defers := [] } ∧ W.heap[be]? = some (.cells (evA x.2) 64 (0, 0)) ∧ w.heap.size + 2 ≤ be)
    (fun x a' _ W W' row hs hg hr => by
      obtain ⟨be, h1, h2, h3⟩ := hs
      exact ⟨be, h1, obj_grown h2 hg (fun r e => (hr r e).2), h3⟩) ?assign ?body ?done ?stop
  case assign =>
    intro l' pre x W K hI hK
    obtain ⟨hlen, ⟨oa, oc, ho, hrow, hf⟩, hbel, hsz⟩ := hI
    gi_wp2
    refine hK _ _ ((KeepsOthers.alloc _ _).from _) ⟨(Below.refl _ _).alloc (by omega) _, by simp, fun hb => Below.heap_alloc _ _ _ hb⟩ ⟨hlen, ⟨oa, oc, alloc_obj ho, hrow.alloc _, hf⟩, hbel.alloc (by omega) _, by simp; omega⟩ ⟨W.heap.size, rfl, alloc_new W _, hsz⟩
  case body =>
    rintro l' pre x a' W hl' hloop hI ⟨be, rfl, hbe, hbe2⟩ hpl
    have hmx : Try.prog.follows .mixedOrders = true := by kernel_rfl
    have hd : 1 ≤ 3 - 1 - 1 := by omega
    obtain ⟨hlen, ⟨oa, oc, ho, hrow, hf⟩, hbel, hsz⟩ := hI
    have c0 := obj_cell ho 0
    have f0 := obj_free ho 0
    have e0 := obj_cell hbe 0
    have e1 := obj_cell hbe 1
    have e2 := obj_cell hbe 2
    have e3 := obj_cell hbe 3
    have e4 := obj_cell hbe 4
    have e5 := obj_cell hbe 5
    simp at c0 e0 e1 e2 e3 e4 e5
    gi_wp2
    refine wpIn_region_any hmx ?_
    change wpAnyIn _ _ _ _ _ _ _ _ _ (World.drew _)
    refine wpAnyIn_ready (rs := [0, 1]) (by kernel_rfl) (by simp) ?_
    refine AllReadyIn.cons rfl (fun K hK => ?_) (AllReadyIn.cons rfl (fun K hK => ?_) AllReadyIn.nil)
    · go_simp
      refine hK _ _ ?_
      clear hK K
      refine wpAnyIn_ready (rs := [1]) (by kernel_rfl) (by simp) ?_
      refine AllReadyIn.cons rfl (fun K hK => ?_) AllReadyIn.nil
      go_simp
      refine hK _ _ ?_
      clear hK K
      refine wpAnyIn_ready (rs := [2]) (by kernel_rfl) (by simp) ?_
      refine AllReadyIn.cons rfl (fun K hK => ?_) AllReadyIn.nil
      go_simp
      refine ⟨trivial, ?_⟩
      refine (CallsIn.inRound l' (callsIn_wide.2 (invert _ x.2))).mono ?_
      rintro e w2 ⟨rfl, hb2⟩
      dsimp only
      refine hK _ _ ?_
      clear hK K
      have hz2 : W.heap.size ≤ w2.heap.size := hb2.size
      have hlt2 : w.heap.size < w2.heap.size := by omega
      have ho2 := below_obj hb2 (show W.drew.heap[w.heap.size]? = _ from ho) (by have := obj_lt ho; exact this)
      have hrow2 := hrow.drew.all hb2
      have c2 := obj_cell ho2 0
      simp at c2
      refine wpAnyIn_ready (rs := [3]) (by kernel_rfl) (by simp) ?_
      refine AllReadyIn.cons rfl (fun K hK => ?_) AllReadyIn.nil
      go_simp
      refine hK _ _ ?_
      clear hK K
      refine wpAnyIn_ready (rs := [4]) (by kernel_rfl) (by simp) ?_
      refine AllReadyIn.cons rfl (fun K hK => ?_) AllReadyIn.nil
      refine want_none rfl ?_
      refine opIn_append (.tmp 10) (.tmp 13) 40 rfl 64 (.agg #[.int .i64 0, .int .i64 0, .int .i64 0, .int .i64 0, .int .i64 0, .int .i64 0]) 6 48 Try.underlying40 Try.infoEv rfl (by decide) rfl rfl (hrow2.alloc _) (RowAt.lit w2 (evA (inv x.2)) 64 6 1 (by decide) rfl (by simp [Value.oneCell'])).sl (by unfold maxLen; omega) (by omega) ?_
      intro a3 c3 W3 hrow3 hupd3 hloc3 hnil3
      refine hK _ _ ?_
      clear hK K
      obtain ⟨hpost, ho3, hf3⟩ := fin_inv hbel hsz hlen ho hrow hf hb2 hrow3 hupd3 hloc3 hpl hn
      have c3' := obj_cell ho3 0
      simp at c3'
      have hpost' := Lib.hid hpost
      clear hpost
      refine wpAnyIn_ready (rs := [5]) (by kernel_rfl) (by simp) ?_
      refine AllReadyIn.cons rfl (fun K hK => ?_) AllReadyIn.nil
      go_simp
      refine hK _ _ ?_
      clear hK K
      refine wpAnyIn_done (by kernel_rfl) ?_ _
      exact hpost'.out
    · go_simp
      refine hK _ _ ?_
      clear hK K
      refine wpAnyIn_ready (rs := [0, 2]) (by kernel_rfl) (by simp) ?_
      refine AllReadyIn.cons rfl (fun K hK => ?_) (AllReadyIn.cons rfl (fun K hK => ?_) AllReadyIn.nil)
      · go_simp
        refine hK _ _ ?_
        clear hK K
        refine wpAnyIn_ready (rs := [2]) (by kernel_rfl) (by simp) ?_
        refine AllReadyIn.cons rfl (fun K hK => ?_) AllReadyIn.nil
        go_simp
        refine ⟨trivial, ?_⟩
        refine (CallsIn.inRound l' (callsIn_wide.2 (invert _ x.2))).mono ?_
        rintro e w2 ⟨rfl, hb2⟩
        dsimp only
        refine hK _ _ ?_
        clear hK K
        have hz2 : W.heap.size ≤ w2.heap.size := hb2.size
        have hlt2 : w.heap.size < w2.heap.size := by omega
        have ho2 := below_obj hb2 (show W.drew.heap[w.heap.size]? = _ from ho) (by have := obj_lt ho; exact this)
        have hrow2 := hrow.drew.all hb2
        have c2 := obj_cell ho2 0
        simp at c2
        refine wpAnyIn_ready (rs := [3]) (by kernel_rfl) (by simp) ?_
        refine AllReadyIn.cons rfl (fun K hK => ?_) AllReadyIn.nil
        go_simp
        refine hK _ _ ?_
        clear hK K
        refine wpAnyIn_ready (rs := [4]) (by kernel_rfl) (by simp) ?_
        refine AllReadyIn.cons rfl (fun K hK => ?_) AllReadyIn.nil
        refine want_none rfl ?_
        refine opIn_append (.tmp 10) (.tmp 13) 40 rfl 64 (.agg #[.int .i64 0, .int .i64 0, .int .i64 0, .int .i64 0, .int .i64 0, .int .i64 0]) 6 48 Try.underlying40 Try.infoEv rfl (by decide) rfl rfl (hrow2.alloc _) (RowAt.lit w2 (evA (inv x.2)) 64 6 1 (by decide) rfl (by simp [Value.oneCell'])).sl (by unfold maxLen; omega) (by omega) ?_
        intro a3 c3 W3 hrow3 hupd3 hloc3 hnil3
        refine hK _ _ ?_
        clear hK K
        obtain ⟨hpost, ho3, hf3⟩ := fin_inv hbel hsz hlen ho hrow hf hb2 hrow3 hupd3 hloc3 hpl hn
        have c3' := obj_cell ho3 0
        simp at c3'
        have hpost' := Lib.hid hpost
        clear hpost
        refine wpAnyIn_ready (rs := [5]) (by kernel_rfl) (by simp) ?_
        refine AllReadyIn.cons rfl (fun K hK => ?_) AllReadyIn.nil
        go_simp
        refine hK _ _ ?_
        clear hK K
        refine wpAnyIn_done (by kernel_rfl) ?_ _
        exact hpost'.out
      · go_simp
        refine ⟨trivial, ?_⟩
        refine (CallsIn.inRound l' (callsIn_wide.2 (invert _ x.2))).mono ?_
        rintro e w2 ⟨rfl, hb2⟩
        dsimp only
        refine hK _ _ ?_
        clear hK K
        have hz2 : W.heap.size ≤ w2.heap.size := hb2.size
        have hlt2 : w.heap.size < w2.heap.size := by omega
        have ho2 := below_obj hb2 (show W.drew.heap[w.heap.size]? = _ from ho) (by have := obj_lt ho; exact this)
        have hrow2 := hrow.drew.all hb2
        have c2 := obj_cell ho2 0
        simp at c2
        refine wpAnyIn_ready (rs := [0, 3]) (by kernel_rfl) (by simp) ?_
        refine AllReadyIn.cons rfl (fun K hK => ?_) (AllReadyIn.cons rfl (fun K hK => ?_) AllReadyIn.nil)
        · go_simp
          refine hK _ _ ?_
          clear hK K
          refine wpAnyIn_ready (rs := [3]) (by kernel_rfl) (by simp) ?_
          refine AllReadyIn.cons rfl (fun K hK => ?_) AllReadyIn.nil
          go_simp
          refine hK _ _ ?_
          clear hK K
          refine wpAnyIn_ready (rs := [4]) (by kernel_rfl) (by simp) ?_
          refine AllReadyIn.cons rfl (fun K hK => ?_) AllReadyIn.nil
          refine want_none rfl ?_
          refine opIn_append (.tmp 10) (.tmp 13) 40 rfl 64 (.agg #[.int .i64 0, .int .i64 0, .int .i64 0, .int .i64 0, .int .i64 0, .int .i64 0]) 6 48 Try.underlying40 Try.infoEv rfl (by decide) rfl rfl (hrow2.alloc _) (RowAt.lit w2 (evA (inv x.2)) 64 6 1 (by decide) rfl (by simp [Value.oneCell'])).sl (by unfold maxLen; omega) (by omega) ?_
          intro a3 c3 W3 hrow3 hupd3 hloc3 hnil3
          refine hK _ _ ?_
          clear hK K
          obtain ⟨hpost, ho3, hf3⟩ := fin_inv hbel hsz hlen ho hrow hf hb2 hrow3 hupd3 hloc3 hpl hn
          have c3' := obj_cell ho3 0
          simp at c3'
          have hpost' := Lib.hid hpost
          clear hpost
          refine wpAnyIn_ready (rs := [5]) (by kernel_rfl) (by simp) ?_
          refine AllReadyIn.cons rfl (fun K hK => ?_) AllReadyIn.nil
          go_simp
          refine hK _ _ ?_
          clear hK K
          refine wpAnyIn_done (by kernel_rfl) ?_ _
          exact hpost'.out
        · go_simp
          refine hK _ _ ?_
          clear hK K
          refine wpAnyIn_ready (rs := [0]) (by kernel_rfl) (by simp) ?_
          refine AllReadyIn.cons rfl (fun K hK => ?_) AllReadyIn.nil
          go_simp
          refine hK _ _ ?_
          clear hK K
          refine wpAnyIn_ready (rs := [4]) (by kernel_rfl) (by simp) ?_
          refine AllReadyIn.cons rfl (fun K hK => ?_) AllReadyIn.nil
          refine want_none rfl ?_
          refine opIn_append (.tmp 10) (.tmp 13) 40 rfl 64 (.agg #[.int .i64 0, .int .i64 0, .int .i64 0, .int .i64 0, .int .i64 0, .int .i64 0]) 6 48 Try.underlying40 Try.infoEv rfl (by decide) rfl rfl (hrow2.alloc _) (RowAt.lit w2 (evA (inv x.2)) 64 6 1 (by decide) rfl (by simp [Value.oneCell'])).sl (by unfold maxLen; omega) (by omega) ?_
          intro a3 c3 W3 hrow3 hupd3 hloc3 hnil3
          refine hK _ _ ?_
          clear hK K
          obtain ⟨hpost, ho3, hf3⟩ := fin_inv hbel hsz hlen ho hrow hf hb2 hrow3 hupd3 hloc3 hpl hn
          have c3' := obj_cell ho3 0
          simp at c3'
          have hpost' := Lib.hid hpost
          clear hpost
          refine wpAnyIn_ready (rs := [5]) (by kernel_rfl) (by simp) ?_
          refine AllReadyIn.cons rfl (fun K hK => ?_) AllReadyIn.nil
          go_simp
          refine hK _ _ ?_
          clear hK K
          refine wpAnyIn_done (by kernel_rfl) ?_ _
          exact hpost'.out
  case done =>
    rintro D ys W hD hys hI hK
    obtain ⟨hlen, ⟨oa, oc, ho, hrow, hf⟩, hbel, hsz⟩ := hI
    have c0 := obj_cell ho 0
    simp at c0
    gi_wp2
    refine ⟨by simp, .inl ⟨_, _, rfl, run_takeDeferred hK, ?_⟩⟩
    have hli : (invs l).length = ys.length := by rw [invs_len, ← List.length_reverse, ← hys, List.length_map]
    have hmi : ys.map (fun x => inv x.2) = invs l := by unfold invs; rw [← hys, List.map_map]; rfl
    have hne : ∀ ad, oa = some ad → w.heap.size ≤ ad.block := fun ad he => by have := hf ad he; omega
    rw [hmi] at hrow
    have hr2 := row_grown hrow (grownBy_putObj' W D (.deferred none)) (fun r e => by cases e; exact ⟨_, hK, rfl⟩)
    exact ⟨_, results_tmp rfl _ _ _, oa, oc, by rw [hli]; rfl, by rw [hli]; exact hr2, hne, hbel.trans (belowK_b (w := w) (Nat.le_refl _) W D _ _ (by simp at hD; omega) hK rfl rfl)⟩
  case stop =>
    rintro D c pre W _ _ h _
    exact h.elim
end Go.Proofs.Ytpbocficffbcbaa
