/-
  EventBack: what was done is undone by the event, undone, undone twice it is the event, and its bytes tell it: the law, at every input. No condition.
-/
import Derived.Test.YtpbocficffbcbaaEqI
import Derived.Test.YtpbocficffbcbaaDoS
import Derived.Test.YtpbocficffbcbaaState4
import Derived.Test.YtpbocficffbcbaaInts
import Derived.Test.YtpbocficffbcbaaDoAll
import Derived.Test.YtpbocficffbcbaaRefB
import Derived.Test.YtpbocficffbcbaaRefO
import Derived.Test.YtpbocficffbcbaaRefU
import Derived.Test.YtpbocficffbcbaaRefV
import Derived.Test.YtpbocficffbcbaaAlive12
import Derived.Test.YtpbocficffbcbaaParse
import Derived.Test.YtpbocficffbcbaaTakeP
import Derived.Test.YtpbocficffbcbaaRows
import Derived.Test.YtpbocficffbcbaaFrame
import Derived.Test.YtpbocficffbcbaaOpen
import Derived.Test.YtpbocficffbcbaaOpenS
import Derived.Test.YtpbocficffbcbaaEvOpen2
namespace Go.Proofs.Ytpbocficffbcbaa
open Go Go.RowKit
set_option linter.unusedVariables false

theorem wpList_load_midG {P : Program} {ops : Array Oper} {rest : List Oper} {op : Oper} {a : Act} {w : World} {Q : Exit → Act → World → Prop} (hw : Region.wanted op (yielded ops a.tmps) = true) (ty : TypeId) (x : Operand) (ho : op.op = .load ty x)
    (b o : Nat) (hx : a.eval x = .pointer (some ⟨b, o, none⟩)) (cs : List Value) (d : TypeDesc) (hc : w.rangeAt b o cs)
    (hu : P.underlying ty = some d) (hd : d.isRow = true) (hi : (P.info? ty).map (·.size) = some cs.length)
    (h : wpList P ops Q rest (a.put op.dst (.agg cs.toArray)) w) : wpList P ops Q (op :: rest) a w :=
  wpList_step fun K hK => by
    rw [if_pos hw]
    exact wp_load_mid ty x ho b o hx cs d hc hu hd hi (hK _ _ h)

/-- The same state? -/
def stEq (a b : St) : Bool := decide (a.o = b.o) && (decide (a.p = b.p) && decide (a.l = b.l))
theorem stEq_iff {a b : St} : stEq a b = true ↔ a = b := by
  obtain ⟨o, l, p⟩ := a
  obtain ⟨o', l', p'⟩ := b
  simp only [stEq, Bool.and_eq_true, decide_eq_true_eq, St.mk.injEq]
  constructor
  · rintro ⟨h1, h2, h3⟩
    exact ⟨h1, h3, h2⟩
  · rintro ⟨h1, h2, h3⟩
    exact ⟨h1, h3, h2⟩
theorem stEq_self (a : St) : stEq a a = true := stEq_iff.2 rfl
theorem p_split {p q : List Int} (hp : p.length = 25) (hq : q.length = 25) : p = q ↔ p.take 18 = q.take 18 ∧ p.drop 18 = q.drop 18 := by
  constructor
  · rintro rfl
    exact ⟨rfl, rfl⟩
  · rintro ⟨h1, h2⟩
    rw [← List.take_append_drop 18 p, ← List.take_append_drop 18 q, h1, h2]
theorem range_num {w : World} {cs : Array Value} {s : St} (h : StC w cs s) (hp : s.p.length = 25) {b : Nat} {fr : Nat × Nat} {t : TypeId} (hb : w.heap[b]? = some (.cells cs t fr)) (o k : Nat) (hok : o + k ≤ 25) : w.rangeAt b (12 + o) (objC ((s.p.drop o).take k)) := fun j v hv => by
  rw [cell_of_row w b _ cs t fr hb]
  have hj : j < k := by
    have := (List.getElem?_eq_some_iff.1 hv).1
    simp [objC] at this
    omega
  rw [show 12 + o + j = 12 + (o + j) by omega, h.num (o + j) (by omega), ← hv]
  simp [objC, hj, List.getElem?_drop, List.getD, show o + j < s.p.length by omega]

set_option maxRecDepth 100000 in
set_option maxHeartbeats 1600000 in
theorem states (w : World) (ca cb : Array Value) (sa sb : St) (ha : StC w ca sa) (hb : StC w cb sb) (oka : StOk sa) (okb : StOk sb) (r : Bool) (hr : r = stEq sa sb) :
    Calls Try.prog 59 #[.agg ca, .agg cb] w (fun x w' => x = .returned (.bool r) ∧ Below w.heap.size w w') := by
  have b0 : Below w.heap.size w ((w.alloc (.cells ca 79)).alloc (.cells cb 79)) := ((Below.refl _ w).alloc (Nat.le_refl _) _).alloc (by simp) _
  have oa := alloc_obj (x := .cells cb 79) (alloc_new w (.cells ca 79))
  have ob := alloc_new (w.alloc (.cells ca 79)) (.cells cb 79)
  rw [World.size_alloc] at ob
  have ha1 := ha.all b0
  have hb1 := hb.all b0
  obtain ⟨a0, c0, e0, r0⟩ := ha1.sl 0 (by decide)
  obtain ⟨a1, c1, e1, r1⟩ := hb1.sl 0 (by decide)
  have k0 : ((w.alloc (.cells ca 79)).alloc (.cells cb 79)).cell? ⟨w.heap.size, 0, none⟩ = some (.slice a0 sa.o.length c0) := (obj_cell oa 0).trans e0
  have k1 : ((w.alloc (.cells ca 79)).alloc (.cells cb 79)).cell? ⟨w.heap.size + 1, 0, none⟩ = some (.slice a1 sb.o.length c1) := (obj_cell ob 0).trans e1
  have q1 : ∀ w, (binOp .neq 76 (.agg (objC ((sa.p.drop 0).take 18)).toArray) (.agg (objC ((sb.p.drop 0).take 18)).toArray)).run Try.prog w = .ok (.bool (decide (sa.p.take 18 ≠ sb.p.take 18))) w := fun w => play_neq w _ _ (by simp [oka.p]) (by simp [okb.p])
  have q2 : ∀ w, (binOp .neq 77 (.agg (objC ((sa.p.drop 18).take 7)).toArray) (.agg (objC ((sb.p.drop 18).take 7)).toArray)).run Try.prog w = .ok (.bool (decide (sa.p.drop 18 ≠ sb.p.drop 18))) w := fun w => by
    rw [List.take_of_length_le (by simp [oka.p]), List.take_of_length_le (by simp [okb.p])]
    exact game_neq w _ _ (by simp [oka.p]) (by simp [okb.p])
  have ra1 := range_num ha1 oka.p oa 0 18 (by decide)
  have rb1 := range_num hb1 okb.p ob 0 18 (by decide)
  have ra2 := range_num ha1 oka.p oa 18 7 (by decide)
  have rb2 := range_num hb1 okb.p ob 18 7 (by decide)
  have la1 : (objC ((sa.p.drop 0).take 18)).length = 18 := by simp [objC, oka.p]
  have lb1 : (objC ((sb.p.drop 0).take 18)).length = 18 := by simp [objC, okb.p]
  have la2 : (objC ((sa.p.drop 18).take 7)).length = 7 := by simp [objC, oka.p]
  have lb2 : (objC ((sb.p.drop 18).take 7)).length = 7 := by simp [objC, okb.p]
  have hps := p_split oka.p okb.p
  generalize objC ((sa.p.drop 0).take 18) = za1 at *
  generalize objC ((sb.p.drop 0).take 18) = zb1 at *
  generalize objC ((sa.p.drop 18).take 7) = za2 at *
  generalize objC ((sb.p.drop 18).take 7) = zb2 at *
  have Ra1 := Lib.hid ra1
  have Rb1 := Lib.hid rb1
  have Ra2 := Lib.hid ra2
  have Rb2 := Lib.hid rb2
  have La1 := Lib.hid la1
  have Lb1 := Lib.hid lb1
  have La2 := Lib.hid la2
  have Lb2 := Lib.hid lb2
  have Hps := Lib.hid hps
  have Hr := Lib.hid hr
  have Oka := Lib.hid oka
  have Okb := Lib.hid okb
  have B0 := Lib.hid b0
  have hz1 : w.heap.size + 2 = ((w.alloc (.cells ca 79)).alloc (.cells cb 79)).heap.size := by simp
  have HA := Lib.hid (fun (x : World) (hb : Below ((w.alloc (.cells ca 79)).alloc (.cells cb 79)).heap.size ((w.alloc (.cells ca 79)).alloc (.cells cb 79)) x) => (⟨below_obj hb oa (by omega), ha1.all hb⟩ : x.heap[w.heap.size]? = some (.cells ca 79 (0, 0)) ∧ StC x ca sa))
  have HB := Lib.hid (fun (x : World) (hb : Below ((w.alloc (.cells ca 79)).alloc (.cells cb 79)).heap.size ((w.alloc (.cells ca 79)).alloc (.cells cb 79)) x) => (⟨below_obj hb ob (by omega), hb1.all hb⟩ : x.heap[w.heap.size + 1]? = some (.cells cb 79 (0, 0)) ∧ StC x cb sb))
  have hx : Below ((w.alloc (.cells ca 79)).alloc (.cells cb 79)).heap.size ((w.alloc (.cells ca 79)).alloc (.cells cb 79)) ((w.alloc (.cells ca 79)).alloc (.cells cb 79)) := Below.refl _ _
  have hc0 := r0.le
  have hm0 := r0.max
  have hm1 := r1.max
  have hc1 := r1.le
  unfold maxLen at hm0 hm1
  change sa.o.length ≤ c0 at hc0
  change sb.o.length ≤ c1 at hc1
  obtain ⟨n, hn⟩ : ∃ n, n = sa.o.length := ⟨_, rfl⟩
  obtain ⟨m, hm⟩ : ∃ m, m = sb.o.length := ⟨_, rfl⟩
  rw [← hn] at k0 hc0
  rw [← hm] at k1 hc1
  have Hn := Lib.hid hn
  have Hm := Lib.hid hm
  have Q1 := Lib.hid q1
  have Q2 := Lib.hid q2
  have Hz1 := Lib.hid hz1
  clear ra1 rb1 ra2 rb2 la1 lb1 la2 lb2 hps hr oka okb b0 oa ob ha1 hb1 r0 r1 e0 e1 hn hm q1 q2 ha hb hz1
  go_enter Try.func59, Try.ntmps59
  by_cases hnm : n = m
  rotate_left
  · have hne : (n != m) = true := by simp [hnm]
    have hne2 : ((n : Int) != (m : Int)) = true := by simp; omega
    have Hf := Lib.hid (show r = false by rw [Hr.out, Bool.eq_false_iff]; intro h; rw [stEq_iff] at h; have h1 := Hn.out; have h2 := Hm.out; rw [h] at h1; omega)
    clear hnm
    go_wp2_with fail
    go_ret
    exact ⟨ret_bool Hf.out.symm, B0.out⟩
  subst hnm
  by_cases hp1 : sa.p.take 18 = sb.p.take 18
  rotate_left
  · have q1 : ∀ w, (binOp .neq 76 (.agg za1.toArray) (.agg zb1.toArray)).run Try.prog w = .ok (.bool true) w := fun w => (Q1.out w).trans (by simp [hp1])
    have Hf := Lib.hid (show r = false by rw [Hr.out, Bool.eq_false_iff]; intro h; rw [stEq_iff] at h; exact hp1 (by rw [h]))
    clear hp1
    go_wp2_with (first | (refine wpList_load_midG rfl 76 (.tmp 15) rfl w.heap.size 12 rfl za1 _ Ra1.out Try.underlying76 rfl (by rw [La1.out]; kernel_rfl) ?_) | (refine wpList_load_midG rfl 76 (.tmp 17) rfl (w.heap.size + 1) 12 rfl zb1 _ Rb1.out Try.underlying76 rfl (by rw [Lb1.out]; kernel_rfl) ?_) | (refine wpList_load_midG rfl 77 (.tmp 22) rfl w.heap.size 30 rfl za2 _ Ra2.out Try.underlying77 rfl (by rw [La2.out]; kernel_rfl) ?_) | (refine wpList_load_midG rfl 77 (.tmp 24) rfl (w.heap.size + 1) 30 rfl zb2 _ Rb2.out Try.underlying77 rfl (by rw [Lb2.out]; kernel_rfl) ?_))
    go_ret
    exact ⟨ret_bool Hf.out.symm, B0.out⟩
  have q1 : ∀ w, (binOp .neq 76 (.agg za1.toArray) (.agg zb1.toArray)).run Try.prog w = .ok (.bool false) w := fun w => (Q1.out w).trans (by simp [hp1])
  have Hp1 := Lib.hid hp1
  clear hp1
  by_cases hp2 : sa.p.drop 18 = sb.p.drop 18
  rotate_left
  · have q2 : ∀ w, (binOp .neq 77 (.agg za2.toArray) (.agg zb2.toArray)).run Try.prog w = .ok (.bool true) w := fun w => (Q2.out w).trans (by simp [hp2])
    have Hf := Lib.hid (show r = false by rw [Hr.out, Bool.eq_false_iff]; intro h; rw [stEq_iff] at h; exact hp2 (by rw [h]))
    clear hp2
    go_wp2_with (first | (refine wpList_load_midG rfl 76 (.tmp 15) rfl w.heap.size 12 rfl za1 _ Ra1.out Try.underlying76 rfl (by rw [La1.out]; kernel_rfl) ?_) | (refine wpList_load_midG rfl 76 (.tmp 17) rfl (w.heap.size + 1) 12 rfl zb1 _ Rb1.out Try.underlying76 rfl (by rw [Lb1.out]; kernel_rfl) ?_) | (refine wpList_load_midG rfl 77 (.tmp 22) rfl w.heap.size 30 rfl za2 _ Ra2.out Try.underlying77 rfl (by rw [La2.out]; kernel_rfl) ?_) | (refine wpList_load_midG rfl 77 (.tmp 24) rfl (w.heap.size + 1) 30 rfl zb2 _ Rb2.out Try.underlying77 rfl (by rw [Lb2.out]; kernel_rfl) ?_))
    go_ret
    exact ⟨ret_bool Hf.out.symm, B0.out⟩
  have q2 : ∀ w, (binOp .neq 77 (.agg za2.toArray) (.agg zb2.toArray)).run Try.prog w = .ok (.bool false) w := fun w => (Q2.out w).trans (by simp [hp2])
  have Hp := Lib.hid (Hps.out.2 ⟨Hp1.out, hp2⟩)
  clear hp2
  go_wp2_with (first | (refine wpList_load_midG rfl 76 (.tmp 15) rfl w.heap.size 12 rfl za1 _ Ra1.out Try.underlying76 rfl (by rw [La1.out]; kernel_rfl) ?_) | (refine wpList_load_midG rfl 76 (.tmp 17) rfl (w.heap.size + 1) 12 rfl zb1 _ Rb1.out Try.underlying76 rfl (by rw [Lb1.out]; kernel_rfl) ?_) | (refine wpList_load_midG rfl 77 (.tmp 22) rfl w.heap.size 30 rfl za2 _ Ra2.out Try.underlying77 rfl (by rw [La2.out]; kernel_rfl) ?_) | (refine wpList_load_midG rfl 77 (.tmp 24) rfl (w.heap.size + 1) 30 rfl zb2 _ Rb2.out Try.underlying77 rfl (by rw [Lb2.out]; kernel_rfl) ?_))
  clear q1 q2 k0 k1
  generalize ((w.alloc (.cells ca 79)).alloc (.cells cb 79)) = w1 at *
  go_loopw [31] (fun i wr => ∃ j : Nat, j ≤ n ∧ i = .int .i64 j ∧ Below w1.heap.size w1 wr ∧ sa.o.take j = sb.o.take j) (fun i _ => n - (intOf i).toNat)
  case atStart => exact ⟨0, Nat.zero_le _, rfl, hx, by simp⟩
  case round =>
    obtain ⟨j, hj, rfl, hxr, heq⟩ := hrel
    have Heq := Lib.hid heq
    clear heq hx
    by_cases hlt : j < n
    · obtain ⟨oa, ha⟩ := HA.out wr hxr
      obtain ⟨ob, hb⟩ := HB.out wr hxr
      obtain ⟨a0, c0', e0, r0⟩ := ha.sl 0 (by decide)
      obtain ⟨a1, c1', e1, r1⟩ := hb.sl 0 (by decide)
      change SlAt wr 18 a0 sa.o.length c0' (objs sa.o) at r0
      change SlAt wr 18 a1 sb.o.length c1' (objs sb.o) at r1
      have k0 : wr.cell? ⟨w.heap.size, 0, none⟩ = some (.slice a0 sa.o.length c0') := (obj_cell oa 0).trans e0
      have k1 : wr.cell? ⟨w.heap.size + 1, 0, none⟩ = some (.slice a1 sb.o.length c1') := (obj_cell ob 0).trans e1
      obtain ⟨ba, pa, rfl, hba, rga⟩ := obj_at r0 Oka.out.o rfl (k := j) (by have := Hn.out; omega)
      obtain ⟨bb, pb, rfl, hbb, rgb⟩ := obj_at r1 Okb.out.o rfl (k := j) (by have := Hm.out; omega)
      rw [← Hn.out] at k0
      rw [← Hm.out] at k1
      have hta := take_snoc sa.o j [] (by have := Hn.out; omega)
      have htb := take_snoc sb.o j [] (by have := Hm.out; omega)
      have h18a := obj_len Oka.out (i := j) (by have := Hn.out; omega)
      have h18b := obj_len Okb.out (i := j) (by have := Hm.out; omega)
      obtain ⟨xa, hxa⟩ : ∃ x, x = sa.o.getD j [] := ⟨_, rfl⟩
      obtain ⟨xb, hxb⟩ : ∃ x, x = sb.o.getD j [] := ⟨_, rfl⟩
      rw [← hxa] at hta h18a rga
      rw [← hxb] at htb h18b rgb
      have Hta := Lib.hid hta
      have Htb := Lib.hid htb
      have H18a := Lib.hid h18a
      have H18b := Lib.hid h18b
      have Hxa := Lib.hid hxa
      have Hxb := Lib.hid hxb
      have hji : (j : Int) < (n : Int) := by omega
      have HT := Lib.hid (show wr.drew.cell? ⟨w.heap.size, 0, none⟩ = some (.slice (some ⟨ba, pa, none⟩) n c0') ∧ wr.drew.cell? ⟨w.heap.size + 1, 0, none⟩ = some (.slice (some ⟨bb, pb, none⟩) n c1') ∧ wr.drew.rangeAt ba (pa + j * 18) (objC xa) ∧ wr.drew.rangeAt bb (pb + j * 18) (objC xb) from ⟨k0, k1, rga, rgb⟩)
      clear hta htb h18a h18b hxa hxb oa ob ha hb e0 e1 r0 r1 k0 k1 rga rgb
      go_wp2_with fail
      by_cases hxy : xa = xb
      · have q : ∀ w, (binOp .neq 108 (.agg (objC xa).toArray) (.agg (objC xb).toArray)).run Try.prog w = .ok (.bool false) w := fun w => (obj_neq w xa xb H18a.out H18b.out).trans (by simp [hxy])
        have Hxy := Lib.hid hxy
        clear hxy
        refine wp_region_held_drew (S := fun x => x.cell? ⟨w.heap.size, 0, none⟩ = some (.slice (some ⟨ba, pa, none⟩) n c0') ∧ x.cell? ⟨w.heap.size + 1, 0, none⟩ = some (.slice (some ⟨bb, pb, none⟩) n c1') ∧ x.rangeAt ba (pa + j * 18) (objC xa) ∧ x.rangeAt bb (pb + j * 18) (objC xb)) (by kernel_rfl) HT.out (fun hHeld => ?_)
        refine wpAnyH_take (i := 0) (oi := ⟨some 34, _, _, _, _, _⟩) (v := ?_) rfl (by kernel_rfl) (by kernel_rfl) (by kernel_rfl) (fun _ _ _ h => h) (Or.inl ⟨by rfl, ?_⟩) hHeld ?_
        rotate_left
        · intro w' hS'
          (try dsimp only at hS')
          go_simp
          try with_reducible rfl
        try simp only [Act.put, List.setIfInBounds_toArray, List.set_cons_zero, List.set_cons_succ]
        refine wpAnyH_take (i := 1) (oi := ⟨some 35, _, _, _, _, _⟩) (v := ?_) rfl (by kernel_rfl) (by kernel_rfl) (by kernel_rfl) (fun _ _ _ h => h) (Or.inl ⟨by rfl, ?_⟩) hHeld ?_
        rotate_left
        · intro w' hS'
          (try dsimp only at hS')
          go_simp
          try with_reducible rfl
        try simp only [Act.put, List.setIfInBounds_toArray, List.set_cons_zero, List.set_cons_succ]
        refine wpAnyH_take (i := 2) (oi := ⟨some 36, _, _, _, _, _⟩) (v := ?_) rfl (by kernel_rfl) (by kernel_rfl) (by kernel_rfl) (fun _ _ _ h => h) (Or.inl ⟨by rfl, ?_⟩) hHeld ?_
        rotate_left
        · intro w' hS'
          (try dsimp only at hS')
          go_simp
          try with_reducible rfl
        try simp only [Act.put, List.setIfInBounds_toArray, List.set_cons_zero, List.set_cons_succ]
        refine wpAnyH_take (i := 3) (oi := ⟨some 37, _, _, _, _, _⟩) (v := ?_) rfl (by kernel_rfl) (by kernel_rfl) (by kernel_rfl) (fun _ _ _ h => h) (Or.inl ⟨by rfl, ?_⟩) hHeld ?_
        rotate_left
        · intro w' hS'
          (try dsimp only at hS')
          go_simp
          try with_reducible rfl
        try simp only [Act.put, List.setIfInBounds_toArray, List.set_cons_zero, List.set_cons_succ]
        refine wpAnyH_take (i := 4) (oi := ⟨some 38, _, _, _, _, _⟩) rfl (by kernel_rfl) (by kernel_rfl) (by kernel_rfl) (fun _ _ _ h => h) (yieldsIf_load_mid rfl 108 (.tmp 37) rfl ba (pa + j * 18) rfl (objC xa) _ (fun w hw => hw.2.2.1) Try.underlying108 rfl (by rw [objC, List.length_map, H18a.out]; kernel_rfl)) hHeld ?_
        try simp only [Act.put, List.setIfInBounds_toArray, List.set_cons_zero, List.set_cons_succ]
        refine wpAnyH_take (i := 5) (oi := ⟨some 39, _, _, _, _, _⟩) (v := ?_) rfl (by kernel_rfl) (by kernel_rfl) (by kernel_rfl) (fun _ _ _ h => h) (Or.inl ⟨by rfl, ?_⟩) hHeld ?_
        rotate_left
        · intro w' hS'
          (try dsimp only at hS')
          go_simp
          try with_reducible rfl
        try simp only [Act.put, List.setIfInBounds_toArray, List.set_cons_zero, List.set_cons_succ]
        refine wpAnyH_take (i := 6) (oi := ⟨some 40, _, _, _, _, _⟩) (v := ?_) rfl (by kernel_rfl) (by kernel_rfl) (by kernel_rfl) (fun _ _ _ h => h) (Or.inl ⟨by rfl, ?_⟩) hHeld ?_
        rotate_left
        · intro w' hS'
          (try dsimp only at hS')
          go_simp
          try with_reducible rfl
        try simp only [Act.put, List.setIfInBounds_toArray, List.set_cons_zero, List.set_cons_succ]
        refine wpAnyH_take (i := 7) (oi := ⟨some 41, _, _, _, _, _⟩) (v := ?_) rfl (by kernel_rfl) (by kernel_rfl) (by kernel_rfl) (fun _ _ _ h => h) (Or.inl ⟨by rfl, ?_⟩) hHeld ?_
        rotate_left
        · intro w' hS'
          (try dsimp only at hS')
          go_simp
          try with_reducible rfl
        try simp only [Act.put, List.setIfInBounds_toArray, List.set_cons_zero, List.set_cons_succ]
        refine wpAnyH_take (i := 8) (oi := ⟨some 42, _, _, _, _, _⟩) (v := ?_) rfl (by kernel_rfl) (by kernel_rfl) (by kernel_rfl) (fun _ _ _ h => h) (Or.inl ⟨by rfl, ?_⟩) hHeld ?_
        rotate_left
        · intro w' hS'
          (try dsimp only at hS')
          go_simp
          try with_reducible rfl
        try simp only [Act.put, List.setIfInBounds_toArray, List.set_cons_zero, List.set_cons_succ]
        refine wpAnyH_take (i := 9) (oi := ⟨some 43, _, _, _, _, _⟩) rfl (by kernel_rfl) (by kernel_rfl) (by kernel_rfl) (fun _ _ _ h => h) (yieldsIf_load_mid rfl 108 (.tmp 42) rfl bb (pb + j * 18) rfl (objC xb) _ (fun w hw => hw.2.2.2) Try.underlying108 rfl (by rw [objC, List.length_map, H18b.out]; kernel_rfl)) hHeld ?_
        try simp only [Act.put, List.setIfInBounds_toArray, List.set_cons_zero, List.set_cons_succ]
        refine wpAnyH_take (i := 10) (oi := ⟨some 44, _, _, _, _, _⟩) (v := ?_) rfl (by kernel_rfl) (by kernel_rfl) (by kernel_rfl) (fun _ _ _ h => h) (Or.inl ⟨by rfl, ?_⟩) hHeld ?_
        rotate_left
        · intro w' hS'
          (try dsimp only at hS')
          go_simp
          try with_reducible rfl
        try simp only [Act.put, List.setIfInBounds_toArray, List.set_cons_zero, List.set_cons_succ]
        refine wpAnyH_done (by kernel_rfl) ?_ _
        clear q
        go_wp2_with fail
        go_roundw
        case rel => exact ⟨j + 1, by omega, by go_num, hxr.drew, by rw [Hta.out, Htb.out, Heq.out, Hxy.out]⟩
        case measure => simp [intOf]; omega
      · have q : ∀ w, (binOp .neq 108 (.agg (objC xa).toArray) (.agg (objC xb).toArray)).run Try.prog w = .ok (.bool true) w := fun w => (obj_neq w xa xb H18a.out H18b.out).trans (by simp [hxy])
        have Hf := Lib.hid (show r = false by rw [Hr.out, Bool.eq_false_iff]; intro h; rw [stEq_iff] at h; exact hxy (by rw [Hxa.out, Hxb.out, h]))
        clear hxy
        refine wp_region_held_drew (S := fun x => x.cell? ⟨w.heap.size, 0, none⟩ = some (.slice (some ⟨ba, pa, none⟩) n c0') ∧ x.cell? ⟨w.heap.size + 1, 0, none⟩ = some (.slice (some ⟨bb, pb, none⟩) n c1') ∧ x.rangeAt ba (pa + j * 18) (objC xa) ∧ x.rangeAt bb (pb + j * 18) (objC xb)) (by kernel_rfl) HT.out (fun hHeld => ?_)
        refine wpAnyH_take (i := 0) (oi := ⟨some 34, _, _, _, _, _⟩) (v := ?_) rfl (by kernel_rfl) (by kernel_rfl) (by kernel_rfl) (fun _ _ _ h => h) (Or.inl ⟨by rfl, ?_⟩) hHeld ?_
        rotate_left
        · intro w' hS'
          (try dsimp only at hS')
          go_simp
          try with_reducible rfl
        try simp only [Act.put, List.setIfInBounds_toArray, List.set_cons_zero, List.set_cons_succ]
        refine wpAnyH_take (i := 1) (oi := ⟨some 35, _, _, _, _, _⟩) (v := ?_) rfl (by kernel_rfl) (by kernel_rfl) (by kernel_rfl) (fun _ _ _ h => h) (Or.inl ⟨by rfl, ?_⟩) hHeld ?_
        rotate_left
        · intro w' hS'
          (try dsimp only at hS')
          go_simp
          try with_reducible rfl
        try simp only [Act.put, List.setIfInBounds_toArray, List.set_cons_zero, List.set_cons_succ]
        refine wpAnyH_take (i := 2) (oi := ⟨some 36, _, _, _, _, _⟩) (v := ?_) rfl (by kernel_rfl) (by kernel_rfl) (by kernel_rfl) (fun _ _ _ h => h) (Or.inl ⟨by rfl, ?_⟩) hHeld ?_
        rotate_left
        · intro w' hS'
          (try dsimp only at hS')
          go_simp
          try with_reducible rfl
        try simp only [Act.put, List.setIfInBounds_toArray, List.set_cons_zero, List.set_cons_succ]
        refine wpAnyH_take (i := 3) (oi := ⟨some 37, _, _, _, _, _⟩) (v := ?_) rfl (by kernel_rfl) (by kernel_rfl) (by kernel_rfl) (fun _ _ _ h => h) (Or.inl ⟨by rfl, ?_⟩) hHeld ?_
        rotate_left
        · intro w' hS'
          (try dsimp only at hS')
          go_simp
          try with_reducible rfl
        try simp only [Act.put, List.setIfInBounds_toArray, List.set_cons_zero, List.set_cons_succ]
        refine wpAnyH_take (i := 4) (oi := ⟨some 38, _, _, _, _, _⟩) rfl (by kernel_rfl) (by kernel_rfl) (by kernel_rfl) (fun _ _ _ h => h) (yieldsIf_load_mid rfl 108 (.tmp 37) rfl ba (pa + j * 18) rfl (objC xa) _ (fun w hw => hw.2.2.1) Try.underlying108 rfl (by rw [objC, List.length_map, H18a.out]; kernel_rfl)) hHeld ?_
        try simp only [Act.put, List.setIfInBounds_toArray, List.set_cons_zero, List.set_cons_succ]
        refine wpAnyH_take (i := 5) (oi := ⟨some 39, _, _, _, _, _⟩) (v := ?_) rfl (by kernel_rfl) (by kernel_rfl) (by kernel_rfl) (fun _ _ _ h => h) (Or.inl ⟨by rfl, ?_⟩) hHeld ?_
        rotate_left
        · intro w' hS'
          (try dsimp only at hS')
          go_simp
          try with_reducible rfl
        try simp only [Act.put, List.setIfInBounds_toArray, List.set_cons_zero, List.set_cons_succ]
        refine wpAnyH_take (i := 6) (oi := ⟨some 40, _, _, _, _, _⟩) (v := ?_) rfl (by kernel_rfl) (by kernel_rfl) (by kernel_rfl) (fun _ _ _ h => h) (Or.inl ⟨by rfl, ?_⟩) hHeld ?_
        rotate_left
        · intro w' hS'
          (try dsimp only at hS')
          go_simp
          try with_reducible rfl
        try simp only [Act.put, List.setIfInBounds_toArray, List.set_cons_zero, List.set_cons_succ]
        refine wpAnyH_take (i := 7) (oi := ⟨some 41, _, _, _, _, _⟩) (v := ?_) rfl (by kernel_rfl) (by kernel_rfl) (by kernel_rfl) (fun _ _ _ h => h) (Or.inl ⟨by rfl, ?_⟩) hHeld ?_
        rotate_left
        · intro w' hS'
          (try dsimp only at hS')
          go_simp
          try with_reducible rfl
        try simp only [Act.put, List.setIfInBounds_toArray, List.set_cons_zero, List.set_cons_succ]
        refine wpAnyH_take (i := 8) (oi := ⟨some 42, _, _, _, _, _⟩) (v := ?_) rfl (by kernel_rfl) (by kernel_rfl) (by kernel_rfl) (fun _ _ _ h => h) (Or.inl ⟨by rfl, ?_⟩) hHeld ?_
        rotate_left
        · intro w' hS'
          (try dsimp only at hS')
          go_simp
          try with_reducible rfl
        try simp only [Act.put, List.setIfInBounds_toArray, List.set_cons_zero, List.set_cons_succ]
        refine wpAnyH_take (i := 9) (oi := ⟨some 43, _, _, _, _, _⟩) rfl (by kernel_rfl) (by kernel_rfl) (by kernel_rfl) (fun _ _ _ h => h) (yieldsIf_load_mid rfl 108 (.tmp 42) rfl bb (pb + j * 18) rfl (objC xb) _ (fun w hw => hw.2.2.2) Try.underlying108 rfl (by rw [objC, List.length_map, H18b.out]; kernel_rfl)) hHeld ?_
        try simp only [Act.put, List.setIfInBounds_toArray, List.set_cons_zero, List.set_cons_succ]
        refine wpAnyH_take (i := 10) (oi := ⟨some 44, _, _, _, _, _⟩) (v := ?_) rfl (by kernel_rfl) (by kernel_rfl) (by kernel_rfl) (fun _ _ _ h => h) (Or.inl ⟨by rfl, ?_⟩) hHeld ?_
        rotate_left
        · intro w' hS'
          (try dsimp only at hS')
          go_simp
          try with_reducible rfl
        try simp only [Act.put, List.setIfInBounds_toArray, List.set_cons_zero, List.set_cons_succ]
        refine wpAnyH_done (by kernel_rfl) ?_ _
        clear q
        go_wp2_with fail
        go_ret
        exact ⟨ret_bool Hf.out.symm, B0.out.trans (hxr.drew.mono B0.out.size)⟩
    · obtain rfl : j = n := by omega
      have Ho := Lib.hid (show sa.o = sb.o by have := Heq.out; rwa [List.take_of_length_le (by have := Hn.out; omega), List.take_of_length_le (by have := Hm.out; omega)] at this)
      clear Heq
      go_wp2_with fail
      go_loopw [46] (fun i wr => ∃ z : Nat, z ≤ 11 ∧ i = .int .i64 z ∧ Below w1.heap.size w1 wr ∧ sa.l.take z = sb.l.take z) (fun i _ => 11 - (intOf i).toNat)
      case atStart => exact ⟨0, Nat.zero_le _, rfl, hxr, by simp⟩
      case round =>
        obtain ⟨z, hz, rfl, hxs, heq⟩ := hrel
        have Heq := Lib.hid heq
        clear heq hxr
        by_cases hlt2 : z < 11
        · obtain ⟨oa, ha⟩ := HA.out _ hxs
          obtain ⟨ob, hb⟩ := HB.out _ hxs
          obtain ⟨a0, c0', e0, r0⟩ := ha.sl (1 + z) (by omega)
          obtain ⟨a1, c1', e1, r1⟩ := hb.sl (1 + z) (by omega)
          have k0 := (obj_cell oa (1 + z)).trans e0
          have k1 := (obj_cell ob (1 + z)).trans e1
          have hta := take_snoc sa.l z [] (by have := Oka.out.l; omega)
          have htb := take_snoc sb.l z [] (by have := Okb.out.l; omega)
          simp only [lenOf, rowOf, szOf, if_neg (show 1 + z ≠ 0 by omega), Nat.add_sub_cancel_left] at k0 k1 r0 r1
          have Hra := Lib.hid r0
          have Hrb := Lib.hid r1
          obtain ⟨xa, hxa⟩ : ∃ x, x = sa.l.getD z [] := ⟨_, rfl⟩
          obtain ⟨xb, hxb⟩ : ∃ x, x = sb.l.getD z [] := ⟨_, rfl⟩
          rw [← hxa] at hta k0 Hra
          rw [← hxb] at htb k1 Hrb
          have hzi : (z : Int) < 11 := by omega
          obtain ⟨na, hna⟩ : ∃ x, x = xa.length := ⟨_, rfl⟩
          obtain ⟨nb, hnb⟩ : ∃ x, x = xb.length := ⟨_, rfl⟩
          rw [← hna] at k0 Hra
          rw [← hnb] at k1 Hrb
          have Hta := Lib.hid hta
          have Htb := Lib.hid htb
          have Hxa := Lib.hid hxa
          have Hxb := Lib.hid hxb
          have hx2 : Below wr.heap.size wr wr.drew := (Below.refl _ _).drew
          have HT := Lib.hid (fun (x : World) (hb : Below wr.heap.size wr x) => (⟨(hb.cell (p := ⟨w.heap.size, 1 + z, none⟩) (obj_lt oa)).trans k0, (hb.cell (p := ⟨w.heap.size + 1, 1 + z, none⟩) (obj_lt ob)).trans k1⟩ : x.cell? ⟨w.heap.size, 1 + z, none⟩ = some (.slice a0 na c0') ∧ x.cell? ⟨w.heap.size + 1, 1 + z, none⟩ = some (.slice a1 nb c1')))
          clear hta htb hxa hxb oa ob ha hb e0 e1 r0 r1 k0 k1 hna hnb
          go_wp2_with fail
          by_cases hxy : xa = xb
          · have Hd := Lib.hid (show decide (xa = xb) = true by simp [hxy])
            have Hxy := Lib.hid hxy
            clear hxy
            refine wp_region_held_drew (S := fun x => x.cell? ⟨w.heap.size, 1 + z, none⟩ = some (.slice a0 na c0') ∧ x.cell? ⟨w.heap.size + 1, 1 + z, none⟩ = some (.slice a1 nb c1')) (by kernel_rfl) (HT.out _ hx2) (fun hHeld => ?_)
            refine wpAnyH_take (i := 0) (oi := ⟨some 49, _, _, _, _, _⟩) (v := ?_) rfl (by kernel_rfl) (by kernel_rfl) (by kernel_rfl) (fun _ _ _ h => h) (Or.inl ⟨by rfl, ?_⟩) hHeld ?_
            rotate_left
            · intro w' hS'
              (try dsimp only at hS')
              go_simp
              try with_reducible rfl
            try simp only [Act.put, List.setIfInBounds_toArray, List.set_cons_zero, List.set_cons_succ]
            refine wpAnyH_take (i := 1) (oi := ⟨some 50, _, _, _, _, _⟩) (v := ?_) rfl (by kernel_rfl) (by kernel_rfl) (by kernel_rfl) (fun _ _ _ h => h) (Or.inl ⟨by rfl, ?_⟩) hHeld ?_
            rotate_left
            · intro w' hS'
              (try dsimp only at hS')
              go_simp
              try with_reducible rfl
            try simp only [Act.put, List.setIfInBounds_toArray, List.set_cons_zero, List.set_cons_succ]
            refine wpAnyH_take (i := 2) (oi := ⟨some 51, _, _, _, _, _⟩) (v := ?_) rfl (by kernel_rfl) (by kernel_rfl) (by kernel_rfl) (fun _ _ _ h => h) (Or.inl ⟨by rfl, ?_⟩) hHeld ?_
            rotate_left
            · intro w' hS'
              (try dsimp only at hS')
              go_simp
              try with_reducible rfl
            try simp only [Act.put, List.setIfInBounds_toArray, List.set_cons_zero, List.set_cons_succ]
            refine wpAnyH_take (i := 3) (oi := ⟨some 52, _, _, _, _, _⟩) (v := ?_) rfl (by kernel_rfl) (by kernel_rfl) (by kernel_rfl) (fun _ _ _ h => h) (Or.inl ⟨by rfl, ?_⟩) hHeld ?_
            rotate_left
            · intro w' hS'
              (try dsimp only at hS')
              go_simp
              try with_reducible rfl
            try simp only [Act.put, List.setIfInBounds_toArray, List.set_cons_zero, List.set_cons_succ]
            refine wpAnyH_take (i := 4) (oi := ⟨some 53, _, _, _, _, _⟩) (v := ?_) rfl (by kernel_rfl) (by kernel_rfl) (by kernel_rfl) (fun _ _ _ h => h) (Or.inl ⟨by rfl, ?_⟩) hHeld ?_
            rotate_left
            · intro w' hS'
              (try dsimp only at hS')
              go_simp
              try with_reducible rfl
            try simp only [Act.put, List.setIfInBounds_toArray, List.set_cons_zero, List.set_cons_succ]
            refine wpAnyH_take (i := 5) (oi := ⟨some 54, _, _, _, _, _⟩) (v := ?_) rfl (by kernel_rfl) (by kernel_rfl) (by kernel_rfl) (fun _ _ _ h => h) (Or.inl ⟨by rfl, ?_⟩) hHeld ?_
            rotate_left
            · intro w' hS'
              (try dsimp only at hS')
              go_simp
              try with_reducible rfl
            try simp only [Act.put, List.setIfInBounds_toArray, List.set_cons_zero, List.set_cons_succ]
            refine wpAnyH_take (i := 6) (oi := ⟨some 55, _, _, _, _, _⟩) (v := ?_) rfl (by kernel_rfl) (by kernel_rfl) (by kernel_rfl) (fun _ _ _ h => h) (Or.inl ⟨by rfl, ?_⟩) hHeld ?_
            rotate_left
            · intro w' hS'
              (try dsimp only at hS')
              go_simp
              try with_reducible rfl
            try simp only [Act.put, List.setIfInBounds_toArray, List.set_cons_zero, List.set_cons_succ]
            refine wpAnyH_take (i := 7) (oi := ⟨some 56, _, _, _, _, _⟩) (v := ?_) rfl (by kernel_rfl) (by kernel_rfl) (by kernel_rfl) (fun _ _ _ h => h) (Or.inl ⟨by rfl, ?_⟩) hHeld ?_
            rotate_left
            · intro w' hS'
              (try dsimp only at hS')
              go_simp
              try with_reducible rfl
            try simp only [Act.put, List.setIfInBounds_toArray, List.set_cons_zero, List.set_cons_succ]
            refine wpAnyH_all (rs := [8]) (by kernel_rfl) (by simp) ?_
            intro ix hix
            obtain rfl : ix = 8 := by simpa using hix
            clear hix
            refine wpOp_step (o := ⟨some 57, _, _, _, _, _⟩) rfl (fun K hK => ?_)
            have HK := Lib.hid hK
            clear hK
            go_simp
            refine (ints _ a0 a1 na nb c0' c1' xa xb (Hra.out.all hx2) (Hrb.out.all hx2)).mono ?_
            rintro x w5 ⟨rfl, hq⟩
            rw [Hd.out]
            replace hx2 := hx2.trans (hq.below _)
            clear hq
            go_wp2_with fail
            refine HK.out _ _ ⟨(HT.out _ hx2), ?_⟩
            clear HK
            try clear hHeld
            have hHeld := (HT.out _ hx2)
            try simp only [Act.put, List.setIfInBounds_toArray, List.set_cons_zero, List.set_cons_succ]
            refine wpAnyH_take (i := 9) (oi := ⟨some 58, _, _, _, _, _⟩) (v := ?_) rfl (by kernel_rfl) (by kernel_rfl) (by kernel_rfl) (fun _ _ _ h => h) (Or.inl ⟨by rfl, ?_⟩) hHeld ?_
            rotate_left
            · intro w' hS'
              (try dsimp only at hS')
              go_simp
              try with_reducible rfl
            try simp only [Act.put, List.setIfInBounds_toArray, List.set_cons_zero, List.set_cons_succ]
            refine wpAnyH_done (by kernel_rfl) ?_ _
            go_wp2_with fail
            go_roundw
            case rel => exact ⟨z + 1, by omega, by go_num, hxs.trans (hx2.mono hxs.size), by rw [Hta.out, Htb.out, Heq.out, Hxy.out]⟩
            case measure => simp [intOf]; omega
          · have Hd := Lib.hid (show decide (xa = xb) = false by simp [hxy])
            have Hf := Lib.hid (show r = false by rw [Hr.out, Bool.eq_false_iff]; intro h; rw [stEq_iff] at h; exact hxy (by rw [Hxa.out, Hxb.out, h]))
            clear hxy
            refine wp_region_held_drew (S := fun x => x.cell? ⟨w.heap.size, 1 + z, none⟩ = some (.slice a0 na c0') ∧ x.cell? ⟨w.heap.size + 1, 1 + z, none⟩ = some (.slice a1 nb c1')) (by kernel_rfl) (HT.out _ hx2) (fun hHeld => ?_)
            refine wpAnyH_take (i := 0) (oi := ⟨some 49, _, _, _, _, _⟩) (v := ?_) rfl (by kernel_rfl) (by kernel_rfl) (by kernel_rfl) (fun _ _ _ h => h) (Or.inl ⟨by rfl, ?_⟩) hHeld ?_
            rotate_left
            · intro w' hS'
              (try dsimp only at hS')
              go_simp
              try with_reducible rfl
            try simp only [Act.put, List.setIfInBounds_toArray, List.set_cons_zero, List.set_cons_succ]
            refine wpAnyH_take (i := 1) (oi := ⟨some 50, _, _, _, _, _⟩) (v := ?_) rfl (by kernel_rfl) (by kernel_rfl) (by kernel_rfl) (fun _ _ _ h => h) (Or.inl ⟨by rfl, ?_⟩) hHeld ?_
            rotate_left
            · intro w' hS'
              (try dsimp only at hS')
              go_simp
              try with_reducible rfl
            try simp only [Act.put, List.setIfInBounds_toArray, List.set_cons_zero, List.set_cons_succ]
            refine wpAnyH_take (i := 2) (oi := ⟨some 51, _, _, _, _, _⟩) (v := ?_) rfl (by kernel_rfl) (by kernel_rfl) (by kernel_rfl) (fun _ _ _ h => h) (Or.inl ⟨by rfl, ?_⟩) hHeld ?_
            rotate_left
            · intro w' hS'
              (try dsimp only at hS')
              go_simp
              try with_reducible rfl
            try simp only [Act.put, List.setIfInBounds_toArray, List.set_cons_zero, List.set_cons_succ]
            refine wpAnyH_take (i := 3) (oi := ⟨some 52, _, _, _, _, _⟩) (v := ?_) rfl (by kernel_rfl) (by kernel_rfl) (by kernel_rfl) (fun _ _ _ h => h) (Or.inl ⟨by rfl, ?_⟩) hHeld ?_
            rotate_left
            · intro w' hS'
              (try dsimp only at hS')
              go_simp
              try with_reducible rfl
            try simp only [Act.put, List.setIfInBounds_toArray, List.set_cons_zero, List.set_cons_succ]
            refine wpAnyH_take (i := 4) (oi := ⟨some 53, _, _, _, _, _⟩) (v := ?_) rfl (by kernel_rfl) (by kernel_rfl) (by kernel_rfl) (fun _ _ _ h => h) (Or.inl ⟨by rfl, ?_⟩) hHeld ?_
            rotate_left
            · intro w' hS'
              (try dsimp only at hS')
              go_simp
              try with_reducible rfl
            try simp only [Act.put, List.setIfInBounds_toArray, List.set_cons_zero, List.set_cons_succ]
            refine wpAnyH_take (i := 5) (oi := ⟨some 54, _, _, _, _, _⟩) (v := ?_) rfl (by kernel_rfl) (by kernel_rfl) (by kernel_rfl) (fun _ _ _ h => h) (Or.inl ⟨by rfl, ?_⟩) hHeld ?_
            rotate_left
            · intro w' hS'
              (try dsimp only at hS')
              go_simp
              try with_reducible rfl
            try simp only [Act.put, List.setIfInBounds_toArray, List.set_cons_zero, List.set_cons_succ]
            refine wpAnyH_take (i := 6) (oi := ⟨some 55, _, _, _, _, _⟩) (v := ?_) rfl (by kernel_rfl) (by kernel_rfl) (by kernel_rfl) (fun _ _ _ h => h) (Or.inl ⟨by rfl, ?_⟩) hHeld ?_
            rotate_left
            · intro w' hS'
              (try dsimp only at hS')
              go_simp
              try with_reducible rfl
            try simp only [Act.put, List.setIfInBounds_toArray, List.set_cons_zero, List.set_cons_succ]
            refine wpAnyH_take (i := 7) (oi := ⟨some 56, _, _, _, _, _⟩) (v := ?_) rfl (by kernel_rfl) (by kernel_rfl) (by kernel_rfl) (fun _ _ _ h => h) (Or.inl ⟨by rfl, ?_⟩) hHeld ?_
            rotate_left
            · intro w' hS'
              (try dsimp only at hS')
              go_simp
              try with_reducible rfl
            try simp only [Act.put, List.setIfInBounds_toArray, List.set_cons_zero, List.set_cons_succ]
            refine wpAnyH_all (rs := [8]) (by kernel_rfl) (by simp) ?_
            intro ix hix
            obtain rfl : ix = 8 := by simpa using hix
            clear hix
            refine wpOp_step (o := ⟨some 57, _, _, _, _, _⟩) rfl (fun K hK => ?_)
            have HK := Lib.hid hK
            clear hK
            go_simp
            refine (ints _ a0 a1 na nb c0' c1' xa xb (Hra.out.all hx2) (Hrb.out.all hx2)).mono ?_
            rintro x w5 ⟨rfl, hq⟩
            rw [Hd.out]
            replace hx2 := hx2.trans (hq.below _)
            clear hq
            go_wp2_with fail
            refine HK.out _ _ ⟨(HT.out _ hx2), ?_⟩
            clear HK
            try clear hHeld
            have hHeld := (HT.out _ hx2)
            try simp only [Act.put, List.setIfInBounds_toArray, List.set_cons_zero, List.set_cons_succ]
            refine wpAnyH_take (i := 9) (oi := ⟨some 58, _, _, _, _, _⟩) (v := ?_) rfl (by kernel_rfl) (by kernel_rfl) (by kernel_rfl) (fun _ _ _ h => h) (Or.inl ⟨by rfl, ?_⟩) hHeld ?_
            rotate_left
            · intro w' hS'
              (try dsimp only at hS')
              go_simp
              try with_reducible rfl
            try simp only [Act.put, List.setIfInBounds_toArray, List.set_cons_zero, List.set_cons_succ]
            refine wpAnyH_done (by kernel_rfl) ?_ _
            go_wp2_with fail
            go_ret
            exact ⟨ret_bool Hf.out.symm, B0.out.trans ((hxs.trans (hx2.mono hxs.size)).mono B0.out.size)⟩
        · obtain rfl : z = 11 := by omega
          have Ht := Lib.hid (show r = true by
            have hl : sa.l = sb.l := by have := Heq.out; rwa [List.take_of_length_le (by have := Oka.out.l; omega), List.take_of_length_le (by have := Okb.out.l; omega)] at this
            rw [Hr.out, stEq, Ho.out, Hp.out, hl]
            simp)
          clear Heq
          go_wp2_with fail
          go_ret
          exact ⟨ret_bool Ht.out.symm, B0.out.trans (hxs.mono B0.out.size)⟩
end Go.Proofs.Ytpbocficffbcbaa
namespace Go.Proofs.Ytpbocficffbcbaa
open Go Go.RowKit
set_option linter.unusedVariables false

theorem lists_get {cs : Array Value} (hs : cs.size = 37) (j : Nat) (hj : j < 11) : ((cs.extract 1 (1 + 11)).toList.toArray)[j]? = cs[1 + j]? := by
  simp only [Array.toArray_toList, Array.getElem?_extract]
  rw [if_pos (by omega)]
theorem run_index_ls (w : World) (ls : Array Value) (j : Nat) (hj : j < 11) (v : Value) (hv : ls[j]? = some v) : (Instr.index 74 (.agg ls) (.int .i64 j)).run Try.prog w = .ok v w := by
  have h1 : Try.prog.cellsOf 22 = 1 := by kernel_rfl
  have hi : (Try.prog.info? 22).map (·.size) = some 1 := by kernel_rfl
  cases hq : Try.prog.info? 22 with
  | none => simp [hq] at hi
  | some i =>
    have hs : i.size = 1 := by simpa [hq] using hi
    simp [Instr.index, asIntOf, Sem.run_bind, run_underlying Try.underlying74 w, sizeOf, typeInfo, hq, hs, part, isAgg, hv]
    intro hh
    omega

/-- Is a state larger than is looked at? -/
def longB (s : St) (most : Nat) : Bool := decide (most < s.o.length) || (List.range 11).any (fun i => decide (most + 10 < (s.l.getD i []).length))
theorem longB_fits {s : St} {most : Nat} (ok : StOk s) (h : longB s most = false) : Fits s (most + 10) := by
  simp only [longB, Bool.or_eq_false_iff, decide_eq_false_iff_not, List.any_eq_false, List.mem_range, decide_eq_true_eq, Nat.not_lt] at h
  refine ⟨by omega, fun i => ?_⟩
  by_cases hi : i < 11
  · exact h.2 i hi
  · rw [show s.l.getD i [] = [] by simp [List.getD, List.getElem?_eq_none (show s.l.length ≤ i by rw [ok.l]; omega)]]
    simp
theorem longB_true {s : St} {most k : Nat} (hk : k < 11) (h : most + 10 < (s.l.getD k []).length) : longB s most = true := by
  simp only [longB, Bool.or_eq_true, List.any_eq_true, List.mem_range, decide_eq_true_eq]
  exact .inr ⟨k, hk, h⟩
theorem longB_false {s : St} {most : Nat} (h0 : s.o.length ≤ most) (h : ∀ k, k < 11 → (s.l.getD k []).length ≤ most + 10) : longB s most = false := by
  simp only [longB, Bool.or_eq_false_iff, decide_eq_false_iff_not, List.any_eq_false, List.mem_range, decide_eq_true_eq, Nat.not_lt]
  exact ⟨h0, h⟩

set_option maxRecDepth 100000 in
set_option maxHeartbeats 800000 in
theorem long (w : World) (cs : Array Value) (s : St) (h : StC w cs s) (most : Nat) (hm : most ≤ 1000) (r : Bool) (hr : r = longB s most) :
    Calls Try.prog 55 #[.agg cs, .int .i64 most] w (fun e w' => e = .returned (.bool r) ∧ Below w.heap.size w w') := by
  have hsz := h.size
  have b0 : Below w.heap.size w (w.alloc (.cells cs 79)) := ((Below.refl _ w).alloc (Nat.le_refl _) _)
  have ob := alloc_new w (.cells cs 79)
  obtain ⟨a0, c0, e0, r0⟩ := h.sl 0 (by decide)
  have k0 : (w.alloc (.cells cs 79)).cell? ⟨w.heap.size, 0, none⟩ = some (.slice a0 s.o.length c0) := (obj_cell ob 0).trans e0
  have hl0 := r0.le
  have hm0 := r0.max
  unfold maxLen at hm0
  change s.o.length ≤ c0 at hl0
  have hR := World.rangeAt_of_block ob 1 11
  have hls := lists_get hsz
  have hx : ∀ j, j < 11 → ∃ a c, ((cs.extract 1 (1 + 11)).toList.toArray)[j]? = some (.slice a (s.l.getD j []).length c) ∧ (s.l.getD j []).length ≤ c ∧ c ≤ 9223372036854775807 := fun j hj => by
    obtain ⟨a, c, h1, h2⟩ := h.sl (1 + j) (by omega)
    have hn : lenOf s (1 + j) = (s.l.getD j []).length := by simp [lenOf, Nat.add_sub_cancel_left]
    rw [hn] at h1 h2
    exact ⟨a, c, (hls j hj).trans h1, h2.le, h2.max⟩
  have hll : (cs.extract 1 (1 + 11)).toList.length = 11 := by simp; omega
  generalize (cs.extract 1 (1 + 11)).toList = ls at hR hx hll
  have Hr := Lib.hid hr
  have HR := Lib.hid hR
  have Hx := Lib.hid hx
  have Hll := Lib.hid hll
  have B0 := Lib.hid b0
  obtain ⟨n, hn⟩ : ∃ n, n = s.o.length := ⟨_, rfl⟩
  rw [← hn] at k0 hl0
  have Hn := Lib.hid hn
  clear hr hR hx hll b0 ob hls h r0 e0 hn
  go_enter Try.func55, Try.ntmps55
  by_cases hlt : most < n
  · go_wp2_with fail
    go_ret
    exact ⟨ret_bool (by rw [Hr.out]; simp [longB]; have := Hn.out; omega), B0.out⟩
  · have hge : n ≤ most := by omega
    clear hlt
    go_wp2_with (refine wpList_load_mid rfl 74 (.tmp 12) rfl w.heap.size 1 rfl ls _ HR.out Try.underlying74 rfl (by rw [Hll.out]; kernel_rfl) ?_)
    go_loop [14] (fun i => ∃ k : Nat, k ≤ 11 ∧ i = .int .i64 k ∧ ∀ j, j < k → (s.l.getD j []).length ≤ most + 10) (fun i => 11 - (intOf i).toNat)
    case atStart => exact ⟨0, by omega, rfl, fun j hj => absurd hj (Nat.not_lt_zero _)⟩
    case round =>
      obtain ⟨k, hk, rfl, hrel⟩ := hrel
      have Hrel := Lib.hid hrel
      clear hrel
      by_cases hlt : k < 11
      · obtain ⟨a, c, h1, h2, h3⟩ := Hx.out k hlt
        have q := fun w => run_index_ls w _ k hlt _ h1
        obtain ⟨m, hm⟩ : ∃ m, m = (s.l.getD k []).length := ⟨_, rfl⟩
        rw [← hm] at h2 q
        have Hm := Lib.hid hm
        clear hm h1
        by_cases hbig : most + 10 < m
        · go_wp2_with fail
          go_ret
          exact ⟨ret_bool (by rw [Hr.out]; exact (longB_true hlt (by have := Hm.out; omega)).symm), B0.out⟩
        · go_wp2_with fail
          go_round
          case rel => exact ⟨k + 1, by omega, by go_num, fun j hj => by
            by_cases hjk : j = k
            · subst hjk; have := Hm.out; omega
            · exact Hrel.out j (by omega)⟩
          case measure => simp [intOf]; omega
      · obtain rfl : k = 11 := by omega
        go_wp2_with fail
        go_ret
        exact ⟨ret_bool (by rw [Hr.out]; exact (longB_false (by have := Hn.out; omega) Hrel.out).symm), B0.out⟩
end Go.Proofs.Ytpbocficffbcbaa
namespace Go.Proofs.Ytpbocficffbcbaa
open Go Go.RowKit
set_option linter.unusedVariables false

theorem refApply (w : World) (cs : Array Value) (s : St) (h : StC w cs s) (ok : StOk s) (fits : Fits s 100000) (e : Ev) :
    Calls Try.prog 58 #[.agg cs, evV e] w (RefTo w (doS s e) (doN s e)) := by
  by_cases hc : chk e = 0
  rotate_left
  · exact refBad w cs _ h.size e _ (by simp [doN, hc]) (by simp [doN, hc])
  obtain ⟨h0, h6, _, _⟩ := chk_zero hc
  by_cases hk0 : e.k = 0
  · by_cases hf : 400 ≤ s.o.length
    · exact refMakeFull w cs s _ h ok fits e hc _ hk0 hf (by simp [doN, hc, hk0, hf])
    · exact refMake w cs s _ h ok fits e hc _ hk0 (by omega) (by simp [doN, hc, hk0, hf]) (by simp [doS, hk0])
  by_cases hk5 : e.k = 5
  · exact refUnmake w cs s _ h ok fits e hc _ hk5 (by simp [doN, hc, hk5]) (by simp [doS, hk5])
  by_cases hk1 : e.k = 1
  · obtain ⟨ha, hb, hb', hd, hd', hcc, hee⟩ := chk_move hc hk1
    by_cases hl : s.o.length ≤ e.a.toNat
    · exact refMoveNone w cs s _ h ok fits e hc _ e.a.toNat hk1 (by omega) hl (by simp [doN, hc, hk1]; omega)
    · exact refMove w cs s _ h ok fits e hc _ e.a.toNat e.b.toNat e.c.toNat e.d.toNat e.e.toNat (by omega) (by omega) hk1 (by omega) (by omega) (by omega) (by omega) (by omega) (by omega) (by
        have : ¬ (s.o.length : Int) ≤ e.a := by omega
        simp [doN, hc, hk1, this]) (by simp [doS, hk1])
  by_cases hk2 : e.k = 2
  · obtain ⟨ha, hb, hb', _⟩ := chk_obj hc hk2
    by_cases hl : s.o.length ≤ e.a.toNat
    · exact refObjNone w cs s _ h ok fits e hc _ e.a.toNat hk2 (by omega) hl (by
        have : (s.o.length : Int) ≤ e.a := by omega
        simp [doN, hc, hk2, this])
    · exact refObj w cs s _ h ok fits e hc _ e.a.toNat e.b.toNat (by omega) hk2 (by omega) (by omega) (by omega) (by omega) (by omega) (by
        have : ¬ (s.o.length : Int) ≤ e.a := by omega
        simp [doN, hc, hk2, this, obj]) (by simp [doS, hk2, obS, obj])
  by_cases hk3 : e.k = 3
  · obtain ⟨ha, ha', hb, hb', _⟩ := chk_play hc hk3
    exact refPlay w cs s _ h ok fits e hc _ e.a.toNat e.b.toNat (by omega) (by omega) hk3 (by omega) (by omega) (by simp [doN, hc, hk3, numAt]) (by simp [doS, hk3, numAt])
  have hk4 : e.k = 4 := by omega
  obtain ⟨ha, hb, hb', _⟩ := chk_game hc hk4
  exact refGame w cs s _ h ok fits e hc _ e.b.toNat (by omega) hk4 ha (by omega) (by simp [doN, hc, hk4, numAt]) (by simp [doS, hk4, numAt])

/-! ### a state in a block of its own; whole states loaded under a guard -/
theorem stored_below {W wc : World} {o : Obj} (h : Upd (fun k => k = W.heap.size) (W.alloc o) wc) : Below W.heap.size W wc :=
  ((Below.refl _ W).alloc (Nat.le_refl _) _).trans (h.below (by simp) (fun k hk hb => by change _ = _ at hb; omega))
theorem wpList_load_wholeG {P : Program} {ops : Array Oper} {rest : List Oper} {o : Oper} {a : Act} {w : World} {Q : Exit → Act → World → Prop} (hw : Region.wanted o (yielded ops a.tmps) = true) (ty : TypeId) (x : Operand) (ho : o.op = .load ty x)
    (g : Nat) (hx : a.eval x = .pointer (some ⟨g, 0, none⟩)) (t : TypeId) (cs : Array Value) (fr : Nat × Nat) (hg : w.heap[g]? = some (.cells cs t fr)) (d : TypeDesc)
    (hu : P.underlying ty = some d) (hd : (match d with | .struct _ | .array _ _ => true | _ => false) = true) (hi : (P.info? ty).map (·.size) = some cs.size)
    (h : wpList P ops Q rest (a.put o.dst (.agg cs)) w) : wpList P ops Q (o :: rest) a w :=
  wpList_step fun K hK => by
    rw [if_pos hw]
    unfold Oper.wp
    rw [exec_load_whole ty x ho g hx t cs fr d hg hu hd hi]
    exact hK _ _ h
end Go.Proofs.Ytpbocficffbcbaa
namespace Go.Proofs.Ytpbocficffbcbaa
open Go Go.RowKit
set_option linter.unusedVariables false

theorem inv_inv (e : Ev) : inv (inv e) = e := by
  obtain ⟨k, a, b, c, d, f⟩ := e
  unfold inv
  simp only
  by_cases h0 : k = 0
  · simp [h0]
  by_cases h5 : k = 5
  · simp [h5]
  by_cases h1 : k = 1
  · simp [h1]
  by_cases hs : setsB ⟨k, a, b, c, d, f⟩ = true
  · have hs2 : setsB ⟨k, a, b, d, c, f⟩ = true := hs
    simp [h0, h5, h1, hs, hs2]
  · simp [h0, h5, h1, hs]
theorem set_back {α : Type} (l : List α) (i : Nat) (x d : α) : (l.set i x).set i (l.getD i d) = l := by
  by_cases h : i < l.length
  · rw [List.set_set, show l.getD i d = l[i] by simp [List.getD, h]]
    exact List.set_getElem_self h
  · rw [List.set_eq_of_length_le (by simp; omega), List.set_eq_of_length_le (by omega)]
theorem set_getD {α : Type} (l : List α) (i : Nat) (d : α) : l.set i (l.getD i d) = l := by
  by_cases h : i < l.length
  · rw [show l.getD i d = l[i] by simp [List.getD, h]]
    exact List.set_getElem_self h
  · exact List.set_eq_of_length_le (by omega)
theorem getD_set_self {α : Type} (l : List α) (i : Nat) (x d : α) (h : i < l.length) : (l.set i x).getD i d = x := by simp [List.getD, h]
theorem take_last {α : Type} (l : List α) (d : α) (k : Nat) (h : l.length = k + 1) : l.take k ++ [l.getD k d] = l := by
  have h1 : l.drop k = [l.getD k d] := by
    rw [List.drop_eq_getElem_cons (by omega), List.drop_of_length_le (by omega)]
    simp [List.getD, show k < l.length by omega]
  have h2 := List.take_append_drop k l
  rw [h1] at h2
  exact h2
theorem rem_ins' (zs : List Int) (i : Nat) (x : Int) (h : i ≤ zs.length) : remAt (insAt zs i x) i = zs := by
  unfold remAt insAt
  have hl : (zs.take i).length = i := by simp; omega
  rw [List.take_append_of_le_length (by omega), List.take_of_length_le (by omega), List.drop_append, List.drop_of_length_le (by omega), hl]
  simp
theorem ins_get' (zs : List Int) (i : Nat) (x : Int) (h : i ≤ zs.length) : (insAt zs i x).getD i 0 = x := by
  unfold insAt
  have hl : (zs.take i).length = i := by simp; omega
  rw [List.getD_eq_getElem?_getD, List.getElem?_append_right (by omega), hl]
  simp
theorem ins_rem' (zs : List Int) (i : Nat) (h : i < zs.length) : insAt (remAt zs i) i (zs.getD i 0) = zs := by
  unfold remAt insAt
  have hl : (zs.take i).length = i := by simp; omega
  rw [List.take_append_of_le_length (by omega), List.take_of_length_le (by omega), List.drop_append, List.drop_of_length_le (by omega), hl]
  simp [h]

def zoneFix (u s : St) (a : Nat) : St := ⟨u.o.set a ((u.o.getD a []).set 3 ((s.o.getD a []).getD 3 0)), u.l, u.p⟩

theorem doN_chk {s : St} {e : Ev} (h : doN s e = 0) : chk e = 0 := by
  unfold doN at h
  split at h
  · assumption
  · exact h
theorem inv_k {e : Ev} (hc : chk e = 0) : (inv e).k = if e.k = 0 then 5 else if e.k = 5 then 0 else e.k := by
  unfold inv
  split
  · rfl
  split
  · rfl
  split
  · rfl
  split <;> rfl

theorem lst_nat' (s : St) (i : Nat) : lst s (i : Int) = s.l.getD i [] := rfl
def Back (s : St) (e : Ev) : Prop := doN (doS s e) (inv e) = 0 ∧ (if e.k = 1 then zoneFix (doS (doS s e) (inv e)) s e.a.toNat else doS (doS s e) (inv e)) = s
theorem back_make (s : St) (e : Ev) (ok : StOk s) (h0 : doN s e = 0) (hc : chk (inv e) = 0) (hk : e.k = 0) : Back s e := by
  have hi : inv e = { e with k := 5 } := by simp [inv, hk]
  have hl : 10 < s.l.length := by rw [ok.l]; decide
  have hd : doS s e = mkS s e := by simp [doS, hk]
  have hm : madeL { e with k := 5 } = madeL e := rfl
  have e10 : lst (mkS s e) 10 = s.l.getD 10 [] ++ [(s.o.length : Int)] := by
    show (s.l.set 10 _).getD 10 [] = _
    rw [getD_set, if_pos ⟨rfl, hl⟩]
  have hlast : ∀ (l : List Int) (x : Int), (l ++ [x]).getD l.length 0 = x := fun l x => by simp [List.getD]
  have hlast2 : (s.o ++ [madeL e]).getD s.o.length [] = madeL e := by simp [List.getD]
  have hrm : rmB (mkS s e) { e with k := 5 } = true := by
    simp only [rmB, e10, hm]
    simp only [mkS, List.length_append, List.length_singleton, Nat.add_sub_cancel, hlast, hlast2, Bool.and_eq_true, decide_eq_true_eq]
    refine ⟨by omega, by omega, by omega, trivial⟩
  refine ⟨?_, ?_⟩
  · rw [hi, hd]
    rw [hi] at hc
    simp [doN, hc, hrm]
  · rw [if_neg (by rw [hk]; decide), hi, hd]
    show doS (mkS s e) { e with k := 5 } = s
    rw [show doS (mkS s e) { e with k := 5 } = rmS (mkS s e) from rfl, rmS, e10]
    simp only [mkS, List.length_append, List.length_singleton, Nat.add_sub_cancel, List.set_set]
    rw [List.take_left', List.take_left', List.getD, ← List.getD_eq_getElem?_getD]
    · obtain ⟨o, l, p⟩ := s
      simp only at hl ⊢
      rw [show l.set 10 (l.getD 10 []) = l from by simp [List.getD, hl]]
    · rfl
    · rfl
theorem back_unmake (s : St) (e : Ev) (ok : StOk s) (h400 : s.o.length ≤ 400) (h0 : doN s e = 0) (hc : chk (inv e) = 0) (hk : e.k = 5) : Back s e := by
  have hi : inv e = { e with k := 0 } := by simp [inv, hk]
  have hl : 10 < s.l.length := by rw [ok.l]; decide
  have hd : doS s e = rmS s := by simp [doS, hk]
  have hrm : rmB s e = true := by
    have hce := doN_chk h0
    simp only [doN, hce, hk] at h0
    cases hb : rmB s e
    · simp [hb] at h0
    · rfl
  simp only [rmB, Bool.and_eq_true, decide_eq_true_eq] at hrm
  obtain ⟨h1, h2, h3, h4⟩ := hrm
  obtain ⟨k, hkk⟩ : ∃ k, s.o.length = k + 1 := ⟨s.o.length - 1, by omega⟩
  obtain ⟨m, hmm⟩ : ∃ m, (lst s 10).length = m + 1 := ⟨(lst s 10).length - 1, by omega⟩
  have hkl : (rmS s).o.length = k := by simp [rmS, hkk]
  refine ⟨?_, ?_⟩
  · rw [hi, hd]
    rw [hi] at hc
    simp [doN, hc, hkl]
    omega
  · rw [if_neg (by rw [hk]; decide), hi, hd]
    show mkS (rmS s) { e with k := 0 } = s
    have hm : madeL { e with k := 0 } = madeL e := rfl
    rw [mkS, hkl, hm]
    have e10 : (rmS s).l.getD 10 [] = (lst s 10).take m := by
      simp only [rmS, getD_set, hmm, Nat.add_sub_cancel]
      rw [if_pos ⟨trivial, hl⟩]
    rw [e10]
    have ho : (rmS s).o ++ [madeL e] = s.o := by
      simp only [rmS, hkk, Nat.add_sub_cancel]
      rw [← h4, hkk, Nat.add_sub_cancel]
      exact take_last s.o [] k hkk
    have hll : (lst s 10).take m ++ [(k : Int)] = lst s 10 := by
      rw [hmm, hkk, Nat.add_sub_cancel] at h3
      have h3' : (lst s 10).getD m 0 = (k : Int) := by rw [h3]; omega
      have := take_last (lst s 10) 0 m hmm
      rw [h3'] at this
      exact this
    rw [ho, hll]
    obtain ⟨o, l, p⟩ := s
    simp only [rmS, List.set_set] at hl ⊢
    rw [show l.set 10 (lst ⟨o, l, p⟩ 10) = l from by simp [lst, List.getD, hl]]
theorem back_move (s : St) (e : Ev) (ok : StOk s) (h0 : doN s e = 0) (hc : chk (inv e) = 0) (hk : e.k = 1) : Back s e := by
  obtain ⟨k, a, b, c, d, f⟩ := e
  simp only at hk
  subst hk
  have hce := doN_chk h0
  obtain ⟨ha, hb, hb', hd, hd', hcc, hf⟩ := chk_move hce rfl
  simp only at ha hb hb' hd hd' hcc hf
  obtain ⟨a, rfl⟩ : ∃ n : Nat, a = n := ⟨a.toNat, by omega⟩
  obtain ⟨b, rfl⟩ : ∃ n : Nat, b = n := ⟨b.toNat, by omega⟩
  obtain ⟨c, rfl⟩ : ∃ n : Nat, c = n := ⟨c.toNat, by omega⟩
  obtain ⟨d, rfl⟩ : ∃ n : Nat, d = n := ⟨d.toNat, by omega⟩
  obtain ⟨f, rfl⟩ : ∃ n : Nat, f = n := ⟨f.toNat, by omega⟩
  have hi : inv ⟨1, a, b, c, d, f⟩ = ⟨1, a, d, f, b, c⟩ := rfl
  simp only [doN, hce] at h0
  simp at h0
  have ha2 : a < s.o.length := by
    by_cases h : s.o.length ≤ a
    · simp [h] at h0
    · omega
  rw [if_neg (by omega)] at h0
  have hmv : mvB s ⟨1, a, b, c, d, f⟩ = true := by
    cases hm : mvB s ⟨1, a, b, c, d, f⟩
    · simp [hm] at h0
    · rfl
  rw [hmv, if_pos rfl] at h0
  have hfl : f ≤ (mvTo s ⟨1, a, b, c, d, f⟩).length := by
    by_cases h : (mvTo s ⟨1, a, b, c, d, f⟩).length < f
    · simp [h] at h0
    · omega
  simp only [mvB, Bool.and_eq_true, lst_nat', Int.toNat_natCast] at hmv
  obtain ⟨hcl, hca⟩ := hmv
  have hcl := of_decide_eq_true hcl
  have hca := of_decide_eq_true hca
  have hcl' : c < (s.l.getD b []).length := by omega
  have hbl : b < s.l.length := by rw [ok.l]; omega
  have hdl : d < s.l.length := by rw [ok.l]; omega
  -- the lists behind the move
  have hS : doS s ⟨1, a, b, c, d, f⟩ = ⟨s.o.set a ((s.o.getD a []).set 3 (d : Int)), (s.l.set b (remAt (s.l.getD b []) c)).set d (insAt (mvTo s ⟨1, a, b, c, d, f⟩) f a), s.p⟩ := rfl
  have hto : mvTo s ⟨1, a, b, c, d, f⟩ = (s.l.set b (remAt (s.l.getD b []) c)).getD d [] := by
    rw [getD_set]
    unfold mvTo mvOut
    by_cases h : d = b
    · subst h
      simp [lst, hbl]
    · rw [if_neg (by simp; omega), if_neg (fun h' => h h'.1.symm)]
      rfl
  generalize hT : mvTo s ⟨1, a, b, c, d, f⟩ = T at *
  have hod : (s.o.set a ((s.o.getD a []).set 3 (d : Int))).length = s.o.length := by simp
  have hd2 : ((s.l.set b (remAt (s.l.getD b []) c)).set d (insAt T f a)).getD d [] = insAt T f a := by
    rw [getD_set, if_pos ⟨rfl, by simpa using hdl⟩]
  have e1 : mvOut (doS s ⟨1, a, b, c, d, f⟩) ⟨1, a, d, f, b, c⟩ = T := by
    rw [hS]
    simp only [mvOut, lst, Int.toNat_natCast, hd2]
    exact rem_ins' T f a hfl
  have hset : (s.l.set b (remAt (s.l.getD b []) c)).set d T = s.l.set b (remAt (s.l.getD b []) c) := by
    rw [hto]
    exact set_getD _ _ _
  have e2 : mvTo (doS s ⟨1, a, b, c, d, f⟩) ⟨1, a, d, f, b, c⟩ = remAt (s.l.getD b []) c := by
    rw [mvTo, e1]
    by_cases h : b = d
    · subst h
      rw [if_pos rfl, hto, getD_set, if_pos ⟨rfl, hbl⟩]
    · rw [if_neg (by simp; omega), hS]
      simp only [lst, Int.toNat_natCast]
      rw [getD_set, if_neg (fun h' => h h'.1.symm), getD_set, if_pos ⟨rfl, hbl⟩]
  have e3 : mvB (doS s ⟨1, a, b, c, d, f⟩) ⟨1, a, d, f, b, c⟩ = true := by
    rw [hS]
    simp only [mvB, lst, Int.toNat_natCast, hd2, insAt_len, ins_get' T f a hfl, Bool.and_eq_true, decide_eq_true_eq, and_true]
    omega
  refine ⟨?_, ?_⟩
  · rw [hi] at hc ⊢
    simp only [doN, hc]
    simp only [e2, e3]
    rw [hS]
    simp
    rw [if_neg (by have := hod; omega), if_neg (by have h9 := remAt_len (s.l.getD b []) c hcl'; rw [List.getD_eq_getElem?_getD] at h9 hcl'; omega)]
  · rw [if_pos rfl, hi]
    have hS2 : doS (doS s ⟨1, a, b, c, d, f⟩) ⟨1, a, d, f, b, c⟩ = mvS (doS s ⟨1, a, b, c, d, f⟩) ⟨1, a, d, f, b, c⟩ := rfl
    rw [hS2, mvS, e1, e2, zoneFix]
    rw [hS]
    simp only [obj, Int.toNat_natCast, List.set_set]
    rw [getD_set_self _ _ _ _ ha2, List.set_set, hset, getD_set_self _ _ _ _ (by simpa using ha2), List.set_set, List.set_set]
    have h1 : (s.o.getD a []).set 3 ((s.o.getD a []).getD 3 0) = s.o.getD a [] := set_getD _ _ _
    rw [h1, set_getD]
    have hca' : (a : Int) = (s.l.getD b []).getD c 0 := hca.symm
    rw [hca', ins_rem' _ _ hcl', set_getD]
theorem doN2 (s : St) (e : Ev) (hc : chk e = 0) (hk : e.k = 2) : doN s e = if (s.o.length : Int) ≤ e.a then 4 else if (obj s e.a).getD e.b.toNat 0 = e.c then 0 else 20 := by simp [doN, hc, hk]
theorem back_set (s : St) (e : Ev) (ok : StOk s) (h0 : doN s e = 0) (hc : chk (inv e) = 0) (hk : e.k = 2 ∨ e.k = 3 ∨ e.k = 4) : Back s e := by
  obtain ⟨k, a, b, c, d, f⟩ := e
  simp only at hk
  have hce := doN_chk h0
  have hi : inv ⟨k, a, b, c, d, f⟩ = ⟨k, a, b, d, c, f⟩ := by
    rcases hk with rfl | rfl | rfl <;> rfl
  have hk1 : k ≠ 1 := by rcases hk with rfl | rfl | rfl <;> decide
  rcases hk with rfl | hk
  · obtain ⟨ha, hb, hb', _⟩ := chk_obj hce rfl
    simp only at ha hb hb'
    rw [doN2 s _ hce rfl] at h0
    have ha2 : a.toNat < s.o.length := by
      by_cases h : (s.o.length : Int) ≤ a
      · rw [if_pos h] at h0
        cases h0
      · omega
    rw [if_neg (by show ¬ (s.o.length : Int) ≤ a; omega)] at h0
    have hv : (obj s a).getD b.toNat 0 = c := by
      by_cases h : (obj s a).getD b.toNat 0 = c
      · exact h
      · rw [if_neg h] at h0
        cases h0
    have hl := obj_len ok ha2
    have hb2 : b.toNat < (s.o.getD a.toNat []).length := by rw [hl]; omega
    have hS : doS s ⟨2, a, b, c, d, f⟩ = ⟨s.o.set a.toNat ((s.o.getD a.toNat []).set b.toNat d), s.l, s.p⟩ := rfl
    refine ⟨?_, ?_⟩
    · rw [hi] at hc ⊢
      rw [doN2 _ _ hc rfl, hS]
      have e1 : (obj ⟨s.o.set a.toNat ((s.o.getD a.toNat []).set b.toNat d), s.l, s.p⟩ a).getD b.toNat 0 = d := by
        rw [obj]
        simp only
        rw [getD_set_self _ _ _ _ ha2, getD_set_self _ _ _ _ hb2]
      rw [if_neg (by simp; omega)]
      exact if_pos e1
    · rw [if_neg hk1, hi]
      show obS (doS s ⟨2, a, b, c, d, f⟩) ⟨2, a, b, d, c, f⟩ = s
      rw [hS, obS]
      simp only [obj]
      rw [getD_set_self _ _ _ _ ha2, List.set_set, List.set_set, ← hv, obj, set_getD, set_getD]
  · have hp : doN s ⟨k, a, b, c, d, f⟩ = if s.p.getD (numAt ⟨k, a, b, c, d, f⟩) 0 = c then 0 else 20 := by
      rcases hk with rfl | rfl <;> simp [doN, hce]
    rw [hp] at h0
    have hv : s.p.getD (numAt ⟨k, a, b, c, d, f⟩) 0 = c := by
      by_cases h : s.p.getD (numAt ⟨k, a, b, c, d, f⟩) 0 = c
      · exact h
      · rw [if_neg h] at h0
        cases h0
    have hS : ∀ (s : St) (c d : Int), doS s ⟨k, a, b, c, d, f⟩ = setP s (numAt ⟨k, a, b, c, d, f⟩) d := by
      rcases hk with rfl | rfl <;> exact fun _ _ _ => rfl
    have hna : numAt ⟨k, a, b, d, c, f⟩ = numAt ⟨k, a, b, c, d, f⟩ := rfl
    have hna2 : numAt ⟨k, a, b, c, d, f⟩ < s.p.length := by
      rw [ok.p]
      rcases hk with rfl | rfl
      · obtain ⟨ha, ha', hb, hb', _⟩ := chk_play hce rfl
        simp only at ha ha' hb hb'
        simp only [numAt]
        simp
        omega
      · obtain ⟨_, hb, hb', _⟩ := chk_game hce rfl
        simp only at hb hb'
        simp only [numAt]
        simp
        omega
    refine ⟨?_, ?_⟩
    · rw [hi] at hc ⊢
      have hp2 : ∀ s : St, doN s ⟨k, a, b, d, c, f⟩ = if s.p.getD (numAt ⟨k, a, b, d, c, f⟩) 0 = d then 0 else 20 := by
        rcases hk with rfl | rfl <;> simp [doN, hc]
      rw [hp2, hS, hna, setP]
      simp only
      rw [getD_set_self _ _ _ _ hna2, if_pos rfl]
    · rw [if_neg hk1, hi, hS s c d]
      have hS2 := hS (setP s (numAt ⟨k, a, b, c, d, f⟩) d) d c
      rw [hS2, hna]
      simp only [setP, List.set_set]
      have h9 := set_getD s.p (numAt ⟨k, a, b, c, d, f⟩) 0
      rw [hv] at h9
      rw [h9]

theorem back (s : St) (e : Ev) (ok : StOk s) (h400 : s.o.length ≤ 400) (h0 : doN s e = 0) (hc : chk (inv e) = 0) : Back s e := by
  have hce := doN_chk h0
  obtain ⟨h1, h2, _⟩ := chk_zero hce
  by_cases hk0 : e.k = 0
  · exact back_make s e ok h0 hc hk0
  by_cases hk5 : e.k = 5
  · exact back_unmake s e ok h400 h0 hc hk5
  by_cases hk1 : e.k = 1
  · exact back_move s e ok h0 hc hk1
  · exact back_set s e ok h0 hc (by omega)
/-- What may not be undone sets a field. -/
theorem back_sets (s : St) (e : Ev) (h0 : doN s e = 0) (hc : chk (inv e) ≠ 0) : setsB e = true := by
  have hce := doN_chk h0
  obtain ⟨h1, h2, hsp, hrg⟩ := chk_zero hce
  obtain ⟨k, a, b, c, d, f⟩ := e
  simp only at h1 h2
  by_cases hs : setsB ⟨k, a, b, c, d, f⟩ = true
  · exact hs
  exfalso
  have hk : k = 0 ∨ k = 5 ∨ k = 1 := by
    simp [setsB] at hs
    omega
  apply hc
  rcases hk with rfl | rfl | rfl
  · obtain ⟨p1, p2, p3, p4, p5, p6, p7, p8⟩ := chk_pair hce (.inl rfl)
    simp only at p1 p2 p3 p4 p5 p6 p7 p8
    simp [inv, chk, inB, spareB, makesB, rangesB, p1, p2, p3, p4, p5, p6, p7, p8]
  · obtain ⟨p1, p2, p3, p4, p5, p6, p7, p8⟩ := chk_pair hce (.inr rfl)
    simp only at p1 p2 p3 p4 p5 p6 p7 p8
    simp [inv, chk, inB, spareB, makesB, rangesB, p1, p2, p3, p4, p5, p6, p7, p8]
  · obtain ⟨p1, p2, p3, p4, p5, p6, p7⟩ := chk_move hce rfl
    simp only at p1 p2 p3 p4 p5 p6 p7
    simp [inv, chk, inB, spareB, makesB, rangesB, p1, p2, p3, p4, p5, p6, p7]
end Go.Proofs.Ytpbocficffbcbaa
namespace Go.Proofs.Ytpbocficffbcbaa
open Go Go.RowKit
set_option linter.unusedVariables false
set_option linter.unusedSimpArgs false

theorem putB_bytes (n : Nat) : ∀ c ∈ putB n, 0 ≤ c ∧ c < 256 := by
  induction n using Nat.strongRecOn with
  | ind n ih =>
    intro c hc
    unfold putB at hc
    split at hc
    · simp at hc
      omega
    · rcases List.mem_cons.1 hc with rfl | h
      · omega
      · exact ih _ (by omega) c h
theorem numsB_bytes (l : List Int) : ∀ c ∈ numsB l, 0 ≤ c ∧ c < 256 := fun c hc => by
  obtain ⟨n, _, h⟩ := List.mem_flatMap.1 hc
  exact putB_bytes _ c h
theorem StC.overB {wa wb wc : World} {cs : Array Value} {s : St} {P : Nat} (ha : StC wa cs s) (hb : StC wb cs s) (k : Upd (fun k => k = P) wb wc) (hP : wa.heap.size ≤ P) : StC wc cs s :=
  hb.upd k (fun i a c hi he ad hd h0 hk => by
    obtain ⟨a', c', h1, h2⟩ := ha.sl i hi
    rw [he] at h1
    simp at h1
    obtain ⟨rfl, rfl⟩ := h1
    have := (h2.at_ ad hd h0).2.1
    change _ = _ at hk
    omega)
theorem doN_move_lt {s : St} {e : Ev} (h : doN s e = 0) (hk : e.k = 1) : e.a < s.o.length := by
  have hc := doN_chk h
  by_cases h2 : (s.o.length : Int) ≤ e.a
  · simp [doN, hc, hk, h2] at h
  · omega
theorem StAt.mk9 {B0 B : Nat} {w1 w2 w3 : World} {c : Array Value} {s : St} (h : StO B0 w1 c s) (hB : B ≤ B0) (k : Below w1.heap.size w1 w2) {PU : Nat} (hobj : w3.heap[PU]? = some (.cells c 79 (0, 0))) (hupd : Upd (fun k => k = PU) w2 w3) (hp : PU < B0 ∨ w1.heap.size ≤ PU) : StAt w3 B PU s c := by
  have key : ∀ i a c', i < 12 → c[i]? = some (.slice a (lenOf s i) c') → ∀ ad, a = some ad → ad.block ≠ PU := fun i a c' hi he ad hd => by
    have h1 := h.fresh i a c' hi he ad hd
    have h2 := h.lt i a c' hi he ad hd
    omega
  exact ⟨hobj, ((h.all k).upd hupd (fun i a c' hi he ad hd hk => key i a c' hi he ad hd hk)).mono hB, key⟩

set_option maxRecDepth 100000 in
set_option maxHeartbeats 3200000 in
theorem eventBack (w : World) (cs : Array Value) (s : St) (h : StC w cs s) (ok : StOk s) (e : Ev) (her : EvR e) :
    Calls Try.prog 14 #[.agg cs, evV e] w (fun x w' => x = .returned (.bool true) ∧ Below w.heap.size w w') := by
  have b0 : Below w.heap.size w ((w.alloc (.cells cs 79)).alloc (.cells (evA e) 64)) := ((Below.refl _ w).alloc (Nat.le_refl _) _).alloc (by simp) _
  have oc := alloc_obj (x := .cells (evA e) 64) (alloc_new w (.cells cs 79))
  have oe := alloc_new (w.alloc (.cells cs 79)) (.cells (evA e) 64)
  rw [World.size_alloc] at oe
  have hsz := h.size
  obtain ⟨lb, hlb⟩ : ∃ lb, lb = longB s 200 := ⟨_, rfl⟩
  have Hlb := Lib.hid hlb
  have B0 := Lib.hid b0
  have Oc := Lib.hid oc
  have Oe := Lib.hid oe
  have H0 := Lib.hid (h.all b0)
  have Ok := Lib.hid ok
  have Her := Lib.hid her
  have hz0 : ((w.alloc (.cells cs 79)).alloc (.cells (evA e) 64)).heap.size = w.heap.size + 2 := by simp
  have Hz0 := Lib.hid hz0
  obtain ⟨ie, hie⟩ : ∃ ie, ie = inv e := ⟨_, rfl⟩
  have cI1 : ∀ w, Calls Try.prog 64 #[evV e] w (EvTo w ie) := fun w => by rw [hie]; exact invert w e
  have cI2 : ∀ w, Calls Try.prog 64 #[evV ie] w (EvTo w e) := fun w => by
    have := invert w ie
    rwa [hie, inv_inv, ← hie] at this
  have CI1 := Lib.hid cI1
  have CI2 := Lib.hid cI2
  have Hie := Lib.hid hie
  clear b0 oc oe h ok hlb hz0 her hie cI1 cI2
  go_enter Try.func14, Try.ntmps14
  go_wp2_with fail
  generalize ((w.alloc (.cells cs 79)).alloc (.cells (evA e) 64)) = w0 at *
  refine (alive12 _).mono ?_
  rintro x w1 ⟨rfl, hb1⟩
  have hw1 : w.heap.size + 2 ≤ w1.heap.size := by have := hb1.size; have := Hz0.out; omega
  have Oc1 := Lib.hid (below_obj hb1 Oc.out (obj_lt Oc.out))
  have Oe1 := Lib.hid (below_obj hb1 Oe.out (obj_lt Oe.out))
  have H1 := Lib.hid (H0.out.all hb1)
  have B1 := Lib.hid (B0.out.trans (hb1.mono B0.out.size))
  clear hb1
  go_wp2_with (refine wpList_load_whole rfl 79 (.tmp 2) rfl (w.heap.size) rfl 79 cs (0, 0) Oc1.out _ Try.underlying79 rfl (by rw [hsz]; exact Try.sizeSt) ?_)
  refine (long _ cs s H1.out 200 (by decide) lb Hlb.out).mono ?_
  rintro x w2 ⟨rfl, hb2⟩
  have Oc2 := Lib.hid (below_obj hb2 Oc1.out (obj_lt Oc1.out))
  have Oe2 := Lib.hid (below_obj hb2 Oe1.out (obj_lt Oe1.out))
  have H2 := Lib.hid (H1.out.all hb2)
  have B2 := Lib.hid (B1.out.trans (hb2.mono B1.out.size))
  have hw2 := hb2.size
  clear hb2
  cases lb
  rotate_left
  · go_wp2_with fail
    go_ret
    exact ⟨rfl, B2.out⟩
  have fits := longB_fits Ok.out Hlb.out.symm
  have Fi := Lib.hid (fits.mono (show 200 + 10 ≤ 100000 by decide))
  have F1 := Lib.hid fits
  clear fits
  have hx : Below w2.heap.size w2 w2.drew := (Below.refl _ _).drew
  have HT := Lib.hid (fun (x : World) (hb : Below w2.heap.size w2 x) => EvCells.of (below_obj hb Oe2.out (obj_lt Oe2.out)))
  have Q0 := Lib.hid (fun w => (ev_neq w e e).trans (by simp : _ = Result.ok (Value.bool false) w))
  have q := Q0.out
  go_wp2_with fail
  refine wp_region_held_drew (S := fun x => x.cell? ⟨w.heap.size + 1, 0, none⟩ = some (.int .i64 e.k) ∧ x.cell? ⟨w.heap.size + 1, 1, none⟩ = some (.int .i64 e.a) ∧ x.cell? ⟨w.heap.size + 1, 2, none⟩ = some (.int .i64 e.b) ∧ x.cell? ⟨w.heap.size + 1, 3, none⟩ = some (.int .i64 e.c) ∧ x.cell? ⟨w.heap.size + 1, 4, none⟩ = some (.int .i64 e.d) ∧ x.cell? ⟨w.heap.size + 1, 5, none⟩ = some (.int .i64 e.e)) (by kernel_rfl) (HT.out _ hx) (fun hHeld => ?_)
  refine wpAnyH_take (i := 0) (oi := ⟨some 14, _, _, _, _, _⟩) (v := ?_) rfl (by kernel_rfl) (by kernel_rfl) (by kernel_rfl) (fun _ _ _ h => h) (Or.inl ⟨by rfl, ?_⟩) hHeld ?_
  rotate_left
  · intro w' hS'
    (try dsimp only at hS')
    go_simp
    try with_reducible rfl
  try simp only [Act.put, List.setIfInBounds_toArray, List.set_cons_zero, List.set_cons_succ]
  refine wpAnyH_take (i := 3) (oi := ⟨some 17, _, _, _, _, _⟩) (v := ?_) rfl (by kernel_rfl) (by kernel_rfl) (by kernel_rfl) (fun _ _ _ h => h) (Or.inl ⟨by rfl, ?_⟩) hHeld ?_
  rotate_left
  · intro w' hS'
    (try dsimp only at hS')
    go_simp
    try with_reducible rfl
  try simp only [Act.put, List.setIfInBounds_toArray, List.set_cons_zero, List.set_cons_succ]
  refine wpAnyH_all (rs := [1]) (by kernel_rfl) (by simp) ?_
  intro ix hix
  obtain rfl : ix = 1 := by simpa using hix
  clear hix
  refine wpOp_step (o := ⟨some 15, _, _, _, _, _⟩) rfl (fun K hK => ?_)
  have HK := Lib.hid hK
  clear hK
  go_simp
  refine (CI1.out _).mono ?_
  rintro x wn ⟨rfl, hb⟩
  replace hx := hx.trans (hb.mono hx.size)
  clear hb
  go_wp2_with fail
  refine HK.out _ _ ⟨(HT.out _ hx), ?_⟩
  clear HK
  try clear hHeld
  have hHeld := (HT.out _ hx)
  try simp only [Act.put, List.setIfInBounds_toArray, List.set_cons_zero, List.set_cons_succ]
  refine wpAnyH_all (rs := [2]) (by kernel_rfl) (by simp) ?_
  intro ix hix
  obtain rfl : ix = 2 := by simpa using hix
  clear hix
  refine wpOp_step (o := ⟨some 16, _, _, _, _, _⟩) rfl (fun K hK => ?_)
  have HK := Lib.hid hK
  clear hK
  go_simp
  refine (CI2.out _).mono ?_
  rintro x wn ⟨rfl, hb⟩
  replace hx := hx.trans (hb.mono hx.size)
  clear hb
  go_wp2_with fail
  refine HK.out _ _ ⟨(HT.out _ hx), ?_⟩
  clear HK
  try clear hHeld
  have hHeld := (HT.out _ hx)
  try simp only [Act.put, List.setIfInBounds_toArray, List.set_cons_zero, List.set_cons_succ]
  refine wpAnyH_take (i := 4) (oi := ⟨some 18, _, _, _, _, _⟩) (v := ?_) rfl (by kernel_rfl) (by kernel_rfl) (by kernel_rfl) (fun _ _ _ h => h) (Or.inl ⟨by rfl, ?_⟩) hHeld ?_
  rotate_left
  · intro w' hS'
    (try dsimp only at hS')
    go_simp
    try with_reducible rfl
  try simp only [Act.put, List.setIfInBounds_toArray, List.set_cons_zero, List.set_cons_succ]
  refine wpAnyH_done (by kernel_rfl) ?_ _
  clear hHeld
  have hb := hx
  clear hx
  have Oc3 := Lib.hid (below_obj hb Oc2.out (obj_lt Oc2.out))
  have Oe3 := Lib.hid (below_obj hb Oe2.out (obj_lt Oe2.out))
  have H3 := Lib.hid (H2.out.all hb)
  have B3 := Lib.hid (B2.out.trans (hb.mono B2.out.size))
  have hw3 := hb.size
  clear hb
  generalize wn = w3 at *
  clear HT q
  obtain ⟨x0, x1, x2, x3, x4, x5⟩ := EvCells.of Oe3.out
  go_wp2_with fail
  refine (check _ e).mono ?_
  rintro x w4 ⟨rfl, hb⟩
  clear x0 x1 x2 x3 x4 x5
  have Oc4 := Lib.hid (below_obj hb Oc3.out (obj_lt Oc3.out))
  have Oe4 := Lib.hid (below_obj hb Oe3.out (obj_lt Oe3.out))
  have H4 := Lib.hid (H3.out.all hb)
  have B4 := Lib.hid (B3.out.trans (hb.mono B3.out.size))
  have hw4 := hb.size
  clear hb
  obtain ⟨ce, hce⟩ : ∃ ce, ce = chk e := ⟨_, rfl⟩
  rw [← hce]
  have Hce := Lib.hid hce
  clear hce
  by_cases hc0 : ce = 0
  rotate_left
  · have Hc0 := Lib.hid hc0
    rw [errV_pos _ _ hc0]
    clear hc0
    obtain ⟨x0, x1, x2, x3, x4, x5⟩ := EvCells.of Oe4.out
    go_wp2_with (refine wpList_load_whole rfl 79 (.tmp 2) rfl (w.heap.size) rfl 79 cs (0, 0) Oc4.out _ Try.underlying79 rfl (by rw [hsz]; exact Try.sizeSt) ?_)
    refine (apply _ cs s H4.out Ok.out Fi.out e).mono ?_
    rintro x w5 ⟨c7, rfl, h7, hb⟩
    obtain ⟨n, hn⟩ : ∃ n, n = doN s e := ⟨_, rfl⟩
    rw [← hn] at h7 ⊢
    have Hn := Lib.hid hn
    have hc7 := h7.size
    have H7 := Lib.hid h7
    have On5 := Lib.hid (alloc_new w5 (.cells zSt 79))
    clear hn h7 x0 x1 x2 x3 x4 x5
    have Oc5 := Lib.hid (below_obj hb Oc4.out (obj_lt Oc4.out))
    have Oe5 := Lib.hid (below_obj hb Oe4.out (obj_lt Oe4.out))
    have H5 := Lib.hid (H4.out.all hb)
    have B5 := Lib.hid (B4.out.trans (hb.mono B4.out.size))
    have hw5 := hb.size
    clear hb
    have hn0 : n ≠ 0 := by rw [Hn.out]; intro h; have := doN_chk h; have := Hce.out; have := Hc0.out; omega
    have Hn0 := Lib.hid hn0
    rw [errV_pos _ _ hn0]
    have ht : StC w5 c7 st0 := by have := H7.out.c; rwa [if_neg hn0] at this
    have Ht := Lib.hid ht
    clear hn0 ht
    go_wp2_with (first | (refine wpList_store_whole rfl 79 (.tmp 7) (.tmp 39) rfl (w5.heap.size) rfl 79 zSt c7 rfl On5.out (by rw [hc7]; exact Try.sizeSt) (by rw [hc7]; rfl) H7.out.c.one ?_; intro w6 hobj hupd; have hb := stored_below hupd; have O76 := Lib.hid hobj; have H76 := Lib.hid (H7.out.c.all hb); have Oc6 := Lib.hid (below_obj hb Oc5.out (obj_lt Oc5.out)); have Oe6 := Lib.hid (below_obj hb Oe5.out (obj_lt Oe5.out)); have H6 := Lib.hid (H5.out.all hb); have B6 := Lib.hid (B5.out.trans (hb.mono B5.out.size)); have hw6 := hb.size; have hp7 := obj_lt hobj; clear hb hobj hupd) | (refine wpList_load_whole rfl 79 (.tmp 7) rfl (w5.heap.size) rfl 79 c7 (0, 0) O76.out _ Try.underlying79 rfl (by rw [hc7]; exact Try.sizeSt) ?_))
    have H7s := Lib.hid (show StC w6 c7 st0 by have := H76.out; rwa [if_neg Hn0.out] at this)
    refine (states _ _ _ _ _ H7s.out (zSt_O 0 w6).c st0_ok st0_ok true (stEq_self _).symm).mono ?_
    rintro x wn ⟨rfl, hb⟩
    have Bd := Lib.hid (B6.out.trans (hb.mono B6.out.size))
    clear hb
    go_wp2_with fail
    go_ret
    exact ⟨rfl, Bd.out⟩
  subst hc0
  rw [errV_zero]
  obtain ⟨x0, x1, x2, x3, x4, x5⟩ := EvCells.of Oe4.out
  go_wp2_with fail
  refine (evBytes _ e Her.out).mono ?_
  rintro x w4b ⟨ab, cb, rfl, hrb, hfb, hb⟩
  have Hrb := Lib.hid hrb.sl
  clear hrb hfb x0 x1 x2 x3 x4 x5
  have Oc4b := Lib.hid (below_obj hb Oc4.out (obj_lt Oc4.out))
  have Oe4b := Lib.hid (below_obj hb Oe4.out (obj_lt Oe4.out))
  have H4b := Lib.hid (H4.out.all hb)
  have B4b := Lib.hid (B4.out.trans (hb.mono B4.out.size))
  have hw4b := hb.size
  clear hb
  have hbl := numsB_len (evN e) Her.out
  obtain ⟨nb, hnb⟩ : ∃ nb, nb = numsB (evN e) := ⟨_, rfl⟩
  rw [← hnb] at Hrb hbl ⊢
  have Hnb := Lib.hid hnb
  clear hnb
  have hl6 : (evN e).length = 6 := rfl
  rw [hl6] at hbl
  obtain ⟨nl, hnl⟩ : ∃ nl, nl = nb.length := ⟨_, rfl⟩
  rw [← hnl] at Hrb hbl ⊢
  clear hl6
  have Hnl := Lib.hid hnl
  clear hnl
  have hby : ∀ c ∈ nb, 0 ≤ c ∧ c < 256 := by rw [Hnb.out]; exact numsB_bytes _
  have Hby := Lib.hid hby
  clear hby
  go_wp2_with fail
  refine (parse _ ab nl cb nb Hrb.out Hby.out (by omega) (e, 0) (by rw [Hnb.out]; exact (parseS_bytes e Her.out Hce.out.symm).symm)).mono ?_
  rintro x w4c ⟨rfl, hb⟩
  have Oc4c := Lib.hid (below_obj hb Oc4b.out (obj_lt Oc4b.out))
  have Oe4c := Lib.hid (below_obj hb Oe4b.out (obj_lt Oe4b.out))
  have H4c := Lib.hid (H4b.out.all hb)
  have B4c := Lib.hid (B4b.out.trans (hb.mono B4b.out.size))
  have hw4c := hb.size
  clear hb
  rw [errV_zero]
  have q := Q0.out
  have hb : Below w4c.heap.size w4c (w4c.alloc (.cells (evA e) 64)) := (Below.refl _ _).alloc (Nat.le_refl _) _
  have Oc4d := Lib.hid (below_obj hb Oc4c.out (obj_lt Oc4c.out))
  have Oe4d := Lib.hid (below_obj hb Oe4c.out (obj_lt Oe4c.out))
  have H4d := Lib.hid (H4c.out.all hb)
  have B4d := Lib.hid (B4c.out.trans (hb.mono B4c.out.size))
  have hw4d := hb.size
  clear hb
  obtain ⟨x0, x1, x2, x3, x4, x5⟩ := EvCells.of Oe4d.out
  go_wp2_with (refine wpList_load_whole rfl 79 (.tmp 2) rfl (w.heap.size) rfl 79 cs (0, 0) Oc4d.out _ Try.underlying79 rfl (by rw [hsz]; exact Try.sizeSt) ?_)
  refine (apply _ cs s H4d.out Ok.out Fi.out e).mono ?_
  rintro x w5 ⟨c7, rfl, h7, hb⟩
  obtain ⟨n, hn⟩ : ∃ n, n = doN s e := ⟨_, rfl⟩
  rw [← hn] at h7 ⊢
  have Hn := Lib.hid hn
  have hc7 := h7.size
  have H7 := Lib.hid h7
  have On5 := Lib.hid (alloc_new w5 (.cells zSt 79))
  clear hn h7 x0 x1 x2 x3 x4 x5
  have Oc5 := Lib.hid (below_obj hb Oc4d.out (obj_lt Oc4d.out))
  have Oe5 := Lib.hid (below_obj hb Oe4d.out (obj_lt Oe4d.out))
  have H5 := Lib.hid (H4d.out.all hb)
  have B5 := Lib.hid (B4d.out.trans (hb.mono B4d.out.size))
  have hw5 := hb.size
  clear hb
  clear q
  by_cases hn0 : n = 0
  rotate_left
  · have Hn0 := Lib.hid hn0
    rw [errV_pos _ _ hn0]
    have ht : StC w5 c7 st0 := by have := H7.out.c; rwa [if_neg hn0] at this
    have Ht := Lib.hid ht
    clear hn0 ht
    go_wp2_with (first | (refine wpList_store_whole rfl 79 (.tmp 7) (.tmp 39) rfl (w5.heap.size) rfl 79 zSt c7 rfl On5.out (by rw [hc7]; exact Try.sizeSt) (by rw [hc7]; rfl) H7.out.c.one ?_; intro w6 hobj hupd; have hb := stored_below hupd; have O76 := Lib.hid hobj; have H76 := Lib.hid (H7.out.c.all hb); have Oc6 := Lib.hid (below_obj hb Oc5.out (obj_lt Oc5.out)); have Oe6 := Lib.hid (below_obj hb Oe5.out (obj_lt Oe5.out)); have H6 := Lib.hid (H5.out.all hb); have B6 := Lib.hid (B5.out.trans (hb.mono B5.out.size)); have hw6 := hb.size; have hp7 := obj_lt hobj; clear hb hobj hupd) | (refine wpList_load_whole rfl 79 (.tmp 7) rfl (w5.heap.size) rfl 79 c7 (0, 0) O76.out _ Try.underlying79 rfl (by rw [hc7]; exact Try.sizeSt) ?_))
    have H7s := Lib.hid (show StC w6 c7 st0 by have := H76.out; rwa [if_neg Hn0.out] at this)
    refine (states _ _ _ _ _ H7s.out (zSt_O 0 w6).c st0_ok st0_ok true (stEq_self _).symm).mono ?_
    rintro x wn ⟨rfl, hb⟩
    have Bd := Lib.hid (B6.out.trans (hb.mono B6.out.size))
    clear hb
    go_wp2_with fail
    go_ret
    exact ⟨rfl, Bd.out⟩
  subst hn0
  rw [errV_zero]
  have htt : (if (0 : Int) = 0 then doS s e else st0) = doS s e := if_pos rfl
  rw [htt] at H7
  clear htt
  obtain ⟨tt, htt⟩ : ∃ tt, tt = doS s e := ⟨_, rfl⟩
  rw [← htt] at H7
  have Htt := Lib.hid htt
  clear htt
  go_wp2_with (refine wpList_store_whole rfl 79 (.tmp 7) (.tmp 39) rfl (w5.heap.size) rfl 79 zSt c7 rfl On5.out (by rw [hc7]; exact Try.sizeSt) (by rw [hc7]; rfl) H7.out.c.one ?_; intro w6 hobj hupd; have hb := stored_below hupd; have O76 := Lib.hid hobj; have H76 := Lib.hid (H7.out.c.all hb); have Oc6 := Lib.hid (below_obj hb Oc5.out (obj_lt Oc5.out)); have Oe6 := Lib.hid (below_obj hb Oe5.out (obj_lt Oe5.out)); have H6 := Lib.hid (H5.out.all hb); have B6 := Lib.hid (B5.out.trans (hb.mono B5.out.size)); have hw6 := hb.size; have hp7 := obj_lt hobj; obtain ⟨x0, x1, x2, x3, x4, x5⟩ := EvCells.of Oe6.out; clear hb hobj hupd)
  refine (CI1.out _).mono ?_
  rintro x w7 ⟨rfl, hb⟩
  clear x0 x1 x2 x3 x4 x5
  have O77 := Lib.hid (below_obj hb O76.out (obj_lt O76.out))
  have H77 := Lib.hid (H76.out.all hb)
  have Oc7 := Lib.hid (below_obj hb Oc6.out (obj_lt Oc6.out))
  have Oe7 := Lib.hid (below_obj hb Oe6.out (obj_lt Oe6.out))
  have H7 := Lib.hid (H6.out.all hb)
  have B7 := Lib.hid (B6.out.trans (hb.mono B6.out.size))
  have hw7 := hb.size
  clear hb
  go_wp2_with fail
  refine (check _ ie).mono ?_
  rintro x w8 ⟨rfl, hb⟩
  have O78 := Lib.hid (below_obj hb O77.out (obj_lt O77.out))
  have H78 := Lib.hid (H77.out.all hb)
  have Oc8 := Lib.hid (below_obj hb Oc7.out (obj_lt Oc7.out))
  have Oe8 := Lib.hid (below_obj hb Oe7.out (obj_lt Oe7.out))
  have H8 := Lib.hid (H7.out.all hb)
  have B8 := Lib.hid (B7.out.trans (hb.mono B7.out.size))
  have hw8 := hb.size
  clear hb
  obtain ⟨ci, hci⟩ : ∃ ci, ci = chk ie := ⟨_, rfl⟩
  rw [← hci]
  have Hci := Lib.hid hci
  clear hci
  by_cases hci0 : ci = 0
  rotate_left
  · have Hci0 := Lib.hid hci0
    rw [errV_pos _ _ hci0]
    clear hci0
    have Hsb := Lib.hid (back_sets s e Hn.out.symm (by rw [← Hie.out, ← Hci.out]; exact Hci0.out))
    obtain ⟨x0, x1, x2, x3, x4, x5⟩ := EvCells.of Oe8.out
    go_wp2_with fail
    refine (sets _ e).mono ?_
    rintro x wn ⟨rfl, hb⟩
    rw [Hsb.out]
    have Bd := Lib.hid (B8.out.trans (hb.mono B8.out.size))
    clear hb x0 x1 x2 x3 x4 x5
    go_wp2_with fail
    go_ret
    exact ⟨rfl, Bd.out⟩
  subst hci0
  rw [errV_zero]
  have hlen2 := F1.out.o
  have Hbk := Lib.hid (back s e Ok.out (by omega) Hn.out.symm (by rw [← Hie.out, ← Hci.out]))
  have Okt : Hid (StOk tt) := Lib.hid (by rw [Htt.out]; exact doS_ok Ok.out Hn.out.symm)
  have Fit : Hid (Fits tt 100000) := Lib.hid (by rw [Htt.out]; exact (F1.out.do_ e).mono (by decide))
  have hx : Below w8.heap.size w8 w8.drew := (Below.refl _ _).drew
  have HT := Lib.hid (fun (x : World) (hb : Below w8.heap.size w8 x) => (⟨hb, below_obj hb O78.out (obj_lt O78.out), EvCells.of (below_obj hb Oe8.out (obj_lt Oe8.out))⟩ : Below w8.heap.size w8 x ∧ x.heap[w5.heap.size]? = some (.cells c7 79 (0, 0)) ∧ x.cell? ⟨w.heap.size + 1, 0, none⟩ = some (.int .i64 e.k) ∧ x.cell? ⟨w.heap.size + 1, 1, none⟩ = some (.int .i64 e.a) ∧ x.cell? ⟨w.heap.size + 1, 2, none⟩ = some (.int .i64 e.b) ∧ x.cell? ⟨w.heap.size + 1, 3, none⟩ = some (.int .i64 e.c) ∧ x.cell? ⟨w.heap.size + 1, 4, none⟩ = some (.int .i64 e.d) ∧ x.cell? ⟨w.heap.size + 1, 5, none⟩ = some (.int .i64 e.e)))
  go_wp2_with fail
  refine wp_region_held_drew (S := fun x => Below w8.heap.size w8 x ∧ x.heap[w5.heap.size]? = some (.cells c7 79 (0, 0)) ∧ x.cell? ⟨w.heap.size + 1, 0, none⟩ = some (.int .i64 e.k) ∧ x.cell? ⟨w.heap.size + 1, 1, none⟩ = some (.int .i64 e.a) ∧ x.cell? ⟨w.heap.size + 1, 2, none⟩ = some (.int .i64 e.b) ∧ x.cell? ⟨w.heap.size + 1, 3, none⟩ = some (.int .i64 e.c) ∧ x.cell? ⟨w.heap.size + 1, 4, none⟩ = some (.int .i64 e.d) ∧ x.cell? ⟨w.heap.size + 1, 5, none⟩ = some (.int .i64 e.e)) (by kernel_rfl) (HT.out _ hx) (fun hHeld => ?_)
  refine wpAnyH_take (i := 0) (oi := ⟨some 53, _, _, _, _, _⟩) rfl (by kernel_rfl) (by kernel_rfl) (by kernel_rfl) (fun _ _ _ h => h) (Or.inl ⟨by rfl, fun w' hw => exec_load_whole 79 (.tmp 7) rfl (w5.heap.size) rfl 79 c7 (0, 0) _ hw.2.1 Try.underlying79 rfl (by rw [hc7]; exact Try.sizeSt)⟩) hHeld ?_
  try simp only [Act.put, List.setIfInBounds_toArray, List.set_cons_zero, List.set_cons_succ]
  refine wpAnyH_take (i := 1) (oi := ⟨some 54, _, _, _, _, _⟩) (v := ?_) rfl (by kernel_rfl) (by kernel_rfl) (by kernel_rfl) (fun _ _ _ h => h) (Or.inl ⟨by rfl, ?_⟩) hHeld ?_
  rotate_left
  · intro w' hS'
    (try dsimp only at hS')
    go_simp
    try with_reducible rfl
  try simp only [Act.put, List.setIfInBounds_toArray, List.set_cons_zero, List.set_cons_succ]
  refine wpAnyH_all (rs := [2, 7]) (by kernel_rfl) (by simp) ?_
  intro ix hix
  have hix' : ix = 2 ∨ ix = 7 := by simpa using hix
  clear hix
  rcases hix' with rfl | rfl
  · skip
    refine wpOp_step (o := ⟨some 55, _, _, _, _, _⟩) rfl (fun K hK => ?_)
    have HK := Lib.hid hK
    clear hK
    go_simp
    refine (CI1.out _).mono ?_
    rintro x wi ⟨rfl, hb⟩
    replace hx := hx.trans (hb.mono hx.size)
    clear hb
    go_wp2_with fail
    refine HK.out _ _ ⟨(HT.out _ hx), ?_⟩
    clear HK
    try clear hHeld
    have hHeld := (HT.out _ hx)
    try simp only [Act.put, List.setIfInBounds_toArray, List.set_cons_zero, List.set_cons_succ]
    refine wpAnyH_all (rs := [3, 7]) (by kernel_rfl) (by simp) ?_
    intro ix hix
    have hix' : ix = 3 ∨ ix = 7 := by simpa using hix
    clear hix
    rcases hix' with rfl | rfl
    · skip
      refine wpOp_step (o := ⟨some 56, _, _, _, _, _⟩) rfl (fun K hK => ?_)
      have HK := Lib.hid hK
      clear hK
      go_simp
      refine (apply _ c7 tt (H78.out.all hx) Okt.out Fit.out ie).mono ?_
      rintro x wp ⟨c9, rfl, h9, hb⟩
      have hn9 : doN tt ie = 0 := by rw [Htt.out, Hie.out]; exact Hbk.out.1
      rw [hn9] at h9 ⊢
      rw [if_pos rfl] at h9
      rw [errV_zero]
      clear hn9
      have Hn9 := Lib.hid (h9.mono hx.size)
      have hc9 := h9.size
      have Hb9 := Lib.hid hb
      have H9b := Lib.hid h9
      have hxs := hx.size
      replace hx := hx.trans (hb.mono hx.size)
      clear hb h9
      go_wp2_with fail
      refine HK.out _ _ ⟨(HT.out _ hx), ?_⟩
      clear HK
      try clear hHeld
      have hHeld := (HT.out _ hx)
      try simp only [Act.put, List.setIfInBounds_toArray, List.set_cons_zero, List.set_cons_succ]
      refine wpAnyH_take (i := 4) (oi := ⟨some 52, _, _, _, _, _⟩) (v := ?_) rfl (by kernel_rfl) (by kernel_rfl) (by kernel_rfl) (fun _ _ _ h => h) (Or.inl ⟨by rfl, ?_⟩) hHeld ?_
      rotate_left
      · intro w' hS'
        (try dsimp only at hS')
        go_simp
        try with_reducible rfl
      try simp only [Act.put, List.setIfInBounds_toArray, List.set_cons_zero, List.set_cons_succ]
      refine wpAnyH_take (i := 5) (oi := ⟨some 57, _, _, _, _, _⟩) (v := ?_) rfl (by kernel_rfl) (by kernel_rfl) (by kernel_rfl) (fun _ _ _ h => h) (Or.inl ⟨by rfl, ?_⟩) hHeld ?_
      rotate_left
      · intro w' hS'
        (try dsimp only at hS')
        go_simp
        try with_reducible rfl
      try simp only [Act.put, List.setIfInBounds_toArray, List.set_cons_zero, List.set_cons_succ]
      refine wpAnyH_take (i := 6) (oi := ⟨some 58, _, _, _, _, _⟩) (v := ?_) rfl (by kernel_rfl) (by kernel_rfl) (by kernel_rfl) (fun _ _ _ h => h) (Or.inl ⟨by rfl, ?_⟩) hHeld ?_
      rotate_left
      · intro w' hS'
        (try dsimp only at hS')
        go_simp
        try with_reducible rfl
      try simp only [Act.put, List.setIfInBounds_toArray, List.set_cons_zero, List.set_cons_succ]
      refine wpAnyH_all (rs := [7]) (by kernel_rfl) (by simp) ?_
      intro ix hix
      obtain rfl : ix = 7 := by simpa using hix
      clear hix
      refine wpOp_step (o := ⟨some 9, _, _, _, _, _⟩) rfl (fun K hK => ?_)
      have HK := Lib.hid hK
      clear hK
      go_simp
      have Hoz := Lib.hid (alloc_new wp (.cells zSt 79))
      have hpu : w8.heap.size ≤ wp.heap.size := hx.size
      replace hx := hx.alloc hx.size (.cells zSt 79)
      go_wp2_with fail
      refine HK.out _ _ ⟨(HT.out _ hx), ?_⟩
      clear HK
      try clear hHeld
      have hHeld := (HT.out _ hx)
      try simp only [Act.put, List.setIfInBounds_toArray, List.set_cons_zero, List.set_cons_succ]
      refine wpAnyH_all (rs := [8]) (by kernel_rfl) (by simp) ?_
      intro ix hix
      obtain rfl : ix = 8 := by simpa using hix
      clear hix
      refine wpOp_step (o := ⟨none, _, _, _, _, _⟩) rfl (fun K hK => ?_)
      have HK := Lib.hid hK
      clear hK
      rw [if_pos (by rfl)]
      refine wp_store_whole 79 (.tmp 9) (.tmp 57) rfl wp.heap.size rfl 79 zSt c9 rfl Hoz.out (by rw [hc9]; exact Try.sizeSt) (by rw [hc9]; rfl) Hn9.out.c.one ?_
      intro w9 hobj hupd
      have Hst9 := Lib.hid (StAt.mk9 (B := w8.heap.size) H9b.out hxs ((Below.refl _ wp).alloc (Nat.le_refl _) _) hobj hupd (.inr (Nat.le_refl _)))
      have hx9 := hx.trans (hupd.below (B := w8.heap.size) (by have := hx.size; omega) (fun k hk hb => by change _ = _ at hb; omega))
      have hobj9 := Lib.hid hobj
      clear hupd hobj
      refine HK.out _ _ ⟨(HT.out _ hx9), ?_⟩
      clear HK
      try clear hHeld
      have hHeld := (HT.out _ hx9)
      try simp only [Act.put, List.setIfInBounds_toArray, List.set_cons_zero, List.set_cons_succ]
      refine wpAnyH_take (i := 9) (oi := ⟨some 8, _, _, _, _, _⟩) (v := ?_) rfl (by kernel_rfl) (by kernel_rfl) (by kernel_rfl) (fun _ _ _ h => h) (Or.inl ⟨by rfl, ?_⟩) hHeld ?_
      rotate_left
      · intro w' hS'
        (try dsimp only at hS')
        go_simp
        try with_reducible rfl
      try simp only [Act.put, List.setIfInBounds_toArray, List.set_cons_zero, List.set_cons_succ]
      refine wpAnyH_done (by kernel_rfl) ?_ _
      clear hHeld HT
      have hb := hx9
      clear hx9
      have Oc9 := Lib.hid (below_obj hb Oc8.out (obj_lt Oc8.out))
      have Oe9 := Lib.hid (below_obj hb Oe8.out (obj_lt Oe8.out))
      have H9 := Lib.hid (H8.out.all hb)
      have B9 := Lib.hid (B8.out.trans (hb.mono B8.out.size))
      have hw9 := hb.size
      clear hb
      have hpw : wp.heap.size < w9.heap.size := obj_lt hobj9.out
      obtain ⟨uu, huu⟩ : ∃ uu, uu = doS tt ie := ⟨_, rfl⟩
      rw [← huu] at Hst9
      have Huu := Lib.hid huu
      clear huu
      have hbk2 := Hbk.out.2
      rw [← Hie.out, ← Htt.out, ← Huu.out] at hbk2
      have Hbk2 := Lib.hid hbk2
      clear hbk2
      obtain ⟨x0, x1, x2, x3, x4, x5⟩ := EvCells.of Oe9.out
      by_cases hk1 : e.k = 1
      rotate_left
      · have hkk : (e.k == 1) = false := by simp [hk1]
        have hus : uu = s := by have := Hbk2.out; rwa [if_neg hk1] at this
        rw [hus] at Hst9
        clear hk1 hus
        go_wp2_with (first | (refine wpList_load_wholeG rfl 79 (.tmp 9) rfl (wp.heap.size) rfl 79 c9 (0, 0) Hst9.out.obj _ Try.underlying79 rfl (by rw [hc9]; exact Try.sizeSt) ?_) | (refine wpList_load_wholeG rfl 79 (.tmp 2) rfl (w.heap.size) rfl 79 cs (0, 0) Oc9.out _ Try.underlying79 rfl (by rw [hsz]; exact Try.sizeSt) ?_))
        refine (states _ _ _ _ _ Hst9.out.own.c H9.out Ok.out Ok.out true (stEq_self _).symm).mono ?_
        rintro x wn ⟨rfl, hb⟩
        have Bd := Lib.hid (B9.out.trans (hb.mono B9.out.size))
        clear hb
        go_wp2_with fail
        go_ret
        exact ⟨rfl, Bd.out⟩
      have hkk : (e.k == 1) = true := by simp [hk1]
      have hus : zoneFix uu s e.a.toNat = s := by have := Hbk2.out; rwa [if_pos hk1] at this
      have Hus := Lib.hid hus
      have ha0 := (chk_move Hce.out.symm hk1).1
      obtain ⟨a, ha⟩ : ∃ a : Nat, e.a = a := ⟨e.a.toNat, by omega⟩
      have halt : a < s.o.length := by have := doN_move_lt Hn.out.symm hk1; omega
      have hul : uu.o.length = s.o.length := by rw [← congrArg (fun t => t.o.length) Hus.out]; simp [zoneFix]
      rw [ha, Int.toNat_natCast] at Hus
      rw [ha] at x1
      have X1 := Lib.hid x1
      clear hus hk1 x0 x1 x2 x3 x4 x5
      obtain ⟨ua, uc, hu0, ru, fu⟩ := Hst9.out.own.sz0
      have ku : w9.cell? ⟨wp.heap.size, 0, none⟩ = some (.slice ua uu.o.length uc) := (obj_cell hobj9.out 0).trans hu0
      obtain ⟨sa, sc, hs0, rs⟩ := H9.out.sl 0 (by decide)
      have ks : w9.cell? ⟨w.heap.size, 0, none⟩ = some (.slice sa s.o.length sc) := (obj_cell Oc9.out 0).trans hs0
      change SlAt w9 18 sa s.o.length sc (objs s.o) at rs
      obtain ⟨ub, uo, rfl, hub, huc⟩ := ru.sl.nonempty (by omega)
      obtain ⟨sb, so, rfl, hsb, hsc⟩ := rs.nonempty (by omega)
      have okuu : ∀ x ∈ uu.o, x.length = 18 := by rw [Huu.out]; exact (doS_ok Okt.out (by rw [Htt.out, Hie.out]; exact Hbk.out.1)).o
      have kz := hsc (a * 18 + 3) _ (objs_get s.o Ok.out.o a 3 halt (by decide))
      have kc := huc (a * 18 + 3) _ (objs_get uu.o okuu a 3 (by omega) (by decide))
      rw [← Nat.add_assoc] at kz kc
      obtain ⟨z, hz⟩ : ∃ z, z = (s.o.getD a []).getD 3 0 := ⟨_, rfl⟩
      rw [← hz] at kz
      obtain ⟨zu, hzu⟩ : ∃ zu, zu = (uu.o.getD a []).getD 3 0 := ⟨_, rfl⟩
      rw [← hzu] at kc
      obtain ⟨_, cur, hcur, _, _⟩ := ru.row _ rfl
      have kf := obj_free hcur (uo + a * 18 + 3)
      have hs4 := (Hst9.out.setObj okuu hu0 a 3 (by omega) (by decide) z)
      have hub2 := hs4.2
      have hst4 := hs4.1
      rw [← Nat.add_assoc, show (⟨uu.o.set a ((uu.o.getD a []).set 3 z), uu.l, uu.p⟩ : St) = s by have := Hus.out; rw [zoneFix, ← hz] at this; exact this] at hst4
      have Hst4 := Lib.hid (hst4.all (w' := (w9.setCell ⟨ub, uo + a * 18 + 3, none⟩ (.int .i64 z)).drew) ((Below.refl _ _).drew))
      have Oc4' := Lib.hid (show (w9.setCell ⟨ub, uo + a * 18 + 3, none⟩ (.int .i64 z)).drew.heap[w.heap.size]? = _ from setCell_obj (p := ⟨ub, uo + a * 18 + 3, none⟩) Oc9.out (by have := obj_lt Oc8.out; show w.heap.size ≠ ub; omega))
      have H4' := Lib.hid (show StC (w9.setCell ⟨ub, uo + a * 18 + 3, none⟩ (.int .i64 z)).drew cs s from StC.overB H8.out H9.out (((Upd.refl (fun k => k = ub) w9).setCell ⟨ub, uo + a * 18 + 3, none⟩ (fun _ => rfl) (.int .i64 z)).drew) hub2)
      have B4' := Lib.hid (show Below w.heap.size w (w9.setCell ⟨ub, uo + a * 18 + 3, none⟩ (.int .i64 z)).drew from (B9.out.setCell (p := ⟨ub, uo + a * 18 + 3, none⟩) (by have := B8.out.size; show w.heap.size ≤ ub; omega) (.int .i64 z)).drew)
      obtain ⟨un, hun⟩ : ∃ un, un = uu.o.length := ⟨_, rfl⟩
      rw [← hun] at ku hul
      obtain ⟨sn, hsn⟩ : ∃ sn, sn = s.o.length := ⟨_, rfl⟩
      rw [← hsn] at ks hul halt
      have HT := Lib.hid (show w9.drew.cell? ⟨wp.heap.size, 0, none⟩ = _ ∧ w9.drew.cell? ⟨w.heap.size, 0, none⟩ = _ ∧ w9.drew.cell? ⟨sb, so + a * 18 + 3, none⟩ = _ ∧ w9.drew.cell? ⟨w.heap.size + 1, 1, none⟩ = _ from ⟨ku, ks, kz, X1.out⟩)
      obtain ⟨x0, x1, x2, x3, x4, x5⟩ := EvCells.of Oe9.out
      clear x1 x2 x3 x4 x5
      have hai1 : (a : Int) < (un : Int) := by omega
      have hai2 : (a : Int) < (sn : Int) := by omega
      clear hu0 ru fu hs0 rs huc hsc hz hzu hcur hs4 hst4 ku ks kz hun hsn okuu ha ha0
      go_wp2_with fail
      clear x0
      refine wp_region_T 13 (fun x => x.cell? ⟨wp.heap.size, 0, none⟩ = some (.slice (some ⟨ub, uo, none⟩) un uc) ∧ x.cell? ⟨w.heap.size, 0, none⟩ = some (.slice (some ⟨sb, so, none⟩) sn sc) ∧ x.cell? ⟨sb, so + a * 18 + 3, none⟩ = some (.int .i64 z) ∧ x.cell? ⟨w.heap.size + 1, 1, none⟩ = some (.int .i64 (a : Int))) (by kernel_rfl) HT.out (fun hHeld => ?_)
      refine wpAnyT_takeU (i := 0) (oi := ⟨some 66, _, _, _, _, _⟩) (v := ?_) rfl (by kernel_rfl) (by kernel_rfl) (by kernel_rfl) (by kernel_rfl) (fun _ _ _ h => h) (Or.inl ⟨by rfl, ?_⟩) (fun _ => hHeld) ?_
      rotate_left
      · intro w' hS'
        (try dsimp only at hS')
        go_simp
        try with_reducible rfl
      try simp only [Act.put, List.setIfInBounds_toArray, List.set_cons_zero, List.set_cons_succ]
      refine wpAnyT_take (i := 1) (oi := ⟨some 67, _, _, _, _, _⟩) (v := ?_) rfl (by kernel_rfl) (by kernel_rfl) (by kernel_rfl) (by kernel_rfl) (fun _ _ _ h => h) (Or.inl ⟨by rfl, ?_⟩) hHeld ?_
      rotate_left
      · intro w' hS'
        (try dsimp only at hS')
        go_simp
        try with_reducible rfl
      try simp only [Act.put, List.setIfInBounds_toArray, List.set_cons_zero, List.set_cons_succ]
      refine wpAnyT_takeU (i := 2) (oi := ⟨some 68, _, _, _, _, _⟩) (v := ?_) rfl (by kernel_rfl) (by kernel_rfl) (by kernel_rfl) (by kernel_rfl) (fun _ _ _ h => h) (Or.inl ⟨by rfl, ?_⟩) (fun _ => hHeld) ?_
      rotate_left
      · intro w' hS'
        (try dsimp only at hS')
        go_simp
        try with_reducible rfl
      try simp only [Act.put, List.setIfInBounds_toArray, List.set_cons_zero, List.set_cons_succ]
      refine wpAnyT_take (i := 3) (oi := ⟨some 69, _, _, _, _, _⟩) (v := ?_) rfl (by kernel_rfl) (by kernel_rfl) (by kernel_rfl) (by kernel_rfl) (fun _ _ _ h => h) (Or.inl ⟨by rfl, ?_⟩) hHeld ?_
      rotate_left
      · intro w' hS'
        (try dsimp only at hS')
        go_simp
        try with_reducible rfl
      try simp only [Act.put, List.setIfInBounds_toArray, List.set_cons_zero, List.set_cons_succ]
      refine wpAnyT_takeU (i := 4) (oi := ⟨some 70, _, _, _, _, _⟩) (v := ?_) rfl (by kernel_rfl) (by kernel_rfl) (by kernel_rfl) (by kernel_rfl) (fun _ _ _ h => h) (Or.inl ⟨by rfl, ?_⟩) (fun _ => hHeld) ?_
      rotate_left
      · intro w' hS'
        (try dsimp only at hS')
        go_simp
        try with_reducible rfl
      try simp only [Act.put, List.setIfInBounds_toArray, List.set_cons_zero, List.set_cons_succ]
      refine wpAnyT_take (i := 5) (oi := ⟨some 71, _, _, _, _, _⟩) (v := ?_) rfl (by kernel_rfl) (by kernel_rfl) (by kernel_rfl) (by kernel_rfl) (fun _ _ _ h => h) (Or.inl ⟨by rfl, ?_⟩) hHeld ?_
      rotate_left
      · intro w' hS'
        (try dsimp only at hS')
        go_simp
        try with_reducible rfl
      try simp only [Act.put, List.setIfInBounds_toArray, List.set_cons_zero, List.set_cons_succ]
      refine wpAnyT_takeU (i := 6) (oi := ⟨some 72, _, _, _, _, _⟩) (v := ?_) rfl (by kernel_rfl) (by kernel_rfl) (by kernel_rfl) (by kernel_rfl) (fun _ _ _ h => h) (Or.inl ⟨by rfl, ?_⟩) (fun _ => hHeld) ?_
      rotate_left
      · intro w' hS'
        (try dsimp only at hS')
        go_simp
        try with_reducible rfl
      try simp only [Act.put, List.setIfInBounds_toArray, List.set_cons_zero, List.set_cons_succ]
      refine wpAnyT_take (i := 7) (oi := ⟨some 73, _, _, _, _, _⟩) (v := ?_) rfl (by kernel_rfl) (by kernel_rfl) (by kernel_rfl) (by kernel_rfl) (fun _ _ _ h => h) (Or.inl ⟨by rfl, ?_⟩) hHeld ?_
      rotate_left
      · intro w' hS'
        (try dsimp only at hS')
        go_simp
        try with_reducible rfl
      try simp only [Act.put, List.setIfInBounds_toArray, List.set_cons_zero, List.set_cons_succ]
      refine wpAnyT_takeU (i := 8) (oi := ⟨some 74, _, _, _, _, _⟩) (v := ?_) rfl (by kernel_rfl) (by kernel_rfl) (by kernel_rfl) (by kernel_rfl) (fun _ _ _ h => h) (Or.inl ⟨by rfl, ?_⟩) (fun _ => hHeld) ?_
      rotate_left
      · intro w' hS'
        (try dsimp only at hS')
        go_simp
        try with_reducible rfl
      try simp only [Act.put, List.setIfInBounds_toArray, List.set_cons_zero, List.set_cons_succ]
      refine wpAnyT_takeU (i := 9) (oi := ⟨some 75, _, _, _, _, _⟩) (v := ?_) rfl (by kernel_rfl) (by kernel_rfl) (by kernel_rfl) (by kernel_rfl) (fun _ _ _ h => h) (Or.inl ⟨by rfl, ?_⟩) (fun _ => hHeld) ?_
      rotate_left
      · intro w' hS'
        (try dsimp only at hS')
        go_simp
        try with_reducible rfl
      try simp only [Act.put, List.setIfInBounds_toArray, List.set_cons_zero, List.set_cons_succ]
      refine wpAnyT_take (i := 10) (oi := ⟨some 76, _, _, _, _, _⟩) (v := ?_) rfl (by kernel_rfl) (by kernel_rfl) (by kernel_rfl) (by kernel_rfl) (fun _ _ _ h => h) (Or.inl ⟨by rfl, ?_⟩) hHeld ?_
      rotate_left
      · intro w' hS'
        (try dsimp only at hS')
        go_simp
        try with_reducible rfl
      try simp only [Act.put, List.setIfInBounds_toArray, List.set_cons_zero, List.set_cons_succ]
      refine wpAnyT_takeU (i := 11) (oi := ⟨some 77, _, _, _, _, _⟩) (v := ?_) rfl (by kernel_rfl) (by kernel_rfl) (by kernel_rfl) (by kernel_rfl) (fun _ _ _ h => h) (Or.inl ⟨by rfl, ?_⟩) (fun _ => hHeld) ?_
      rotate_left
      · intro w' hS'
        (try dsimp only at hS')
        go_simp
        try with_reducible rfl
      try simp only [Act.put, List.setIfInBounds_toArray, List.set_cons_zero, List.set_cons_succ]
      refine wpAnyT_takeU (i := 12) (oi := ⟨some 78, _, _, _, _, _⟩) (v := ?_) rfl (by kernel_rfl) (by kernel_rfl) (by kernel_rfl) (by kernel_rfl) (fun _ _ _ h => h) (Or.inl ⟨by rfl, ?_⟩) (fun _ => hHeld) ?_
      rotate_left
      · intro w' hS'
        (try dsimp only at hS')
        go_simp
        try with_reducible rfl
      try simp only [Act.put, List.setIfInBounds_toArray, List.set_cons_zero, List.set_cons_succ]
      refine wpAnyT_all (rs := [13]) (by kernel_rfl) (by simp) ?_
      intro ix hix
      obtain rfl : ix = 13 := by simpa using hix
      clear hix
      refine wpOp_step (o := ⟨none, _, _, _, _, _⟩) rfl (fun K hK => ?_)
      have HK := Lib.hid hK
      clear hK
      go_simp
      go_wp2_with fail
      refine HK.out _ _ ⟨tl (by kernel_rfl), ?_⟩
      clear HK
      try clear hHeld
      try simp only [Act.put, List.setIfInBounds_toArray, List.set_cons_zero, List.set_cons_succ]
      refine wpAnyT_done (by kernel_rfl) ?_ _
      clear kf kc
      generalize (w9.setCell ⟨ub, uo + a * 18 + 3, none⟩ (.int .i64 z)).drew = wq at *
      go_wp2_with (first | (refine wpList_load_wholeG rfl 79 (.tmp 9) rfl (wp.heap.size) rfl 79 c9 (0, 0) Hst4.out.obj _ Try.underlying79 rfl (by rw [hc9]; exact Try.sizeSt) ?_) | (refine wpList_load_wholeG rfl 79 (.tmp 2) rfl (w.heap.size) rfl 79 cs (0, 0) Oc4'.out _ Try.underlying79 rfl (by rw [hsz]; exact Try.sizeSt) ?_))
      refine (states _ _ _ _ _ Hst4.out.own.c H4'.out Ok.out Ok.out true (stEq_self _).symm).mono ?_
      rintro x wn ⟨rfl, hb⟩
      have Bd := Lib.hid (B4'.out.trans (hb.mono B4'.out.size))
      clear hb
      go_wp2_with fail
      go_ret
      exact ⟨rfl, Bd.out⟩
    · skip
      refine wpOp_step (o := ⟨some 9, _, _, _, _, _⟩) rfl (fun K hK => ?_)
      have HK := Lib.hid hK
      clear hK
      go_simp
      have Hoz := Lib.hid (alloc_new wi (.cells zSt 79))
      have hpu : w8.heap.size ≤ wi.heap.size := hx.size
      replace hx := hx.alloc hx.size (.cells zSt 79)
      go_wp2_with fail
      refine HK.out _ _ ⟨(HT.out _ hx), ?_⟩
      clear HK
      try clear hHeld
      have hHeld := (HT.out _ hx)
      try simp only [Act.put, List.setIfInBounds_toArray, List.set_cons_zero, List.set_cons_succ]
      refine wpAnyH_all (rs := [3]) (by kernel_rfl) (by simp) ?_
      intro ix hix
      obtain rfl : ix = 3 := by simpa using hix
      clear hix
      refine wpOp_step (o := ⟨some 56, _, _, _, _, _⟩) rfl (fun K hK => ?_)
      have HK := Lib.hid hK
      clear hK
      go_simp
      refine (apply _ c7 tt (H78.out.all hx) Okt.out Fit.out ie).mono ?_
      rintro x wp ⟨c9, rfl, h9, hb⟩
      have hpz := obj_lt Hoz.out
      have Hoz := Lib.hid (below_obj hb Hoz.out (obj_lt Hoz.out))
      have hn9 : doN tt ie = 0 := by rw [Htt.out, Hie.out]; exact Hbk.out.1
      rw [hn9] at h9 ⊢
      rw [if_pos rfl] at h9
      rw [errV_zero]
      clear hn9
      have Hn9 := Lib.hid (h9.mono hx.size)
      have hc9 := h9.size
      have Hb9 := Lib.hid hb
      have H9b := Lib.hid h9
      have hxs := hx.size
      replace hx := hx.trans (hb.mono hx.size)
      clear hb h9
      go_wp2_with fail
      refine HK.out _ _ ⟨(HT.out _ hx), ?_⟩
      clear HK
      try clear hHeld
      have hHeld := (HT.out _ hx)
      try simp only [Act.put, List.setIfInBounds_toArray, List.set_cons_zero, List.set_cons_succ]
      refine wpAnyH_take (i := 4) (oi := ⟨some 52, _, _, _, _, _⟩) (v := ?_) rfl (by kernel_rfl) (by kernel_rfl) (by kernel_rfl) (fun _ _ _ h => h) (Or.inl ⟨by rfl, ?_⟩) hHeld ?_
      rotate_left
      · intro w' hS'
        (try dsimp only at hS')
        go_simp
        try with_reducible rfl
      try simp only [Act.put, List.setIfInBounds_toArray, List.set_cons_zero, List.set_cons_succ]
      refine wpAnyH_take (i := 5) (oi := ⟨some 57, _, _, _, _, _⟩) (v := ?_) rfl (by kernel_rfl) (by kernel_rfl) (by kernel_rfl) (fun _ _ _ h => h) (Or.inl ⟨by rfl, ?_⟩) hHeld ?_
      rotate_left
      · intro w' hS'
        (try dsimp only at hS')
        go_simp
        try with_reducible rfl
      try simp only [Act.put, List.setIfInBounds_toArray, List.set_cons_zero, List.set_cons_succ]
      refine wpAnyH_take (i := 6) (oi := ⟨some 58, _, _, _, _, _⟩) (v := ?_) rfl (by kernel_rfl) (by kernel_rfl) (by kernel_rfl) (fun _ _ _ h => h) (Or.inl ⟨by rfl, ?_⟩) hHeld ?_
      rotate_left
      · intro w' hS'
        (try dsimp only at hS')
        go_simp
        try with_reducible rfl
      try simp only [Act.put, List.setIfInBounds_toArray, List.set_cons_zero, List.set_cons_succ]
      refine wpAnyH_all (rs := [8]) (by kernel_rfl) (by simp) ?_
      intro ix hix
      obtain rfl : ix = 8 := by simpa using hix
      clear hix
      refine wpOp_step (o := ⟨none, _, _, _, _, _⟩) rfl (fun K hK => ?_)
      have HK := Lib.hid hK
      clear hK
      rw [if_pos (by rfl)]
      refine wp_store_whole 79 (.tmp 9) (.tmp 57) rfl wi.heap.size rfl 79 zSt c9 rfl Hoz.out (by rw [hc9]; exact Try.sizeSt) (by rw [hc9]; rfl) Hn9.out.c.one ?_
      intro w9 hobj hupd
      have Hst9 := Lib.hid (StAt.mk9 (B := w8.heap.size) H9b.out (by have := hxs; simp at this; omega) (Below.refl _ _) hobj hupd (.inl (by simp)))
      have hx9 := hx.trans (hupd.below (B := w8.heap.size) (by have := hx.size; omega) (fun k hk hb => by change _ = _ at hb; omega))
      have hobj9 := Lib.hid hobj
      clear hupd hobj
      refine HK.out _ _ ⟨(HT.out _ hx9), ?_⟩
      clear HK
      try clear hHeld
      have hHeld := (HT.out _ hx9)
      try simp only [Act.put, List.setIfInBounds_toArray, List.set_cons_zero, List.set_cons_succ]
      refine wpAnyH_take (i := 9) (oi := ⟨some 8, _, _, _, _, _⟩) (v := ?_) rfl (by kernel_rfl) (by kernel_rfl) (by kernel_rfl) (fun _ _ _ h => h) (Or.inl ⟨by rfl, ?_⟩) hHeld ?_
      rotate_left
      · intro w' hS'
        (try dsimp only at hS')
        go_simp
        try with_reducible rfl
      try simp only [Act.put, List.setIfInBounds_toArray, List.set_cons_zero, List.set_cons_succ]
      refine wpAnyH_done (by kernel_rfl) ?_ _
      clear hHeld HT
      have hb := hx9
      clear hx9
      have Oc9 := Lib.hid (below_obj hb Oc8.out (obj_lt Oc8.out))
      have Oe9 := Lib.hid (below_obj hb Oe8.out (obj_lt Oe8.out))
      have H9 := Lib.hid (H8.out.all hb)
      have B9 := Lib.hid (B8.out.trans (hb.mono B8.out.size))
      have hw9 := hb.size
      clear hb
      have hpw : wi.heap.size < w9.heap.size := obj_lt hobj9.out
      obtain ⟨uu, huu⟩ : ∃ uu, uu = doS tt ie := ⟨_, rfl⟩
      rw [← huu] at Hst9
      have Huu := Lib.hid huu
      clear huu
      have hbk2 := Hbk.out.2
      rw [← Hie.out, ← Htt.out, ← Huu.out] at hbk2
      have Hbk2 := Lib.hid hbk2
      clear hbk2
      obtain ⟨x0, x1, x2, x3, x4, x5⟩ := EvCells.of Oe9.out
      by_cases hk1 : e.k = 1
      rotate_left
      · have hkk : (e.k == 1) = false := by simp [hk1]
        have hus : uu = s := by have := Hbk2.out; rwa [if_neg hk1] at this
        rw [hus] at Hst9
        clear hk1 hus
        go_wp2_with (first | (refine wpList_load_wholeG rfl 79 (.tmp 9) rfl (wi.heap.size) rfl 79 c9 (0, 0) Hst9.out.obj _ Try.underlying79 rfl (by rw [hc9]; exact Try.sizeSt) ?_) | (refine wpList_load_wholeG rfl 79 (.tmp 2) rfl (w.heap.size) rfl 79 cs (0, 0) Oc9.out _ Try.underlying79 rfl (by rw [hsz]; exact Try.sizeSt) ?_))
        refine (states _ _ _ _ _ Hst9.out.own.c H9.out Ok.out Ok.out true (stEq_self _).symm).mono ?_
        rintro x wn ⟨rfl, hb⟩
        have Bd := Lib.hid (B9.out.trans (hb.mono B9.out.size))
        clear hb
        go_wp2_with fail
        go_ret
        exact ⟨rfl, Bd.out⟩
      have hkk : (e.k == 1) = true := by simp [hk1]
      have hus : zoneFix uu s e.a.toNat = s := by have := Hbk2.out; rwa [if_pos hk1] at this
      have Hus := Lib.hid hus
      have ha0 := (chk_move Hce.out.symm hk1).1
      obtain ⟨a, ha⟩ : ∃ a : Nat, e.a = a := ⟨e.a.toNat, by omega⟩
      have halt : a < s.o.length := by have := doN_move_lt Hn.out.symm hk1; omega
      have hul : uu.o.length = s.o.length := by rw [← congrArg (fun t => t.o.length) Hus.out]; simp [zoneFix]
      rw [ha, Int.toNat_natCast] at Hus
      rw [ha] at x1
      have X1 := Lib.hid x1
      clear hus hk1 x0 x1 x2 x3 x4 x5
      obtain ⟨ua, uc, hu0, ru, fu⟩ := Hst9.out.own.sz0
      have ku : w9.cell? ⟨wi.heap.size, 0, none⟩ = some (.slice ua uu.o.length uc) := (obj_cell hobj9.out 0).trans hu0
      obtain ⟨sa, sc, hs0, rs⟩ := H9.out.sl 0 (by decide)
      have ks : w9.cell? ⟨w.heap.size, 0, none⟩ = some (.slice sa s.o.length sc) := (obj_cell Oc9.out 0).trans hs0
      change SlAt w9 18 sa s.o.length sc (objs s.o) at rs
      obtain ⟨ub, uo, rfl, hub, huc⟩ := ru.sl.nonempty (by omega)
      obtain ⟨sb, so, rfl, hsb, hsc⟩ := rs.nonempty (by omega)
      have okuu : ∀ x ∈ uu.o, x.length = 18 := by rw [Huu.out]; exact (doS_ok Okt.out (by rw [Htt.out, Hie.out]; exact Hbk.out.1)).o
      have kz := hsc (a * 18 + 3) _ (objs_get s.o Ok.out.o a 3 halt (by decide))
      have kc := huc (a * 18 + 3) _ (objs_get uu.o okuu a 3 (by omega) (by decide))
      rw [← Nat.add_assoc] at kz kc
      obtain ⟨z, hz⟩ : ∃ z, z = (s.o.getD a []).getD 3 0 := ⟨_, rfl⟩
      rw [← hz] at kz
      obtain ⟨zu, hzu⟩ : ∃ zu, zu = (uu.o.getD a []).getD 3 0 := ⟨_, rfl⟩
      rw [← hzu] at kc
      obtain ⟨_, cur, hcur, _, _⟩ := ru.row _ rfl
      have kf := obj_free hcur (uo + a * 18 + 3)
      have hs4 := (Hst9.out.setObj okuu hu0 a 3 (by omega) (by decide) z)
      have hub2 := hs4.2
      have hst4 := hs4.1
      rw [← Nat.add_assoc, show (⟨uu.o.set a ((uu.o.getD a []).set 3 z), uu.l, uu.p⟩ : St) = s by have := Hus.out; rw [zoneFix, ← hz] at this; exact this] at hst4
      have Hst4 := Lib.hid (hst4.all (w' := (w9.setCell ⟨ub, uo + a * 18 + 3, none⟩ (.int .i64 z)).drew) ((Below.refl _ _).drew))
      have Oc4' := Lib.hid (show (w9.setCell ⟨ub, uo + a * 18 + 3, none⟩ (.int .i64 z)).drew.heap[w.heap.size]? = _ from setCell_obj (p := ⟨ub, uo + a * 18 + 3, none⟩) Oc9.out (by have := obj_lt Oc8.out; show w.heap.size ≠ ub; omega))
      have H4' := Lib.hid (show StC (w9.setCell ⟨ub, uo + a * 18 + 3, none⟩ (.int .i64 z)).drew cs s from StC.overB H8.out H9.out (((Upd.refl (fun k => k = ub) w9).setCell ⟨ub, uo + a * 18 + 3, none⟩ (fun _ => rfl) (.int .i64 z)).drew) hub2)
      have B4' := Lib.hid (show Below w.heap.size w (w9.setCell ⟨ub, uo + a * 18 + 3, none⟩ (.int .i64 z)).drew from (B9.out.setCell (p := ⟨ub, uo + a * 18 + 3, none⟩) (by have := B8.out.size; show w.heap.size ≤ ub; omega) (.int .i64 z)).drew)
      obtain ⟨un, hun⟩ : ∃ un, un = uu.o.length := ⟨_, rfl⟩
      rw [← hun] at ku hul
      obtain ⟨sn, hsn⟩ : ∃ sn, sn = s.o.length := ⟨_, rfl⟩
      rw [← hsn] at ks hul halt
      have HT := Lib.hid (show w9.drew.cell? ⟨wi.heap.size, 0, none⟩ = _ ∧ w9.drew.cell? ⟨w.heap.size, 0, none⟩ = _ ∧ w9.drew.cell? ⟨sb, so + a * 18 + 3, none⟩ = _ ∧ w9.drew.cell? ⟨w.heap.size + 1, 1, none⟩ = _ from ⟨ku, ks, kz, X1.out⟩)
      obtain ⟨x0, x1, x2, x3, x4, x5⟩ := EvCells.of Oe9.out
      clear x1 x2 x3 x4 x5
      have hai1 : (a : Int) < (un : Int) := by omega
      have hai2 : (a : Int) < (sn : Int) := by omega
      clear hu0 ru fu hs0 rs huc hsc hz hzu hcur hs4 hst4 ku ks kz hun hsn okuu ha ha0
      go_wp2_with fail
      clear x0
      refine wp_region_T 13 (fun x => x.cell? ⟨wi.heap.size, 0, none⟩ = some (.slice (some ⟨ub, uo, none⟩) un uc) ∧ x.cell? ⟨w.heap.size, 0, none⟩ = some (.slice (some ⟨sb, so, none⟩) sn sc) ∧ x.cell? ⟨sb, so + a * 18 + 3, none⟩ = some (.int .i64 z) ∧ x.cell? ⟨w.heap.size + 1, 1, none⟩ = some (.int .i64 (a : Int))) (by kernel_rfl) HT.out (fun hHeld => ?_)
      refine wpAnyT_takeU (i := 0) (oi := ⟨some 66, _, _, _, _, _⟩) (v := ?_) rfl (by kernel_rfl) (by kernel_rfl) (by kernel_rfl) (by kernel_rfl) (fun _ _ _ h => h) (Or.inl ⟨by rfl, ?_⟩) (fun _ => hHeld) ?_
      rotate_left
      · intro w' hS'
        (try dsimp only at hS')
        go_simp
        try with_reducible rfl
      try simp only [Act.put, List.setIfInBounds_toArray, List.set_cons_zero, List.set_cons_succ]
      refine wpAnyT_take (i := 1) (oi := ⟨some 67, _, _, _, _, _⟩) (v := ?_) rfl (by kernel_rfl) (by kernel_rfl) (by kernel_rfl) (by kernel_rfl) (fun _ _ _ h => h) (Or.inl ⟨by rfl, ?_⟩) hHeld ?_
      rotate_left
      · intro w' hS'
        (try dsimp only at hS')
        go_simp
        try with_reducible rfl
      try simp only [Act.put, List.setIfInBounds_toArray, List.set_cons_zero, List.set_cons_succ]
      refine wpAnyT_takeU (i := 2) (oi := ⟨some 68, _, _, _, _, _⟩) (v := ?_) rfl (by kernel_rfl) (by kernel_rfl) (by kernel_rfl) (by kernel_rfl) (fun _ _ _ h => h) (Or.inl ⟨by rfl, ?_⟩) (fun _ => hHeld) ?_
      rotate_left
      · intro w' hS'
        (try dsimp only at hS')
        go_simp
        try with_reducible rfl
      try simp only [Act.put, List.setIfInBounds_toArray, List.set_cons_zero, List.set_cons_succ]
      refine wpAnyT_take (i := 3) (oi := ⟨some 69, _, _, _, _, _⟩) (v := ?_) rfl (by kernel_rfl) (by kernel_rfl) (by kernel_rfl) (by kernel_rfl) (fun _ _ _ h => h) (Or.inl ⟨by rfl, ?_⟩) hHeld ?_
      rotate_left
      · intro w' hS'
        (try dsimp only at hS')
        go_simp
        try with_reducible rfl
      try simp only [Act.put, List.setIfInBounds_toArray, List.set_cons_zero, List.set_cons_succ]
      refine wpAnyT_takeU (i := 4) (oi := ⟨some 70, _, _, _, _, _⟩) (v := ?_) rfl (by kernel_rfl) (by kernel_rfl) (by kernel_rfl) (by kernel_rfl) (fun _ _ _ h => h) (Or.inl ⟨by rfl, ?_⟩) (fun _ => hHeld) ?_
      rotate_left
      · intro w' hS'
        (try dsimp only at hS')
        go_simp
        try with_reducible rfl
      try simp only [Act.put, List.setIfInBounds_toArray, List.set_cons_zero, List.set_cons_succ]
      refine wpAnyT_take (i := 5) (oi := ⟨some 71, _, _, _, _, _⟩) (v := ?_) rfl (by kernel_rfl) (by kernel_rfl) (by kernel_rfl) (by kernel_rfl) (fun _ _ _ h => h) (Or.inl ⟨by rfl, ?_⟩) hHeld ?_
      rotate_left
      · intro w' hS'
        (try dsimp only at hS')
        go_simp
        try with_reducible rfl
      try simp only [Act.put, List.setIfInBounds_toArray, List.set_cons_zero, List.set_cons_succ]
      refine wpAnyT_takeU (i := 6) (oi := ⟨some 72, _, _, _, _, _⟩) (v := ?_) rfl (by kernel_rfl) (by kernel_rfl) (by kernel_rfl) (by kernel_rfl) (fun _ _ _ h => h) (Or.inl ⟨by rfl, ?_⟩) (fun _ => hHeld) ?_
      rotate_left
      · intro w' hS'
        (try dsimp only at hS')
        go_simp
        try with_reducible rfl
      try simp only [Act.put, List.setIfInBounds_toArray, List.set_cons_zero, List.set_cons_succ]
      refine wpAnyT_take (i := 7) (oi := ⟨some 73, _, _, _, _, _⟩) (v := ?_) rfl (by kernel_rfl) (by kernel_rfl) (by kernel_rfl) (by kernel_rfl) (fun _ _ _ h => h) (Or.inl ⟨by rfl, ?_⟩) hHeld ?_
      rotate_left
      · intro w' hS'
        (try dsimp only at hS')
        go_simp
        try with_reducible rfl
      try simp only [Act.put, List.setIfInBounds_toArray, List.set_cons_zero, List.set_cons_succ]
      refine wpAnyT_takeU (i := 8) (oi := ⟨some 74, _, _, _, _, _⟩) (v := ?_) rfl (by kernel_rfl) (by kernel_rfl) (by kernel_rfl) (by kernel_rfl) (fun _ _ _ h => h) (Or.inl ⟨by rfl, ?_⟩) (fun _ => hHeld) ?_
      rotate_left
      · intro w' hS'
        (try dsimp only at hS')
        go_simp
        try with_reducible rfl
      try simp only [Act.put, List.setIfInBounds_toArray, List.set_cons_zero, List.set_cons_succ]
      refine wpAnyT_takeU (i := 9) (oi := ⟨some 75, _, _, _, _, _⟩) (v := ?_) rfl (by kernel_rfl) (by kernel_rfl) (by kernel_rfl) (by kernel_rfl) (fun _ _ _ h => h) (Or.inl ⟨by rfl, ?_⟩) (fun _ => hHeld) ?_
      rotate_left
      · intro w' hS'
        (try dsimp only at hS')
        go_simp
        try with_reducible rfl
      try simp only [Act.put, List.setIfInBounds_toArray, List.set_cons_zero, List.set_cons_succ]
      refine wpAnyT_take (i := 10) (oi := ⟨some 76, _, _, _, _, _⟩) (v := ?_) rfl (by kernel_rfl) (by kernel_rfl) (by kernel_rfl) (by kernel_rfl) (fun _ _ _ h => h) (Or.inl ⟨by rfl, ?_⟩) hHeld ?_
      rotate_left
      · intro w' hS'
        (try dsimp only at hS')
        go_simp
        try with_reducible rfl
      try simp only [Act.put, List.setIfInBounds_toArray, List.set_cons_zero, List.set_cons_succ]
      refine wpAnyT_takeU (i := 11) (oi := ⟨some 77, _, _, _, _, _⟩) (v := ?_) rfl (by kernel_rfl) (by kernel_rfl) (by kernel_rfl) (by kernel_rfl) (fun _ _ _ h => h) (Or.inl ⟨by rfl, ?_⟩) (fun _ => hHeld) ?_
      rotate_left
      · intro w' hS'
        (try dsimp only at hS')
        go_simp
        try with_reducible rfl
      try simp only [Act.put, List.setIfInBounds_toArray, List.set_cons_zero, List.set_cons_succ]
      refine wpAnyT_takeU (i := 12) (oi := ⟨some 78, _, _, _, _, _⟩) (v := ?_) rfl (by kernel_rfl) (by kernel_rfl) (by kernel_rfl) (by kernel_rfl) (fun _ _ _ h => h) (Or.inl ⟨by rfl, ?_⟩) (fun _ => hHeld) ?_
      rotate_left
      · intro w' hS'
        (try dsimp only at hS')
        go_simp
        try with_reducible rfl
      try simp only [Act.put, List.setIfInBounds_toArray, List.set_cons_zero, List.set_cons_succ]
      refine wpAnyT_all (rs := [13]) (by kernel_rfl) (by simp) ?_
      intro ix hix
      obtain rfl : ix = 13 := by simpa using hix
      clear hix
      refine wpOp_step (o := ⟨none, _, _, _, _, _⟩) rfl (fun K hK => ?_)
      have HK := Lib.hid hK
      clear hK
      go_simp
      go_wp2_with fail
      refine HK.out _ _ ⟨tl (by kernel_rfl), ?_⟩
      clear HK
      try clear hHeld
      try simp only [Act.put, List.setIfInBounds_toArray, List.set_cons_zero, List.set_cons_succ]
      refine wpAnyT_done (by kernel_rfl) ?_ _
      clear kf kc
      generalize (w9.setCell ⟨ub, uo + a * 18 + 3, none⟩ (.int .i64 z)).drew = wq at *
      go_wp2_with (first | (refine wpList_load_wholeG rfl 79 (.tmp 9) rfl (wi.heap.size) rfl 79 c9 (0, 0) Hst4.out.obj _ Try.underlying79 rfl (by rw [hc9]; exact Try.sizeSt) ?_) | (refine wpList_load_wholeG rfl 79 (.tmp 2) rfl (w.heap.size) rfl 79 cs (0, 0) Oc4'.out _ Try.underlying79 rfl (by rw [hsz]; exact Try.sizeSt) ?_))
      refine (states _ _ _ _ _ Hst4.out.own.c H4'.out Ok.out Ok.out true (stEq_self _).symm).mono ?_
      rintro x wn ⟨rfl, hb⟩
      have Bd := Lib.hid (B4'.out.trans (hb.mono B4'.out.size))
      clear hb
      go_wp2_with fail
      go_ret
      exact ⟨rfl, Bd.out⟩
  · skip
    refine wpOp_step (o := ⟨some 9, _, _, _, _, _⟩) rfl (fun K hK => ?_)
    have HK := Lib.hid hK
    clear hK
    go_simp
    have Hoz : Hid ((w8.alloc (.cells zSt 79)).drew.heap[w8.heap.size]? = some (.cells zSt 79 (0, 0))) := Lib.hid (alloc_new w8 (.cells zSt 79))
    have hpu : w8.heap.size ≤ w8.heap.size := Nat.le_refl _
    replace hx : Below w8.heap.size w8 (w8.alloc (.cells zSt 79)).drew := ((Below.refl _ w8).alloc (Nat.le_refl _) _).drew
    go_wp2_with fail
    refine HK.out _ _ ⟨(HT.out _ hx), ?_⟩
    clear HK
    try clear hHeld
    have hHeld := (HT.out _ hx)
    try simp only [Act.put, List.setIfInBounds_toArray, List.set_cons_zero, List.set_cons_succ]
    refine wpAnyH_all (rs := [2]) (by kernel_rfl) (by simp) ?_
    intro ix hix
    obtain rfl : ix = 2 := by simpa using hix
    clear hix
    refine wpOp_step (o := ⟨some 55, _, _, _, _, _⟩) rfl (fun K hK => ?_)
    have HK := Lib.hid hK
    clear hK
    go_simp
    refine (CI1.out _).mono ?_
    rintro x wi ⟨rfl, hb⟩
    have Hoz := Lib.hid (below_obj hb Hoz.out (obj_lt Hoz.out))
    have hpu := hpu
    replace hx := hx.trans (hb.mono hx.size)
    clear hb
    go_wp2_with fail
    refine HK.out _ _ ⟨(HT.out _ hx), ?_⟩
    clear HK
    try clear hHeld
    have hHeld := (HT.out _ hx)
    try simp only [Act.put, List.setIfInBounds_toArray, List.set_cons_zero, List.set_cons_succ]
    refine wpAnyH_all (rs := [3]) (by kernel_rfl) (by simp) ?_
    intro ix hix
    obtain rfl : ix = 3 := by simpa using hix
    clear hix
    refine wpOp_step (o := ⟨some 56, _, _, _, _, _⟩) rfl (fun K hK => ?_)
    have HK := Lib.hid hK
    clear hK
    go_simp
    refine (apply _ c7 tt (H78.out.all hx) Okt.out Fit.out ie).mono ?_
    rintro x wp ⟨c9, rfl, h9, hb⟩
    have hpz := obj_lt Hoz.out
    have Hoz := Lib.hid (below_obj hb Hoz.out (obj_lt Hoz.out))
    have hn9 : doN tt ie = 0 := by rw [Htt.out, Hie.out]; exact Hbk.out.1
    rw [hn9] at h9 ⊢
    rw [if_pos rfl] at h9
    rw [errV_zero]
    clear hn9
    have Hn9 := Lib.hid (h9.mono hx.size)
    have hc9 := h9.size
    have Hb9 := Lib.hid hb
    have H9b := Lib.hid h9
    have hxs := hx.size
    replace hx := hx.trans (hb.mono hx.size)
    clear hb h9
    go_wp2_with fail
    refine HK.out _ _ ⟨(HT.out _ hx), ?_⟩
    clear HK
    try clear hHeld
    have hHeld := (HT.out _ hx)
    try simp only [Act.put, List.setIfInBounds_toArray, List.set_cons_zero, List.set_cons_succ]
    refine wpAnyH_take (i := 4) (oi := ⟨some 52, _, _, _, _, _⟩) (v := ?_) rfl (by kernel_rfl) (by kernel_rfl) (by kernel_rfl) (fun _ _ _ h => h) (Or.inl ⟨by rfl, ?_⟩) hHeld ?_
    rotate_left
    · intro w' hS'
      (try dsimp only at hS')
      go_simp
      try with_reducible rfl
    try simp only [Act.put, List.setIfInBounds_toArray, List.set_cons_zero, List.set_cons_succ]
    refine wpAnyH_take (i := 5) (oi := ⟨some 57, _, _, _, _, _⟩) (v := ?_) rfl (by kernel_rfl) (by kernel_rfl) (by kernel_rfl) (fun _ _ _ h => h) (Or.inl ⟨by rfl, ?_⟩) hHeld ?_
    rotate_left
    · intro w' hS'
      (try dsimp only at hS')
      go_simp
      try with_reducible rfl
    try simp only [Act.put, List.setIfInBounds_toArray, List.set_cons_zero, List.set_cons_succ]
    refine wpAnyH_take (i := 6) (oi := ⟨some 58, _, _, _, _, _⟩) (v := ?_) rfl (by kernel_rfl) (by kernel_rfl) (by kernel_rfl) (fun _ _ _ h => h) (Or.inl ⟨by rfl, ?_⟩) hHeld ?_
    rotate_left
    · intro w' hS'
      (try dsimp only at hS')
      go_simp
      try with_reducible rfl
    try simp only [Act.put, List.setIfInBounds_toArray, List.set_cons_zero, List.set_cons_succ]
    refine wpAnyH_all (rs := [8]) (by kernel_rfl) (by simp) ?_
    intro ix hix
    obtain rfl : ix = 8 := by simpa using hix
    clear hix
    refine wpOp_step (o := ⟨none, _, _, _, _, _⟩) rfl (fun K hK => ?_)
    have HK := Lib.hid hK
    clear hK
    rw [if_pos (by rfl)]
    refine wp_store_whole 79 (.tmp 9) (.tmp 57) rfl w8.heap.size rfl 79 zSt c9 rfl Hoz.out (by rw [hc9]; exact Try.sizeSt) (by rw [hc9]; rfl) Hn9.out.c.one ?_
    intro w9 hobj hupd
    have Hst9 := Lib.hid (StAt.mk9 (B := w8.heap.size) H9b.out (by have := hxs; omega) (Below.refl _ _) hobj hupd (.inl (by have := hpz; omega)))
    have hx9 := hx.trans (hupd.below (B := w8.heap.size) (by have := hx.size; omega) (fun k hk hb => by change _ = _ at hb; omega))
    have hobj9 := Lib.hid hobj
    clear hupd hobj
    refine HK.out _ _ ⟨(HT.out _ hx9), ?_⟩
    clear HK
    try clear hHeld
    have hHeld := (HT.out _ hx9)
    try simp only [Act.put, List.setIfInBounds_toArray, List.set_cons_zero, List.set_cons_succ]
    refine wpAnyH_take (i := 9) (oi := ⟨some 8, _, _, _, _, _⟩) (v := ?_) rfl (by kernel_rfl) (by kernel_rfl) (by kernel_rfl) (fun _ _ _ h => h) (Or.inl ⟨by rfl, ?_⟩) hHeld ?_
    rotate_left
    · intro w' hS'
      (try dsimp only at hS')
      go_simp
      try with_reducible rfl
    try simp only [Act.put, List.setIfInBounds_toArray, List.set_cons_zero, List.set_cons_succ]
    refine wpAnyH_done (by kernel_rfl) ?_ _
    clear hHeld HT
    have hb := hx9
    clear hx9
    have Oc9 := Lib.hid (below_obj hb Oc8.out (obj_lt Oc8.out))
    have Oe9 := Lib.hid (below_obj hb Oe8.out (obj_lt Oe8.out))
    have H9 := Lib.hid (H8.out.all hb)
    have B9 := Lib.hid (B8.out.trans (hb.mono B8.out.size))
    have hw9 := hb.size
    clear hb
    have hpw : w8.heap.size < w9.heap.size := obj_lt hobj9.out
    obtain ⟨uu, huu⟩ : ∃ uu, uu = doS tt ie := ⟨_, rfl⟩
    rw [← huu] at Hst9
    have Huu := Lib.hid huu
    clear huu
    have hbk2 := Hbk.out.2
    rw [← Hie.out, ← Htt.out, ← Huu.out] at hbk2
    have Hbk2 := Lib.hid hbk2
    clear hbk2
    obtain ⟨x0, x1, x2, x3, x4, x5⟩ := EvCells.of Oe9.out
    by_cases hk1 : e.k = 1
    rotate_left
    · have hkk : (e.k == 1) = false := by simp [hk1]
      have hus : uu = s := by have := Hbk2.out; rwa [if_neg hk1] at this
      rw [hus] at Hst9
      clear hk1 hus
      go_wp2_with (first | (refine wpList_load_wholeG rfl 79 (.tmp 9) rfl (w8.heap.size) rfl 79 c9 (0, 0) Hst9.out.obj _ Try.underlying79 rfl (by rw [hc9]; exact Try.sizeSt) ?_) | (refine wpList_load_wholeG rfl 79 (.tmp 2) rfl (w.heap.size) rfl 79 cs (0, 0) Oc9.out _ Try.underlying79 rfl (by rw [hsz]; exact Try.sizeSt) ?_))
      refine (states _ _ _ _ _ Hst9.out.own.c H9.out Ok.out Ok.out true (stEq_self _).symm).mono ?_
      rintro x wn ⟨rfl, hb⟩
      have Bd := Lib.hid (B9.out.trans (hb.mono B9.out.size))
      clear hb
      go_wp2_with fail
      go_ret
      exact ⟨rfl, Bd.out⟩
    have hkk : (e.k == 1) = true := by simp [hk1]
    have hus : zoneFix uu s e.a.toNat = s := by have := Hbk2.out; rwa [if_pos hk1] at this
    have Hus := Lib.hid hus
    have ha0 := (chk_move Hce.out.symm hk1).1
    obtain ⟨a, ha⟩ : ∃ a : Nat, e.a = a := ⟨e.a.toNat, by omega⟩
    have halt : a < s.o.length := by have := doN_move_lt Hn.out.symm hk1; omega
    have hul : uu.o.length = s.o.length := by rw [← congrArg (fun t => t.o.length) Hus.out]; simp [zoneFix]
    rw [ha, Int.toNat_natCast] at Hus
    rw [ha] at x1
    have X1 := Lib.hid x1
    clear hus hk1 x0 x1 x2 x3 x4 x5
    obtain ⟨ua, uc, hu0, ru, fu⟩ := Hst9.out.own.sz0
    have ku : w9.cell? ⟨w8.heap.size, 0, none⟩ = some (.slice ua uu.o.length uc) := (obj_cell hobj9.out 0).trans hu0
    obtain ⟨sa, sc, hs0, rs⟩ := H9.out.sl 0 (by decide)
    have ks : w9.cell? ⟨w.heap.size, 0, none⟩ = some (.slice sa s.o.length sc) := (obj_cell Oc9.out 0).trans hs0
    change SlAt w9 18 sa s.o.length sc (objs s.o) at rs
    obtain ⟨ub, uo, rfl, hub, huc⟩ := ru.sl.nonempty (by omega)
    obtain ⟨sb, so, rfl, hsb, hsc⟩ := rs.nonempty (by omega)
    have okuu : ∀ x ∈ uu.o, x.length = 18 := by rw [Huu.out]; exact (doS_ok Okt.out (by rw [Htt.out, Hie.out]; exact Hbk.out.1)).o
    have kz := hsc (a * 18 + 3) _ (objs_get s.o Ok.out.o a 3 halt (by decide))
    have kc := huc (a * 18 + 3) _ (objs_get uu.o okuu a 3 (by omega) (by decide))
    rw [← Nat.add_assoc] at kz kc
    obtain ⟨z, hz⟩ : ∃ z, z = (s.o.getD a []).getD 3 0 := ⟨_, rfl⟩
    rw [← hz] at kz
    obtain ⟨zu, hzu⟩ : ∃ zu, zu = (uu.o.getD a []).getD 3 0 := ⟨_, rfl⟩
    rw [← hzu] at kc
    obtain ⟨_, cur, hcur, _, _⟩ := ru.row _ rfl
    have kf := obj_free hcur (uo + a * 18 + 3)
    have hs4 := (Hst9.out.setObj okuu hu0 a 3 (by omega) (by decide) z)
    have hub2 := hs4.2
    have hst4 := hs4.1
    rw [← Nat.add_assoc, show (⟨uu.o.set a ((uu.o.getD a []).set 3 z), uu.l, uu.p⟩ : St) = s by have := Hus.out; rw [zoneFix, ← hz] at this; exact this] at hst4
    have Hst4 := Lib.hid (hst4.all (w' := (w9.setCell ⟨ub, uo + a * 18 + 3, none⟩ (.int .i64 z)).drew) ((Below.refl _ _).drew))
    have Oc4' := Lib.hid (show (w9.setCell ⟨ub, uo + a * 18 + 3, none⟩ (.int .i64 z)).drew.heap[w.heap.size]? = _ from setCell_obj (p := ⟨ub, uo + a * 18 + 3, none⟩) Oc9.out (by have := obj_lt Oc8.out; show w.heap.size ≠ ub; omega))
    have H4' := Lib.hid (show StC (w9.setCell ⟨ub, uo + a * 18 + 3, none⟩ (.int .i64 z)).drew cs s from StC.overB H8.out H9.out (((Upd.refl (fun k => k = ub) w9).setCell ⟨ub, uo + a * 18 + 3, none⟩ (fun _ => rfl) (.int .i64 z)).drew) hub2)
    have B4' := Lib.hid (show Below w.heap.size w (w9.setCell ⟨ub, uo + a * 18 + 3, none⟩ (.int .i64 z)).drew from (B9.out.setCell (p := ⟨ub, uo + a * 18 + 3, none⟩) (by have := B8.out.size; show w.heap.size ≤ ub; omega) (.int .i64 z)).drew)
    obtain ⟨un, hun⟩ : ∃ un, un = uu.o.length := ⟨_, rfl⟩
    rw [← hun] at ku hul
    obtain ⟨sn, hsn⟩ : ∃ sn, sn = s.o.length := ⟨_, rfl⟩
    rw [← hsn] at ks hul halt
    have HT := Lib.hid (show w9.drew.cell? ⟨w8.heap.size, 0, none⟩ = _ ∧ w9.drew.cell? ⟨w.heap.size, 0, none⟩ = _ ∧ w9.drew.cell? ⟨sb, so + a * 18 + 3, none⟩ = _ ∧ w9.drew.cell? ⟨w.heap.size + 1, 1, none⟩ = _ from ⟨ku, ks, kz, X1.out⟩)
    obtain ⟨x0, x1, x2, x3, x4, x5⟩ := EvCells.of Oe9.out
    clear x1 x2 x3 x4 x5
    have hai1 : (a : Int) < (un : Int) := by omega
    have hai2 : (a : Int) < (sn : Int) := by omega
    clear hu0 ru fu hs0 rs huc hsc hz hzu hcur hs4 hst4 ku ks kz hun hsn okuu ha ha0
    go_wp2_with fail
    clear x0
    refine wp_region_T 13 (fun x => x.cell? ⟨w8.heap.size, 0, none⟩ = some (.slice (some ⟨ub, uo, none⟩) un uc) ∧ x.cell? ⟨w.heap.size, 0, none⟩ = some (.slice (some ⟨sb, so, none⟩) sn sc) ∧ x.cell? ⟨sb, so + a * 18 + 3, none⟩ = some (.int .i64 z) ∧ x.cell? ⟨w.heap.size + 1, 1, none⟩ = some (.int .i64 (a : Int))) (by kernel_rfl) HT.out (fun hHeld => ?_)
    refine wpAnyT_takeU (i := 0) (oi := ⟨some 66, _, _, _, _, _⟩) (v := ?_) rfl (by kernel_rfl) (by kernel_rfl) (by kernel_rfl) (by kernel_rfl) (fun _ _ _ h => h) (Or.inl ⟨by rfl, ?_⟩) (fun _ => hHeld) ?_
    rotate_left
    · intro w' hS'
      (try dsimp only at hS')
      go_simp
      try with_reducible rfl
    try simp only [Act.put, List.setIfInBounds_toArray, List.set_cons_zero, List.set_cons_succ]
    refine wpAnyT_take (i := 1) (oi := ⟨some 67, _, _, _, _, _⟩) (v := ?_) rfl (by kernel_rfl) (by kernel_rfl) (by kernel_rfl) (by kernel_rfl) (fun _ _ _ h => h) (Or.inl ⟨by rfl, ?_⟩) hHeld ?_
    rotate_left
    · intro w' hS'
      (try dsimp only at hS')
      go_simp
      try with_reducible rfl
    try simp only [Act.put, List.setIfInBounds_toArray, List.set_cons_zero, List.set_cons_succ]
    refine wpAnyT_takeU (i := 2) (oi := ⟨some 68, _, _, _, _, _⟩) (v := ?_) rfl (by kernel_rfl) (by kernel_rfl) (by kernel_rfl) (by kernel_rfl) (fun _ _ _ h => h) (Or.inl ⟨by rfl, ?_⟩) (fun _ => hHeld) ?_
    rotate_left
    · intro w' hS'
      (try dsimp only at hS')
      go_simp
      try with_reducible rfl
    try simp only [Act.put, List.setIfInBounds_toArray, List.set_cons_zero, List.set_cons_succ]
    refine wpAnyT_take (i := 3) (oi := ⟨some 69, _, _, _, _, _⟩) (v := ?_) rfl (by kernel_rfl) (by kernel_rfl) (by kernel_rfl) (by kernel_rfl) (fun _ _ _ h => h) (Or.inl ⟨by rfl, ?_⟩) hHeld ?_
    rotate_left
    · intro w' hS'
      (try dsimp only at hS')
      go_simp
      try with_reducible rfl
    try simp only [Act.put, List.setIfInBounds_toArray, List.set_cons_zero, List.set_cons_succ]
    refine wpAnyT_takeU (i := 4) (oi := ⟨some 70, _, _, _, _, _⟩) (v := ?_) rfl (by kernel_rfl) (by kernel_rfl) (by kernel_rfl) (by kernel_rfl) (fun _ _ _ h => h) (Or.inl ⟨by rfl, ?_⟩) (fun _ => hHeld) ?_
    rotate_left
    · intro w' hS'
      (try dsimp only at hS')
      go_simp
      try with_reducible rfl
    try simp only [Act.put, List.setIfInBounds_toArray, List.set_cons_zero, List.set_cons_succ]
    refine wpAnyT_take (i := 5) (oi := ⟨some 71, _, _, _, _, _⟩) (v := ?_) rfl (by kernel_rfl) (by kernel_rfl) (by kernel_rfl) (by kernel_rfl) (fun _ _ _ h => h) (Or.inl ⟨by rfl, ?_⟩) hHeld ?_
    rotate_left
    · intro w' hS'
      (try dsimp only at hS')
      go_simp
      try with_reducible rfl
    try simp only [Act.put, List.setIfInBounds_toArray, List.set_cons_zero, List.set_cons_succ]
    refine wpAnyT_takeU (i := 6) (oi := ⟨some 72, _, _, _, _, _⟩) (v := ?_) rfl (by kernel_rfl) (by kernel_rfl) (by kernel_rfl) (by kernel_rfl) (fun _ _ _ h => h) (Or.inl ⟨by rfl, ?_⟩) (fun _ => hHeld) ?_
    rotate_left
    · intro w' hS'
      (try dsimp only at hS')
      go_simp
      try with_reducible rfl
    try simp only [Act.put, List.setIfInBounds_toArray, List.set_cons_zero, List.set_cons_succ]
    refine wpAnyT_take (i := 7) (oi := ⟨some 73, _, _, _, _, _⟩) (v := ?_) rfl (by kernel_rfl) (by kernel_rfl) (by kernel_rfl) (by kernel_rfl) (fun _ _ _ h => h) (Or.inl ⟨by rfl, ?_⟩) hHeld ?_
    rotate_left
    · intro w' hS'
      (try dsimp only at hS')
      go_simp
      try with_reducible rfl
    try simp only [Act.put, List.setIfInBounds_toArray, List.set_cons_zero, List.set_cons_succ]
    refine wpAnyT_takeU (i := 8) (oi := ⟨some 74, _, _, _, _, _⟩) (v := ?_) rfl (by kernel_rfl) (by kernel_rfl) (by kernel_rfl) (by kernel_rfl) (fun _ _ _ h => h) (Or.inl ⟨by rfl, ?_⟩) (fun _ => hHeld) ?_
    rotate_left
    · intro w' hS'
      (try dsimp only at hS')
      go_simp
      try with_reducible rfl
    try simp only [Act.put, List.setIfInBounds_toArray, List.set_cons_zero, List.set_cons_succ]
    refine wpAnyT_takeU (i := 9) (oi := ⟨some 75, _, _, _, _, _⟩) (v := ?_) rfl (by kernel_rfl) (by kernel_rfl) (by kernel_rfl) (by kernel_rfl) (fun _ _ _ h => h) (Or.inl ⟨by rfl, ?_⟩) (fun _ => hHeld) ?_
    rotate_left
    · intro w' hS'
      (try dsimp only at hS')
      go_simp
      try with_reducible rfl
    try simp only [Act.put, List.setIfInBounds_toArray, List.set_cons_zero, List.set_cons_succ]
    refine wpAnyT_take (i := 10) (oi := ⟨some 76, _, _, _, _, _⟩) (v := ?_) rfl (by kernel_rfl) (by kernel_rfl) (by kernel_rfl) (by kernel_rfl) (fun _ _ _ h => h) (Or.inl ⟨by rfl, ?_⟩) hHeld ?_
    rotate_left
    · intro w' hS'
      (try dsimp only at hS')
      go_simp
      try with_reducible rfl
    try simp only [Act.put, List.setIfInBounds_toArray, List.set_cons_zero, List.set_cons_succ]
    refine wpAnyT_takeU (i := 11) (oi := ⟨some 77, _, _, _, _, _⟩) (v := ?_) rfl (by kernel_rfl) (by kernel_rfl) (by kernel_rfl) (by kernel_rfl) (fun _ _ _ h => h) (Or.inl ⟨by rfl, ?_⟩) (fun _ => hHeld) ?_
    rotate_left
    · intro w' hS'
      (try dsimp only at hS')
      go_simp
      try with_reducible rfl
    try simp only [Act.put, List.setIfInBounds_toArray, List.set_cons_zero, List.set_cons_succ]
    refine wpAnyT_takeU (i := 12) (oi := ⟨some 78, _, _, _, _, _⟩) (v := ?_) rfl (by kernel_rfl) (by kernel_rfl) (by kernel_rfl) (by kernel_rfl) (fun _ _ _ h => h) (Or.inl ⟨by rfl, ?_⟩) (fun _ => hHeld) ?_
    rotate_left
    · intro w' hS'
      (try dsimp only at hS')
      go_simp
      try with_reducible rfl
    try simp only [Act.put, List.setIfInBounds_toArray, List.set_cons_zero, List.set_cons_succ]
    refine wpAnyT_all (rs := [13]) (by kernel_rfl) (by simp) ?_
    intro ix hix
    obtain rfl : ix = 13 := by simpa using hix
    clear hix
    refine wpOp_step (o := ⟨none, _, _, _, _, _⟩) rfl (fun K hK => ?_)
    have HK := Lib.hid hK
    clear hK
    go_simp
    go_wp2_with fail
    refine HK.out _ _ ⟨tl (by kernel_rfl), ?_⟩
    clear HK
    try clear hHeld
    try simp only [Act.put, List.setIfInBounds_toArray, List.set_cons_zero, List.set_cons_succ]
    refine wpAnyT_done (by kernel_rfl) ?_ _
    clear kf kc
    generalize (w9.setCell ⟨ub, uo + a * 18 + 3, none⟩ (.int .i64 z)).drew = wq at *
    go_wp2_with (first | (refine wpList_load_wholeG rfl 79 (.tmp 9) rfl (w8.heap.size) rfl 79 c9 (0, 0) Hst4.out.obj _ Try.underlying79 rfl (by rw [hc9]; exact Try.sizeSt) ?_) | (refine wpList_load_wholeG rfl 79 (.tmp 2) rfl (w.heap.size) rfl 79 cs (0, 0) Oc4'.out _ Try.underlying79 rfl (by rw [hsz]; exact Try.sizeSt) ?_))
    refine (states _ _ _ _ _ Hst4.out.own.c H4'.out Ok.out Ok.out true (stEq_self _).symm).mono ?_
    rintro x wn ⟨rfl, hb⟩
    have Bd := Lib.hid (B4'.out.trans (hb.mono B4'.out.size))
    clear hb
    go_wp2_with fail
    go_ret
    exact ⟨rfl, Bd.out⟩
end Go.Proofs.Ytpbocficffbcbaa
namespace Go.Proofs.Ytpbocficffbcbaa
open Go Go.RowKit Go.ChangeShapes Go.WideShapes
set_option linter.unusedVariables false

namespace LawEBack
theorem own : ownKnob Try.prog.godebug = none := by kernel_rfl
set_option maxRecDepth 100000 in
theorem lifted (os : Os) (started : os.Started) (H : Type) (enc : TypeId × Value → H) :
    ReturnsInHanded {} Try.checked os 14 .any (Rows.eventBackSpec.pre6 enc Try.prog Try.f14 Rows.eventBackRow.domain false) (Rows.eventBackSpec.post enc Try.prog Try.f14 false true false false) := by
  refine returnsInHanded_of_change (C := Try.checked) own started (by kernel_rfl) Try.func14
    (ChangeSpec.witness6 (enc := enc) (C := Try.checked) false ⟨#[], #[.agg #[.slice none 0 0, .slice none 0 0, .slice none 0 0, .slice none 0 0, .slice none 0 0, .slice none 0 0, .slice none 0 0, .slice none 0 0, .slice none 0 0, .slice none 0 0, .slice none 0 0, .slice none 0 0, .int .i64 0, .int .i64 0, .int .i64 0, .int .i64 0, .int .i64 0, .int .i64 0, .int .i64 0, .int .i64 0, .int .i64 0, .int .i64 0, .int .i64 0, .int .i64 0, .int .i64 0, .int .i64 0, .int .i64 0, .int .i64 0, .int .i64 0, .int .i64 0, .int .i64 0, .int .i64 0, .int .i64 0, .int .i64 0, .int .i64 0, .int .i64 0, .int .i64 0], .agg #[.int .i64 0, .int .i64 0, .int .i64 0, .int .i64 0, .int .i64 0, .int .i64 0]], []⟩ 8 (by kernel_rfl) (by kernel_rfl) (by kernel_rfl) (by kernel_rfl)) ?_
  intro W base args ds gs before hval0 hW hcnd _
  have hval : ∀ (j : Nat) t v, Try.f14.params[j]? = some t → args[j]? = some v → Value.okWide Try.prog W .any base t v := hval0
  have hW' := hW
  have hlt := hW.lt
  obtain ⟨p, q, hA0, hV, rfl, hfz, hnd⟩ := hW
  have hA : DataW.TrodAll enc Try.prog W 0 (fun _ => true) true Try.f14.params.toList args.toList ds p := hA0
  rw [Try.params14] at hA hval
  obtain ⟨v0, vs0, d0, ds0, p0, q0, hargs, rfl, rfl, h0, r0⟩ := trodAll_cons hA
  obtain ⟨v1, vs1, d1, ds1, p1, q1, rfl, rfl, rfl, h1, r1⟩ := trodAll_cons r0
  obtain ⟨rfl, rfl, rfl⟩ := trodAll_nil r1
  obtain rfl : args = #[v0, v1] := by cases args; simp_all
  obtain ⟨rfl, rfl⟩ := trodVars_none hV
  obtain ⟨fuel0, hf0⟩ := h0
  obtain ⟨fuel1, hf1⟩ := h1
  obtain ⟨cs, s, rfl, hs, ok⟩ := open_state (hval 0 79 v0 rfl rfl) hf0
  obtain ⟨x, rfl, hx⟩ := open_evR (hval 1 64 v1 rfl rfl) hf1
  refine (eventBack W cs s hs ok x hx).mono fun e W' ⟨he, hb⟩ => ?_
  subst he
  exact ⟨_, rfl, post_true (by kernel_rfl) rfl Try.underlying4 (by kernel_rfl) rfl rfl hW' hb⟩

theorem proved : Rows.EventBackSaid :=
  OpenClaim.holds_of_wide 14 Try.f14 rfl rfl rfl rfl rfl rfl rfl ⟨rfl, rfl, rfl, rfl, rfl⟩ rfl rfl rfl rfl rfl (by kernel_rfl) Try.func14 (by kernel_rfl)
    (of_decide_eq_true (by kernel_rfl)) (by unfold Func.isWrapper; first | (rw [if_pos (by decide +kernel)]; kernel_rfl) | (rw [if_neg (by decide +kernel)]; exact ⟨rfl, rfl⟩))
    (fun os started H enc _ => lifted os started H enc)
end LawEBack
end Go.Proofs.Ytpbocficffbcbaa
