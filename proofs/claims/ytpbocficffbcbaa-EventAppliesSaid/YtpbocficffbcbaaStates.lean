import Derived.Test.YtpbocficffbcbaaEqI
import Derived.Test.YtpbocficffbcbaaDoS
import Derived.Test.YtpbocficffbcbaaState4
import Derived.Test.YtpbocficffbcbaaInts
namespace Go.Proofs.Ytpbocficffbcbaa
open Go Go.RowKit
set_option linter.unusedVariables false

theorem wpList_load_midG {P : Program} {ops : Array Oper} {rest : List Oper} {op : Oper} {a : Act} {w : World} {Q : Exit → Act → World → Prop} (hw : Region.wanted op (yielded ops a.tmps) = true) (ty : TypeId) (x : Operand) (ho : op.op = .load ty x)
    (b o : Nat) (hx : a.eval x = .pointer (some ⟨b, o, none⟩)) (cs : List Value) (d : TypeDesc) (hc : w.rangeAt b o cs)
    (hu : P.underlying ty = some d) (hd : d.isRow = true) (hi : (P.info? ty).map (·.size) = some cs.length)
    (h : wpList P ops Q rest (a.put op.dst (.agg cs.toArray)) w) : wpList P ops Q (op :: rest) a w :=
  wpList_step fun K hK => by
    rw [if_pos hw]
    exact wp_load_mid ty x ho b o hx cs d hc hu hd hi (hK _ _ h)

/-- The same state? -/
def stEq (a b : St) : Bool := decide (a.o = b.o) && (decide (a.p = b.p) && decide (a.l = b.l))
theorem stEq_iff {a b : St} : stEq a b = true ↔ a = b := by
  obtain ⟨o, l, p⟩ := a
  obtain ⟨o', l', p'⟩ := b
  simp only [stEq, Bool.and_eq_true, decide_eq_true_eq, St.mk.injEq]
  constructor
  · rintro ⟨h1, h2, h3⟩
    exact ⟨h1, h3, h2⟩
  · rintro ⟨h1, h2, h3⟩
    exact ⟨h1, h3, h2⟩
theorem stEq_self (a : St) : stEq a a = true := stEq_iff.2 rfl
theorem p_split {p q : List Int} (hp : p.length = 25) (hq : q.length = 25) : p = q ↔ p.take 18 = q.take 18 ∧ p.drop 18 = q.drop 18 := by
  constructor
  · rintro rfl
    exact ⟨rfl, rfl⟩
  · rintro ⟨h1, h2⟩
    rw [← List.take_append_drop 18 p, ← List.take_append_drop 18 q, h1, h2]
theorem range_num {w : World} {cs : Array Value} {s : St} (h : StC w cs s) (hp : s.p.length = 25) {b : Nat} {fr : Nat × Nat} {t : TypeId} (hb : w.heap[b]? = some (.cells cs t fr)) (o k : Nat) (hok : o + k ≤ 25) : w.rangeAt b (12 + o) (objC ((s.p.drop o).take k)) := fun j v hv => by
  rw [cell_of_row w b _ cs t fr hb]
  have hj : j < k := by
    have := (List.getElem?_eq_some_iff.1 hv).1
    simp [objC] at this
    omega
  rw [show 12 + o + j = 12 + (o + j) by omega, h.num (o + j) (by omega), ← hv]
  simp [objC, hj, List.getElem?_drop, List.getD, show o + j < s.p.length by omega]

set_option maxRecDepth 100000 in
set_option maxHeartbeats 1600000 in
theorem states (w : World) (ca cb : Array Value) (sa sb : St) (ha : StC w ca sa) (hb : StC w cb sb) (oka : StOk sa) (okb : StOk sb) (r : Bool) (hr : r = stEq sa sb) :
    Calls Try.prog 59 #[.agg ca, .agg cb] w (fun x w' => x = .returned (.bool r) ∧ Below w.heap.size w w') := by
  have b0 : Below w.heap.size w ((w.alloc (.cells ca 79)).alloc (.cells cb 79)) := ((Below.refl _ w).alloc (Nat.le_refl _) _).alloc (by simp) _
  have oa := alloc_obj (x := .cells cb 79) (alloc_new w (.cells ca 79))
  have ob := alloc_new (w.alloc (.cells ca 79)) (.cells cb 79)
  rw [World.size_alloc] at ob
  have ha1 := ha.all b0
  have hb1 := hb.all b0
  obtain ⟨a0, c0, e0, r0⟩ := ha1.sl 0 (by decide)
  obtain ⟨a1, c1, e1, r1⟩ := hb1.sl 0 (by decide)
  have k0 : ((w.alloc (.cells ca 79)).alloc (.cells cb 79)).cell? ⟨w.heap.size, 0, none⟩ = some (.slice a0 sa.o.length c0) := (obj_cell oa 0).trans e0
  have k1 : ((w.alloc (.cells ca 79)).alloc (.cells cb 79)).cell? ⟨w.heap.size + 1, 0, none⟩ = some (.slice a1 sb.o.length c1) := (obj_cell ob 0).trans e1
  have q1 : ∀ w, (binOp .neq 76 (.agg (objC ((sa.p.drop 0).take 18)).toArray) (.agg (objC ((sb.p.drop 0).take 18)).toArray)).run Try.prog w = .ok (.bool (decide (sa.p.take 18 ≠ sb.p.take 18))) w := fun w => play_neq w _ _ (by simp [oka.p]) (by simp [okb.p])
  have q2 : ∀ w, (binOp .neq 77 (.agg (objC ((sa.p.drop 18).take 7)).toArray) (.agg (objC ((sb.p.drop 18).take 7)).toArray)).run Try.prog w = .ok (.bool (decide (sa.p.drop 18 ≠ sb.p.drop 18))) w := fun w => by
    rw [List.take_of_length_le (by simp [oka.p]), List.take_of_length_le (by simp [okb.p])]
    exact game_neq w _ _ (by simp [oka.p]) (by simp [okb.p])
  have ra1 := range_num ha1 oka.p oa 0 18 (by decide)
  have rb1 := range_num hb1 okb.p ob 0 18 (by decide)
  have ra2 := range_num ha1 oka.p oa 18 7 (by decide)
  have rb2 := range_num hb1 okb.p ob 18 7 (by decide)
  have la1 : (objC ((sa.p.drop 0).take 18)).length = 18 := by simp [objC, oka.p]
  have lb1 : (objC ((sb.p.drop 0).take 18)).length = 18 := by simp [objC, okb.p]
  have la2 : (objC ((sa.p.drop 18).take 7)).length = 7 := by simp [objC, oka.p]
  have lb2 : (objC ((sb.p.drop 18).take 7)).length = 7 := by simp [objC, okb.p]
  have hps := p_split oka.p okb.p
  generalize objC ((sa.p.drop 0).take 18) = za1 at *
  generalize objC ((sb.p.drop 0).take 18) = zb1 at *
  generalize objC ((sa.p.drop 18).take 7) = za2 at *
  generalize objC ((sb.p.drop 18).take 7) = zb2 at *
  have Ra1 := Lib.hid ra1
  have Rb1 := Lib.hid rb1
  have Ra2 := Lib.hid ra2
  have Rb2 := Lib.hid rb2
  have La1 := Lib.hid la1
  have Lb1 := Lib.hid lb1
  have La2 := Lib.hid la2
  have Lb2 := Lib.hid lb2
  have Hps := Lib.hid hps
  have Hr := Lib.hid hr
  have Oka := Lib.hid oka
  have Okb := Lib.hid okb
  have B0 := Lib.hid b0
  have hz1 : w.heap.size + 2 = ((w.alloc (.cells ca 79)).alloc (.cells cb 79)).heap.size := by simp
  have HA := Lib.hid (fun (x : World) (hb : Below ((w.alloc (.cells ca 79)).alloc (.cells cb 79)).heap.size ((w.alloc (.cells ca 79)).alloc (.cells cb 79)) x) => (⟨below_obj hb oa (by omega), ha1.all hb⟩ : x.heap[w.heap.size]? = some (.cells ca 79 (0, 0)) ∧ StC x ca sa))
  have HB := Lib.hid (fun (x : World) (hb : Below ((w.alloc (.cells ca 79)).alloc (.cells cb 79)).heap.size ((w.alloc (.cells ca 79)).alloc (.cells cb 79)) x) => (⟨below_obj hb ob (by omega), hb1.all hb⟩ : x.heap[w.heap.size + 1]? = some (.cells cb 79 (0, 0)) ∧ StC x cb sb))
  have hx : Below ((w.alloc (.cells ca 79)).alloc (.cells cb 79)).heap.size ((w.alloc (.cells ca 79)).alloc (.cells cb 79)) ((w.alloc (.cells ca 79)).alloc (.cells cb 79)) := Below.refl _ _
  have hc0 := r0.le
  have hm0 := r0.max
  have hm1 := r1.max
  have hc1 := r1.le
  unfold maxLen at hm0 hm1
  change sa.o.length ≤ c0 at hc0
  change sb.o.length ≤ c1 at hc1
  obtain ⟨n, hn⟩ : ∃ n, n = sa.o.length := ⟨_, rfl⟩
  obtain ⟨m, hm⟩ : ∃ m, m = sb.o.length := ⟨_, rfl⟩
  rw [← hn] at k0 hc0
  rw [← hm] at k1 hc1
  have Hn := Lib.hid hn
  have Hm := Lib.hid hm
  have Q1 := Lib.hid q1
  have Q2 := Lib.hid q2
  have Hz1 := Lib.hid hz1
  clear ra1 rb1 ra2 rb2 la1 lb1 la2 lb2 hps hr oka okb b0 oa ob ha1 hb1 r0 r1 e0 e1 hn hm q1 q2 ha hb hz1
  go_enter Try.func59, Try.ntmps59
  by_cases hnm : n = m
  rotate_left
  · have hne : (n != m) = true := by simp [hnm]
    have hne2 : ((n : Int) != (m : Int)) = true := by simp; omega
    have Hf := Lib.hid (show r = false by rw [Hr.out, Bool.eq_false_iff]; intro h; rw [stEq_iff] at h; have h1 := Hn.out; have h2 := Hm.out; rw [h] at h1; omega)
    clear hnm
    go_wp2_with fail
    go_ret
    exact ⟨ret_bool Hf.out.symm, B0.out⟩
  subst hnm
  by_cases hp1 : sa.p.take 18 = sb.p.take 18
  rotate_left
  · have q1 : ∀ w, (binOp .neq 76 (.agg za1.toArray) (.agg zb1.toArray)).run Try.prog w = .ok (.bool true) w := fun w => (Q1.out w).trans (by simp [hp1])
    have Hf := Lib.hid (show r = false by rw [Hr.out, Bool.eq_false_iff]; intro h; rw [stEq_iff] at h; exact hp1 (by rw [h]))
    clear hp1
    go_wp2_with (first | (refine wpList_load_midG rfl 76 (.tmp 15) rfl w.heap.size 12 rfl za1 _ Ra1.out Try.underlying76 rfl (by rw [La1.out]; kernel_rfl) ?_) | (refine wpList_load_midG rfl 76 (.tmp 17) rfl (w.heap.size + 1) 12 rfl zb1 _ Rb1.out Try.underlying76 rfl (by rw [Lb1.out]; kernel_rfl) ?_) | (refine wpList_load_midG rfl 77 (.tmp 22) rfl w.heap.size 30 rfl za2 _ Ra2.out Try.underlying77 rfl (by rw [La2.out]; kernel_rfl) ?_) | (refine wpList_load_midG rfl 77 (.tmp 24) rfl (w.heap.size + 1) 30 rfl zb2 _ Rb2.out Try.underlying77 rfl (by rw [Lb2.out]; kernel_rfl) ?_))
    go_ret
    exact ⟨ret_bool Hf.out.symm, B0.out⟩
  have q1 : ∀ w, (binOp .neq 76 (.agg za1.toArray) (.agg zb1.toArray)).run Try.prog w = .ok (.bool false) w := fun w => (Q1.out w).trans (by simp [hp1])
  have Hp1 := Lib.hid hp1
  clear hp1
  by_cases hp2 : sa.p.drop 18 = sb.p.drop 18
  rotate_left
  · have q2 : ∀ w, (binOp .neq 77 (.agg za2.toArray) (.agg zb2.toArray)).run Try.prog w = .ok (.bool true) w := fun w => (Q2.out w).trans (by simp [hp2])
    have Hf := Lib.hid (show r = false by rw [Hr.out, Bool.eq_false_iff]; intro h; rw [stEq_iff] at h; exact hp2 (by rw [h]))
    clear hp2
    go_wp2_with (first | (refine wpList_load_midG rfl 76 (.tmp 15) rfl w.heap.size 12 rfl za1 _ Ra1.out Try.underlying76 rfl (by rw [La1.out]; kernel_rfl) ?_) | (refine wpList_load_midG rfl 76 (.tmp 17) rfl (w.heap.size + 1) 12 rfl zb1 _ Rb1.out Try.underlying76 rfl (by rw [Lb1.out]; kernel_rfl) ?_) | (refine wpList_load_midG rfl 77 (.tmp 22) rfl w.heap.size 30 rfl za2 _ Ra2.out Try.underlying77 rfl (by rw [La2.out]; kernel_rfl) ?_) | (refine wpList_load_midG rfl 77 (.tmp 24) rfl (w.heap.size + 1) 30 rfl zb2 _ Rb2.out Try.underlying77 rfl (by rw [Lb2.out]; kernel_rfl) ?_))
    go_ret
    exact ⟨ret_bool Hf.out.symm, B0.out⟩
  have q2 : ∀ w, (binOp .neq 77 (.agg za2.toArray) (.agg zb2.toArray)).run Try.prog w = .ok (.bool false) w := fun w => (Q2.out w).trans (by simp [hp2])
  have Hp := Lib.hid (Hps.out.2 ⟨Hp1.out, hp2⟩)
  clear hp2
  go_wp2_with (first | (refine wpList_load_midG rfl 76 (.tmp 15) rfl w.heap.size 12 rfl za1 _ Ra1.out Try.underlying76 rfl (by rw [La1.out]; kernel_rfl) ?_) | (refine wpList_load_midG rfl 76 (.tmp 17) rfl (w.heap.size + 1) 12 rfl zb1 _ Rb1.out Try.underlying76 rfl (by rw [Lb1.out]; kernel_rfl) ?_) | (refine wpList_load_midG rfl 77 (.tmp 22) rfl w.heap.size 30 rfl za2 _ Ra2.out Try.underlying77 rfl (by rw [La2.out]; kernel_rfl) ?_) | (refine wpList_load_midG rfl 77 (.tmp 24) rfl (w.heap.size + 1) 30 rfl zb2 _ Rb2.out Try.underlying77 rfl (by rw [Lb2.out]; kernel_rfl) ?_))
  clear q1 q2 k0 k1
  generalize ((w.alloc (.cells ca 79)).alloc (.cells cb 79)) = w1 at *
  go_loopw [31] (fun i wr => ∃ j : Nat, j ≤ n ∧ i = .int .i64 j ∧ Below w1.heap.size w1 wr ∧ sa.o.take j = sb.o.take j) (fun i _ => n - (intOf i).toNat)
  case atStart => exact ⟨0, Nat.zero_le _, rfl, hx, by simp⟩
  case round =>
    obtain ⟨j, hj, rfl, hxr, heq⟩ := hrel
    have Heq := Lib.hid heq
    clear heq hx
    by_cases hlt : j < n
    · obtain ⟨oa, ha⟩ := HA.out wr hxr
      obtain ⟨ob, hb⟩ := HB.out wr hxr
      obtain ⟨a0, c0', e0, r0⟩ := ha.sl 0 (by decide)
      obtain ⟨a1, c1', e1, r1⟩ := hb.sl 0 (by decide)
      change SlAt wr 18 a0 sa.o.length c0' (objs sa.o) at r0
      change SlAt wr 18 a1 sb.o.length c1' (objs sb.o) at r1
      have k0 : wr.cell? ⟨w.heap.size, 0, none⟩ = some (.slice a0 sa.o.length c0') := (obj_cell oa 0).trans e0
      have k1 : wr.cell? ⟨w.heap.size + 1, 0, none⟩ = some (.slice a1 sb.o.length c1') := (obj_cell ob 0).trans e1
      obtain ⟨ba, pa, rfl, hba, rga⟩ := obj_at r0 Oka.out.o rfl (k := j) (by have := Hn.out; omega)
      obtain ⟨bb, pb, rfl, hbb, rgb⟩ := obj_at r1 Okb.out.o rfl (k := j) (by have := Hm.out; omega)
      rw [← Hn.out] at k0
      rw [← Hm.out] at k1
      have hta := take_snoc sa.o j [] (by have := Hn.out; omega)
      have htb := take_snoc sb.o j [] (by have := Hm.out; omega)
      have h18a := obj_len Oka.out (i := j) (by have := Hn.out; omega)
      have h18b := obj_len Okb.out (i := j) (by have := Hm.out; omega)
      obtain ⟨xa, hxa⟩ : ∃ x, x = sa.o.getD j [] := ⟨_, rfl⟩
      obtain ⟨xb, hxb⟩ : ∃ x, x = sb.o.getD j [] := ⟨_, rfl⟩
      rw [← hxa] at hta h18a rga
      rw [← hxb] at htb h18b rgb
      have Hta := Lib.hid hta
      have Htb := Lib.hid htb
      have H18a := Lib.hid h18a
      have H18b := Lib.hid h18b
      have Hxa := Lib.hid hxa
      have Hxb := Lib.hid hxb
      have hji : (j : Int) < (n : Int) := by omega
      have HT := Lib.hid (show wr.drew.cell? ⟨w.heap.size, 0, none⟩ = some (.slice (some ⟨ba, pa, none⟩) n c0') ∧ wr.drew.cell? ⟨w.heap.size + 1, 0, none⟩ = some (.slice (some ⟨bb, pb, none⟩) n c1') ∧ wr.drew.rangeAt ba (pa + j * 18) (objC xa) ∧ wr.drew.rangeAt bb (pb + j * 18) (objC xb) from ⟨k0, k1, rga, rgb⟩)
      clear hta htb h18a h18b hxa hxb oa ob ha hb e0 e1 r0 r1 k0 k1 rga rgb
      go_wp2_with fail
      by_cases hxy : xa = xb
      · have q : ∀ w, (binOp .neq 108 (.agg (objC xa).toArray) (.agg (objC xb).toArray)).run Try.prog w = .ok (.bool false) w := fun w => (obj_neq w xa xb H18a.out H18b.out).trans (by simp [hxy])
        have Hxy := Lib.hid hxy
        clear hxy
        refine wp_region_held_drew (S := fun x => x.cell? ⟨w.heap.size, 0, none⟩ = some (.slice (some ⟨ba, pa, none⟩) n c0') ∧ x.cell? ⟨w.heap.size + 1, 0, none⟩ = some (.slice (some ⟨bb, pb, none⟩) n c1') ∧ x.rangeAt ba (pa + j * 18) (objC xa) ∧ x.rangeAt bb (pb + j * 18) (objC xb)) (by kernel_rfl) HT.out (fun hHeld => ?_)
        refine wpAnyH_take (i := 0) (oi := ⟨some 34, _, _, _, _, _⟩) (v := ?_) rfl (by kernel_rfl) (by kernel_rfl) (by kernel_rfl) (fun _ _ _ h => h) (Or.inl ⟨by rfl, ?_⟩) hHeld ?_
        rotate_left
        · intro w' hS'
          (try dsimp only at hS')
          go_simp
          try with_reducible rfl
        try simp only [Act.put, List.setIfInBounds_toArray, List.set_cons_zero, List.set_cons_succ]
        refine wpAnyH_take (i := 1) (oi := ⟨some 35, _, _, _, _, _⟩) (v := ?_) rfl (by kernel_rfl) (by kernel_rfl) (by kernel_rfl) (fun _ _ _ h => h) (Or.inl ⟨by rfl, ?_⟩) hHeld ?_
        rotate_left
        · intro w' hS'
          (try dsimp only at hS')
          go_simp
          try with_reducible rfl
        try simp only [Act.put, List.setIfInBounds_toArray, List.set_cons_zero, List.set_cons_succ]
        refine wpAnyH_take (i := 2) (oi := ⟨some 36, _, _, _, _, _⟩) (v := ?_) rfl (by kernel_rfl) (by kernel_rfl) (by kernel_rfl) (fun _ _ _ h => h) (Or.inl ⟨by rfl, ?_⟩) hHeld ?_
        rotate_left
        · intro w' hS'
          (try dsimp only at hS')
          go_simp
          try with_reducible rfl
        try simp only [Act.put, List.setIfInBounds_toArray, List.set_cons_zero, List.set_cons_succ]
        refine wpAnyH_take (i := 3) (oi := ⟨some 37, _, _, _, _, _⟩) (v := ?_) rfl (by kernel_rfl) (by kernel_rfl) (by kernel_rfl) (fun _ _ _ h => h) (Or.inl ⟨by rfl, ?_⟩) hHeld ?_
        rotate_left
        · intro w' hS'
          (try dsimp only at hS')
          go_simp
          try with_reducible rfl
        try simp only [Act.put, List.setIfInBounds_toArray, List.set_cons_zero, List.set_cons_succ]
        refine wpAnyH_take (i := 4) (oi := ⟨some 38, _, _, _, _, _⟩) rfl (by kernel_rfl) (by kernel_rfl) (by kernel_rfl) (fun _ _ _ h => h) (yieldsIf_load_mid rfl 108 (.tmp 37) rfl ba (pa + j * 18) rfl (objC xa) _ (fun w hw => hw.2.2.1) Try.underlying108 rfl (by rw [objC, List.length_map, H18a.out]; kernel_rfl)) hHeld ?_
        try simp only [Act.put, List.setIfInBounds_toArray, List.set_cons_zero, List.set_cons_succ]
        refine wpAnyH_take (i := 5) (oi := ⟨some 39, _, _, _, _, _⟩) (v := ?_) rfl (by kernel_rfl) (by kernel_rfl) (by kernel_rfl) (fun _ _ _ h => h) (Or.inl ⟨by rfl, ?_⟩) hHeld ?_
        rotate_left
        · intro w' hS'
          (try dsimp only at hS')
          go_simp
          try with_reducible rfl
        try simp only [Act.put, List.setIfInBounds_toArray, List.set_cons_zero, List.set_cons_succ]
        refine wpAnyH_take (i := 6) (oi := ⟨some 40, _, _, _, _, _⟩) (v := ?_) rfl (by kernel_rfl) (by kernel_rfl) (by kernel_rfl) (fun _ _ _ h => h) (Or.inl ⟨by rfl, ?_⟩) hHeld ?_
        rotate_left
        · intro w' hS'
          (try dsimp only at hS')
          go_simp
          try with_reducible rfl
        try simp only [Act.put, List.setIfInBounds_toArray, List.set_cons_zero, List.set_cons_succ]
        refine wpAnyH_take (i := 7) (oi := ⟨some 41, _, _, _, _, _⟩) (v := ?_) rfl (by kernel_rfl) (by kernel_rfl) (by kernel_rfl) (fun _ _ _ h => h) (Or.inl ⟨by rfl, ?_⟩) hHeld ?_
        rotate_left
        · intro w' hS'
          (try dsimp only at hS')
          go_simp
          try with_reducible rfl
        try simp only [Act.put, List.setIfInBounds_toArray, List.set_cons_zero, List.set_cons_succ]
        refine wpAnyH_take (i := 8) (oi := ⟨some 42, _, _, _, _, _⟩) (v := ?_) rfl (by kernel_rfl) (by kernel_rfl) (by kernel_rfl) (fun _ _ _ h => h) (Or.inl ⟨by rfl, ?_⟩) hHeld ?_
        rotate_left
        · intro w' hS'
          (try dsimp only at hS')
          go_simp
          try with_reducible rfl
        try simp only [Act.put, List.setIfInBounds_toArray, List.set_cons_zero, List.set_cons_succ]
        refine wpAnyH_take (i := 9) (oi := ⟨some 43, _, _, _, _, _⟩) rfl (by kernel_rfl) (by kernel_rfl) (by kernel_rfl) (fun _ _ _ h => h) (yieldsIf_load_mid rfl 108 (.tmp 42) rfl bb (pb + j * 18) rfl (objC xb) _ (fun w hw => hw.2.2.2) Try.underlying108 rfl (by rw [objC, List.length_map, H18b.out]; kernel_rfl)) hHeld ?_
        try simp only [Act.put, List.setIfInBounds_toArray, List.set_cons_zero, List.set_cons_succ]
        refine wpAnyH_take (i := 10) (oi := ⟨some 44, _, _, _, _, _⟩) (v := ?_) rfl (by kernel_rfl) (by kernel_rfl) (by kernel_rfl) (fun _ _ _ h => h) (Or.inl ⟨by rfl, ?_⟩) hHeld ?_
        rotate_left
        · intro w' hS'
          (try dsimp only at hS')
          go_simp
          try with_reducible rfl
        try simp only [Act.put, List.setIfInBounds_toArray, List.set_cons_zero, List.set_cons_succ]
        refine wpAnyH_done (by kernel_rfl) ?_ _
        clear q
        go_wp2_with fail
        go_roundw
        case rel => exact ⟨j + 1, by omega, by go_num, hxr.drew, by rw [Hta.out, Htb.out, Heq.out, Hxy.out]⟩
        case measure => simp [intOf]; omega
      · have q : ∀ w, (binOp .neq 108 (.agg (objC xa).toArray) (.agg (objC xb).toArray)).run Try.prog w = .ok (.bool true) w := fun w => (obj_neq w xa xb H18a.out H18b.out).trans (by simp [hxy])
        have Hf := Lib.hid (show r = false by rw [Hr.out, Bool.eq_false_iff]; intro h; rw [stEq_iff] at h; exact hxy (by rw [Hxa.out, Hxb.out, h]))
        clear hxy
        refine wp_region_held_drew (S := fun x => x.cell? ⟨w.heap.size, 0, none⟩ = some (.slice (some ⟨ba, pa, none⟩) n c0') ∧ x.cell? ⟨w.heap.size + 1, 0, none⟩ = some (.slice (some ⟨bb, pb, none⟩) n c1') ∧ x.rangeAt ba (pa + j * 18) (objC xa) ∧ x.rangeAt bb (pb + j * 18) (objC xb)) (by kernel_rfl) HT.out (fun hHeld => ?_)
        refine wpAnyH_take (i := 0) (oi := ⟨some 34, _, _, _, _, _⟩) (v := ?_) rfl (by kernel_rfl) (by kernel_rfl) (by kernel_rfl) (fun _ _ _ h => h) (Or.inl ⟨by rfl, ?_⟩) hHeld ?_
        rotate_left
        · intro w' hS'
          (try dsimp only at hS')
          go_simp
          try with_reducible rfl
        try simp only [Act.put, List.setIfInBounds_toArray, List.set_cons_zero, List.set_cons_succ]
        refine wpAnyH_take (i := 1) (oi := ⟨some 35, _, _, _, _, _⟩) (v := ?_) rfl (by kernel_rfl) (by kernel_rfl) (by kernel_rfl) (fun _ _ _ h => h) (Or.inl ⟨by rfl, ?_⟩) hHeld ?_
        rotate_left
        · intro w' hS'
          (try dsimp only at hS')
          go_simp
          try with_reducible rfl
        try simp only [Act.put, List.setIfInBounds_toArray, List.set_cons_zero, List.set_cons_succ]
        refine wpAnyH_take (i := 2) (oi := ⟨some 36, _, _, _, _, _⟩) (v := ?_) rfl (by kernel_rfl) (by kernel_rfl) (by kernel_rfl) (fun _ _ _ h => h) (Or.inl ⟨by rfl, ?_⟩) hHeld ?_
        rotate_left
        · intro w' hS'
          (try dsimp only at hS')
          go_simp
          try with_reducible rfl
        try simp only [Act.put, List.setIfInBounds_toArray, List.set_cons_zero, List.set_cons_succ]
        refine wpAnyH_take (i := 3) (oi := ⟨some 37, _, _, _, _, _⟩) (v := ?_) rfl (by kernel_rfl) (by kernel_rfl) (by kernel_rfl) (fun _ _ _ h => h) (Or.inl ⟨by rfl, ?_⟩) hHeld ?_
        rotate_left
        · intro w' hS'
          (try dsimp only at hS')
          go_simp
          try with_reducible rfl
        try simp only [Act.put, List.setIfInBounds_toArray, List.set_cons_zero, List.set_cons_succ]
        refine wpAnyH_take (i := 4) (oi := ⟨some 38, _, _, _, _, _⟩) rfl (by kernel_rfl) (by kernel_rfl) (by kernel_rfl) (fun _ _ _ h => h) (yieldsIf_load_mid rfl 108 (.tmp 37) rfl ba (pa + j * 18) rfl (objC xa) _ (fun w hw => hw.2.2.1) Try.underlying108 rfl (by rw [objC, List.length_map, H18a.out]; kernel_rfl)) hHeld ?_
        try simp only [Act.put, List.setIfInBounds_toArray, List.set_cons_zero, List.set_cons_succ]
        refine wpAnyH_take (i := 5) (oi := ⟨some 39, _, _, _, _, _⟩) (v := ?_) rfl (by kernel_rfl) (by kernel_rfl) (by kernel_rfl) (fun _ _ _ h => h) (Or.inl ⟨by rfl, ?_⟩) hHeld ?_
        rotate_left
        · intro w' hS'
          (try dsimp only at hS')
          go_simp
          try with_reducible rfl
        try simp only [Act.put, List.setIfInBounds_toArray, List.set_cons_zero, List.set_cons_succ]
        refine wpAnyH_take (i := 6) (oi := ⟨some 40, _, _, _, _, _⟩) (v := ?_) rfl (by kernel_rfl) (by kernel_rfl) (by kernel_rfl) (fun _ _ _ h => h) (Or.inl ⟨by rfl, ?_⟩) hHeld ?_
        rotate_left
        · intro w' hS'
          (try dsimp only at hS')
          go_simp
          try with_reducible rfl
        try simp only [Act.put, List.setIfInBounds_toArray, List.set_cons_zero, List.set_cons_succ]
        refine wpAnyH_take (i := 7) (oi := ⟨some 41, _, _, _, _, _⟩) (v := ?_) rfl (by kernel_rfl) (by kernel_rfl) (by kernel_rfl) (fun _ _ _ h => h) (Or.inl ⟨by rfl, ?_⟩) hHeld ?_
        rotate_left
        · intro w' hS'
          (try dsimp only at hS')
          go_simp
          try with_reducible rfl
        try simp only [Act.put, List.setIfInBounds_toArray, List.set_cons_zero, List.set_cons_succ]
        refine wpAnyH_take (i := 8) (oi := ⟨some 42, _, _, _, _, _⟩) (v := ?_) rfl (by kernel_rfl) (by kernel_rfl) (by kernel_rfl) (fun _ _ _ h => h) (Or.inl ⟨by rfl, ?_⟩) hHeld ?_
        rotate_left
        · intro w' hS'
          (try dsimp only at hS')
          go_simp
          try with_reducible rfl
        try simp only [Act.put, List.setIfInBounds_toArray, List.set_cons_zero, List.set_cons_succ]
        refine wpAnyH_take (i := 9) (oi := ⟨some 43, _, _, _, _, _⟩) rfl (by kernel_rfl) (by kernel_rfl) (by kernel_rfl) (fun _ _ _ h => h) (yieldsIf_load_mid rfl 108 (.tmp 42) rfl bb (pb + j * 18) rfl (objC xb) _ (fun w hw => hw.2.2.2) Try.underlying108 rfl (by rw [objC, List.length_map, H18b.out]; kernel_rfl)) hHeld ?_
        try simp only [Act.put, List.setIfInBounds_toArray, List.set_cons_zero, List.set_cons_succ]
        refine wpAnyH_take (i := 10) (oi := ⟨some 44, _, _, _, _, _⟩) (v := ?_) rfl (by kernel_rfl) (by kernel_rfl) (by kernel_rfl) (fun _ _ _ h => h) (Or.inl ⟨by rfl, ?_⟩) hHeld ?_
        rotate_left
        · intro w' hS'
          (try dsimp only at hS')
          go_simp
          try with_reducible rfl
        try simp only [Act.put, List.setIfInBounds_toArray, List.set_cons_zero, List.set_cons_succ]
        refine wpAnyH_done (by kernel_rfl) ?_ _
        clear q
        go_wp2_with fail
        go_ret
        exact ⟨ret_bool Hf.out.symm, B0.out.trans (hxr.drew.mono B0.out.size)⟩
    · obtain rfl : j = n := by omega
      have Ho := Lib.hid (show sa.o = sb.o by have := Heq.out; rwa [List.take_of_length_le (by have := Hn.out; omega), List.take_of_length_le (by have := Hm.out; omega)] at this)
      clear Heq
      go_wp2_with fail
      go_loopw [46] (fun i wr => ∃ z : Nat, z ≤ 11 ∧ i = .int .i64 z ∧ Below w1.heap.size w1 wr ∧ sa.l.take z = sb.l.take z) (fun i _ => 11 - (intOf i).toNat)
      case atStart => exact ⟨0, Nat.zero_le _, rfl, hxr, by simp⟩
      case round =>
        obtain ⟨z, hz, rfl, hxs, heq⟩ := hrel
        have Heq := Lib.hid heq
        clear heq hxr
        by_cases hlt2 : z < 11
        · obtain ⟨oa, ha⟩ := HA.out _ hxs
          obtain ⟨ob, hb⟩ := HB.out _ hxs
          obtain ⟨a0, c0', e0, r0⟩ := ha.sl (1 + z) (by omega)
          obtain ⟨a1, c1', e1, r1⟩ := hb.sl (1 + z) (by omega)
          have k0 := (obj_cell oa (1 + z)).trans e0
          have k1 := (obj_cell ob (1 + z)).trans e1
          have hta := take_snoc sa.l z [] (by have := Oka.out.l; omega)
          have htb := take_snoc sb.l z [] (by have := Okb.out.l; omega)
          simp only [lenOf, rowOf, szOf, if_neg (show 1 + z ≠ 0 by omega), Nat.add_sub_cancel_left] at k0 k1 r0 r1
          have Hra := Lib.hid r0
          have Hrb := Lib.hid r1
          obtain ⟨xa, hxa⟩ : ∃ x, x = sa.l.getD z [] := ⟨_, rfl⟩
          obtain ⟨xb, hxb⟩ : ∃ x, x = sb.l.getD z [] := ⟨_, rfl⟩
          rw [← hxa] at hta k0 Hra
          rw [← hxb] at htb k1 Hrb
          have hzi : (z : Int) < 11 := by omega
          obtain ⟨na, hna⟩ : ∃ x, x = xa.length := ⟨_, rfl⟩
          obtain ⟨nb, hnb⟩ : ∃ x, x = xb.length := ⟨_, rfl⟩
          rw [← hna] at k0 Hra
          rw [← hnb] at k1 Hrb
          have Hta := Lib.hid hta
          have Htb := Lib.hid htb
          have Hxa := Lib.hid hxa
          have Hxb := Lib.hid hxb
          have hx2 : Below wr.heap.size wr wr.drew := (Below.refl _ _).drew
          have HT := Lib.hid (fun (x : World) (hb : Below wr.heap.size wr x) => (⟨(hb.cell (p := ⟨w.heap.size, 1 + z, none⟩) (obj_lt oa)).trans k0, (hb.cell (p := ⟨w.heap.size + 1, 1 + z, none⟩) (obj_lt ob)).trans k1⟩ : x.cell? ⟨w.heap.size, 1 + z, none⟩ = some (.slice a0 na c0') ∧ x.cell? ⟨w.heap.size + 1, 1 + z, none⟩ = some (.slice a1 nb c1')))
          clear hta htb hxa hxb oa ob ha hb e0 e1 r0 r1 k0 k1 hna hnb
          go_wp2_with fail
          by_cases hxy : xa = xb
          · have Hd := Lib.hid (show decide (xa = xb) = true by simp [hxy])
            have Hxy := Lib.hid hxy
            clear hxy
            refine wp_region_held_drew (S := fun x => x.cell? ⟨w.heap.size, 1 + z, none⟩ = some (.slice a0 na c0') ∧ x.cell? ⟨w.heap.size + 1, 1 + z, none⟩ = some (.slice a1 nb c1')) (by kernel_rfl) (HT.out _ hx2) (fun hHeld => ?_)
            refine wpAnyH_take (i := 0) (oi := ⟨some 49, _, _, _, _, _⟩) (v := ?_) rfl (by kernel_rfl) (by kernel_rfl) (by kernel_rfl) (fun _ _ _ h => h) (Or.inl ⟨by rfl, ?_⟩) hHeld ?_
            rotate_left
            · intro w' hS'
              (try dsimp only at hS')
              go_simp
              try with_reducible rfl
            try simp only [Act.put, List.setIfInBounds_toArray, List.set_cons_zero, List.set_cons_succ]
            refine wpAnyH_take (i := 1) (oi := ⟨some 50, _, _, _, _, _⟩) (v := ?_) rfl (by kernel_rfl) (by kernel_rfl) (by kernel_rfl) (fun _ _ _ h => h) (Or.inl ⟨by rfl, ?_⟩) hHeld ?_
            rotate_left
            · intro w' hS'
              (try dsimp only at hS')
              go_simp
              try with_reducible rfl
            try simp only [Act.put, List.setIfInBounds_toArray, List.set_cons_zero, List.set_cons_succ]
            refine wpAnyH_take (i := 2) (oi := ⟨some 51, _, _, _, _, _⟩) (v := ?_) rfl (by kernel_rfl) (by kernel_rfl) (by kernel_rfl) (fun _ _ _ h => h) (Or.inl ⟨by rfl, ?_⟩) hHeld ?_
            rotate_left
            · intro w' hS'
              (try dsimp only at hS')
              go_simp
              try with_reducible rfl
            try simp only [Act.put, List.setIfInBounds_toArray, List.set_cons_zero, List.set_cons_succ]
            refine wpAnyH_take (i := 3) (oi := ⟨some 52, _, _, _, _, _⟩) (v := ?_) rfl (by kernel_rfl) (by kernel_rfl) (by kernel_rfl) (fun _ _ _ h => h) (Or.inl ⟨by rfl, ?_⟩) hHeld ?_
            rotate_left
            · intro w' hS'
              (try dsimp only at hS')
              go_simp
              try with_reducible rfl
            try simp only [Act.put, List.setIfInBounds_toArray, List.set_cons_zero, List.set_cons_succ]
            refine wpAnyH_take (i := 4) (oi := ⟨some 53, _, _, _, _, _⟩) (v := ?_) rfl (by kernel_rfl) (by kernel_rfl) (by kernel_rfl) (fun _ _ _ h => h) (Or.inl ⟨by rfl, ?_⟩) hHeld ?_
            rotate_left
            · intro w' hS'
              (try dsimp only at hS')
              go_simp
              try with_reducible rfl
            try simp only [Act.put, List.setIfInBounds_toArray, List.set_cons_zero, List.set_cons_succ]
            refine wpAnyH_take (i := 5) (oi := ⟨some 54, _, _, _, _, _⟩) (v := ?_) rfl (by kernel_rfl) (by kernel_rfl) (by kernel_rfl) (fun _ _ _ h => h) (Or.inl ⟨by rfl, ?_⟩) hHeld ?_
            rotate_left
            · intro w' hS'
              (try dsimp only at hS')
              go_simp
              try with_reducible rfl
            try simp only [Act.put, List.setIfInBounds_toArray, List.set_cons_zero, List.set_cons_succ]
            refine wpAnyH_take (i := 6) (oi := ⟨some 55, _, _, _, _, _⟩) (v := ?_) rfl (by kernel_rfl) (by kernel_rfl) (by kernel_rfl) (fun _ _ _ h => h) (Or.inl ⟨by rfl, ?_⟩) hHeld ?_
            rotate_left
            · intro w' hS'
              (try dsimp only at hS')
              go_simp
              try with_reducible rfl
            try simp only [Act.put, List.setIfInBounds_toArray, List.set_cons_zero, List.set_cons_succ]
            refine wpAnyH_take (i := 7) (oi := ⟨some 56, _, _, _, _, _⟩) (v := ?_) rfl (by kernel_rfl) (by kernel_rfl) (by kernel_rfl) (fun _ _ _ h => h) (Or.inl ⟨by rfl, ?_⟩) hHeld ?_
            rotate_left
            · intro w' hS'
              (try dsimp only at hS')
              go_simp
              try with_reducible rfl
            try simp only [Act.put, List.setIfInBounds_toArray, List.set_cons_zero, List.set_cons_succ]
            refine wpAnyH_all (rs := [8]) (by kernel_rfl) (by simp) ?_
            intro ix hix
            obtain rfl : ix = 8 := by simpa using hix
            clear hix
            refine wpOp_step (o := ⟨some 57, _, _, _, _, _⟩) rfl (fun K hK => ?_)
            have HK := Lib.hid hK
            clear hK
            go_simp
            refine (ints _ a0 a1 na nb c0' c1' xa xb (Hra.out.all hx2) (Hrb.out.all hx2)).mono ?_
            rintro x w5 ⟨rfl, hq⟩
            rw [Hd.out]
            replace hx2 := hx2.trans (hq.below _)
            clear hq
            go_wp2_with fail
            refine HK.out _ _ ⟨(HT.out _ hx2), ?_⟩
            clear HK
            try clear hHeld
            have hHeld := (HT.out _ hx2)
            try simp only [Act.put, List.setIfInBounds_toArray, List.set_cons_zero, List.set_cons_succ]
            refine wpAnyH_take (i := 9) (oi := ⟨some 58, _, _, _, _, _⟩) (v := ?_) rfl (by kernel_rfl) (by kernel_rfl) (by kernel_rfl) (fun _ _ _ h => h) (Or.inl ⟨by rfl, ?_⟩) hHeld ?_
            rotate_left
            · intro w' hS'
              (try dsimp only at hS')
              go_simp
              try with_reducible rfl
            try simp only [Act.put, List.setIfInBounds_toArray, List.set_cons_zero, List.set_cons_succ]
            refine wpAnyH_done (by kernel_rfl) ?_ _
            go_wp2_with fail
            go_roundw
            case rel => exact ⟨z + 1, by omega, by go_num, hxs.trans (hx2.mono hxs.size), by rw [Hta.out, Htb.out, Heq.out, Hxy.out]⟩
            case measure => simp [intOf]; omega
          · have Hd := Lib.hid (show decide (xa = xb) = false by simp [hxy])
            have Hf := Lib.hid (show r = false by rw [Hr.out, Bool.eq_false_iff]; intro h; rw [stEq_iff] at h; exact hxy (by rw [Hxa.out, Hxb.out, h]))
            clear hxy
            refine wp_region_held_drew (S := fun x => x.cell? ⟨w.heap.size, 1 + z, none⟩ = some (.slice a0 na c0') ∧ x.cell? ⟨w.heap.size + 1, 1 + z, none⟩ = some (.slice a1 nb c1')) (by kernel_rfl) (HT.out _ hx2) (fun hHeld => ?_)
            refine wpAnyH_take (i := 0) (oi := ⟨some 49, _, _, _, _, _⟩) (v := ?_) rfl (by kernel_rfl) (by kernel_rfl) (by kernel_rfl) (fun _ _ _ h => h) (Or.inl ⟨by rfl, ?_⟩) hHeld ?_
            rotate_left
            · intro w' hS'
              (try dsimp only at hS')
              go_simp
              try with_reducible rfl
            try simp only [Act.put, List.setIfInBounds_toArray, List.set_cons_zero, List.set_cons_succ]
            refine wpAnyH_take (i := 1) (oi := ⟨some 50, _, _, _, _, _⟩) (v := ?_) rfl (by kernel_rfl) (by kernel_rfl) (by kernel_rfl) (fun _ _ _ h => h) (Or.inl ⟨by rfl, ?_⟩) hHeld ?_
            rotate_left
            · intro w' hS'
              (try dsimp only at hS')
              go_simp
              try with_reducible rfl
            try simp only [Act.put, List.setIfInBounds_toArray, List.set_cons_zero, List.set_cons_succ]
            refine wpAnyH_take (i := 2) (oi := ⟨some 51, _, _, _, _, _⟩) (v := ?_) rfl (by kernel_rfl) (by kernel_rfl) (by kernel_rfl) (fun _ _ _ h => h) (Or.inl ⟨by rfl, ?_⟩) hHeld ?_
            rotate_left
            · intro w' hS'
              (try dsimp only at hS')
              go_simp
              try with_reducible rfl
            try simp only [Act.put, List.setIfInBounds_toArray, List.set_cons_zero, List.set_cons_succ]
            refine wpAnyH_take (i := 3) (oi := ⟨some 52, _, _, _, _, _⟩) (v := ?_) rfl (by kernel_rfl) (by kernel_rfl) (by kernel_rfl) (fun _ _ _ h => h) (Or.inl ⟨by rfl, ?_⟩) hHeld ?_
            rotate_left
            · intro w' hS'
              (try dsimp only at hS')
              go_simp
              try with_reducible rfl
            try simp only [Act.put, List.setIfInBounds_toArray, List.set_cons_zero, List.set_cons_succ]
            refine wpAnyH_take (i := 4) (oi := ⟨some 53, _, _, _, _, _⟩) (v := ?_) rfl (by kernel_rfl) (by kernel_rfl) (by kernel_rfl) (fun _ _ _ h => h) (Or.inl ⟨by rfl, ?_⟩) hHeld ?_
            rotate_left
            · intro w' hS'
              (try dsimp only at hS')
              go_simp
              try with_reducible rfl
            try simp only [Act.put, List.setIfInBounds_toArray, List.set_cons_zero, List.set_cons_succ]
            refine wpAnyH_take (i := 5) (oi := ⟨some 54, _, _, _, _, _⟩) (v := ?_) rfl (by kernel_rfl) (by kernel_rfl) (by kernel_rfl) (fun _ _ _ h => h) (Or.inl ⟨by rfl, ?_⟩) hHeld ?_
            rotate_left
            · intro w' hS'
              (try dsimp only at hS')
              go_simp
              try with_reducible rfl
            try simp only [Act.put, List.setIfInBounds_toArray, List.set_cons_zero, List.set_cons_succ]
            refine wpAnyH_take (i := 6) (oi := ⟨some 55, _, _, _, _, _⟩) (v := ?_) rfl (by kernel_rfl) (by kernel_rfl) (by kernel_rfl) (fun _ _ _ h => h) (Or.inl ⟨by rfl, ?_⟩) hHeld ?_
            rotate_left
            · intro w' hS'
              (try dsimp only at hS')
              go_simp
              try with_reducible rfl
            try simp only [Act.put, List.setIfInBounds_toArray, List.set_cons_zero, List.set_cons_succ]
            refine wpAnyH_take (i := 7) (oi := ⟨some 56, _, _, _, _, _⟩) (v := ?_) rfl (by kernel_rfl) (by kernel_rfl) (by kernel_rfl) (fun _ _ _ h => h) (Or.inl ⟨by rfl, ?_⟩) hHeld ?_
            rotate_left
            · intro w' hS'
              (try dsimp only at hS')
              go_simp
              try with_reducible rfl
            try simp only [Act.put, List.setIfInBounds_toArray, List.set_cons_zero, List.set_cons_succ]
            refine wpAnyH_all (rs := [8]) (by kernel_rfl) (by simp) ?_
            intro ix hix
            obtain rfl : ix = 8 := by simpa using hix
            clear hix
            refine wpOp_step (o := ⟨some 57, _, _, _, _, _⟩) rfl (fun K hK => ?_)
            have HK := Lib.hid hK
            clear hK
            go_simp
            refine (ints _ a0 a1 na nb c0' c1' xa xb (Hra.out.all hx2) (Hrb.out.all hx2)).mono ?_
            rintro x w5 ⟨rfl, hq⟩
            rw [Hd.out]
            replace hx2 := hx2.trans (hq.below _)
            clear hq
            go_wp2_with fail
            refine HK.out _ _ ⟨(HT.out _ hx2), ?_⟩
            clear HK
            try clear hHeld
            have hHeld := (HT.out _ hx2)
            try simp only [Act.put, List.setIfInBounds_toArray, List.set_cons_zero, List.set_cons_succ]
            refine wpAnyH_take (i := 9) (oi := ⟨some 58, _, _, _, _, _⟩) (v := ?_) rfl (by kernel_rfl) (by kernel_rfl) (by kernel_rfl) (fun _ _ _ h => h) (Or.inl ⟨by rfl, ?_⟩) hHeld ?_
            rotate_left
            · intro w' hS'
              (try dsimp only at hS')
              go_simp
              try with_reducible rfl
            try simp only [Act.put, List.setIfInBounds_toArray, List.set_cons_zero, List.set_cons_succ]
            refine wpAnyH_done (by kernel_rfl) ?_ _
            go_wp2_with fail
            go_ret
            exact ⟨ret_bool Hf.out.symm, B0.out.trans ((hxs.trans (hx2.mono hxs.size)).mono B0.out.size)⟩
        · obtain rfl : z = 11 := by omega
          have Ht := Lib.hid (show r = true by
            have hl : sa.l = sb.l := by have := Heq.out; rwa [List.take_of_length_le (by have := Oka.out.l; omega), List.take_of_length_le (by have := Okb.out.l; omega)] at this
            rw [Hr.out, stEq, Ho.out, Hp.out, hl]
            simp)
          clear Heq
          go_wp2_with fail
          go_ret
          exact ⟨ret_bool Ht.out.symm, B0.out.trans (hxs.mono B0.out.size)⟩
end Go.Proofs.Ytpbocficffbcbaa
