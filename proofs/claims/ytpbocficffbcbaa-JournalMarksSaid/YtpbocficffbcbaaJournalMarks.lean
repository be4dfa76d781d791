import Derived.Test.YtpbocficffbcbaaJAlive
import Derived.RegionTactic
import Derived.Lib.QuietBelow
import Derived.ChangeAlike
import Derived.BigRegion
namespace Go.Proofs.Ytpbocficffbcbaa
open Go Go.RowKit Go.Sort
set_option linter.unusedVariables false

/-- Behind Back, of a journal without events, whatever the number. -/
def BackAny (w : World) (bj : Nat) (ms : List Mk) (last : Int) (ea ma : Option Addr) (c : Int) (e : Ending) (w' : World) : Prop :=
  ∃ ea' ec' ma' mc' sa sn sc z ms', e = .returned (.tuple #[.slice sa sn sc, errV 32 z]) ∧ JAt w' bj [] ms' last ea' ec' ma' mc' ∧ JOk [] ms' last ∧ ms'.length ≤ ms.length ∧ Upd (ownJ bj ea ma) w w' ∧
    (∀ ad, ea' = some ad → ea = some ad ∨ w.heap.size ≤ ad.block) ∧ (∀ ad, ma' = some ad → ma = some ad ∨ w.heap.size ≤ ad.block) ∧
    ((z = 0 ∧ 0 < ms'.length ∧ (∃ k, ms'[ms'.length - 1]? = some (c, k))) ∨ (z = 16 ∧ place ms' c = none))
theorem backAny (w : World) (bj : Nat) (ms : List Mk) (last : Int) (ea ma : Option Addr) (ec mc : Nat) (h : JAt w bj [] ms last ea ec ma mc) (ok : JOk [] ms last) (hm : ms.length < 1000000) (c : Int) :
    Calls Try.prog 35 #[.pointer (some ⟨bj, 0, none⟩), .int .i64 c] w (BackAny w bj ms last ea ma c) := by
  cases hp : place ms c with
  | none =>
    refine (backBad _ _ _ _ _ _ _ _ _ h ok hm c hp).mono ?_
    rintro e w' ⟨rfl, hb⟩
    exact ⟨ea, ec, ma, mc, none, 0, 0, 16, ms, rfl, h.all hb, ok, Nat.le_refl _, Upd.of_below hb, fun _ he => .inl he, fun _ he => .inl he, .inr ⟨rfl, hp⟩⟩
  | some i =>
    obtain ⟨⟨n, k⟩, hi, hc⟩ := place_spec hp
    simp only at hc
    subst hc
    have hil : i < ms.length := (List.getElem?_eq_some_iff.1 hi).1
    refine (backOk _ _ _ _ _ _ _ _ _ h ok hm (by decide) n i n k hp hi).mono ?_
    rintro e w' ⟨ea', ec', ma', mc', a, c', rfl, hj, hr, hf, hu, hl, hl', hno⟩
    have hlen : (ms.take (i + 1)).length = i + 1 := by rw [List.length_take]; omega
    have ok' := jok_cut ok hi
    rw [List.take_nil] at hj ok'
    refine ⟨ea', ec', ma', mc', a, _, c', 0, ms.take (i + 1), rfl, hj, ok', by rw [hlen]; omega, hu, hl, hl', .inl ⟨rfl, by omega, k, ?_⟩⟩
    rw [hlen, Nat.add_sub_cancel, List.getElem?_take, if_pos (by omega)]
    exact hi

/-- Between two rounds. -/
def MarksR (w : World) (bj k : Nat) (wr : World) : Prop :=
  ∃ ms ea ec ma mc, JAt wr bj [] ms (k : Int) ea ec ma mc ∧ JOk [] ms (k : Int) ∧ ms.length ≤ k ∧ (∀ i, ownJ bj ea ma i → w.heap.size ≤ i) ∧ Below w.heap.size w wr

theorem live_at {ms : List Mk} {last : Int} (ok : JOk [] ms last) {i : Nat} {x : Mk} (h : ms[i]? = some x) : decide (0 ≤ placeI ms x.1) = true := by
  rw [placeI_some (place_some ok.rise h rfl)]
  simp

set_option maxRecDepth 100000 in
set_option maxHeartbeats 6400000 in
theorem walkMarks (w : World) (a : Option Addr) (n cap : Nat) (zs : List Int) (h : SlAt w 1 a n cap (zs.map (.int .i64))) :
    Calls Try.prog 7 #[.slice a n cap] w (fun e w' => e = .returned (.bool true) ∧ Below w.heap.size w w') := by
  have Hl := Lib.hid (show zs.length = n by simpa using h.len)
  go_enter Try.func7, Try.ntmps7
  go_wp2_with fail
  refine (aliveJ _).mono ?_
  rintro e w1 ⟨rfl, hb1⟩
  by_cases hbig : 60 < n
  · go_wp2_with fail
    go_ret
    exact ⟨rfl, hb1⟩
  go_wp2_with fail
  refine (jnew _).mono ?_
  rintro e w2 ⟨bj, ea, ec, ma, mc, rfl, hj2, ho2, hb2⟩
  have hst : MarksR w bj 0 w2 := ⟨[], ea, ec, ma, mc, hj2, jok_nil, Nat.le_refl _, fun i hi => Nat.le_trans hb1.size (ho2 i hi), hb1.trans (hb2.mono hb1.size)⟩
  have Hst := Lib.hid hst
  clear hst hj2 ho2 hb2 hb1
  go_wp2_with fail
  go_loopw [4, 20] (fun l i wr => ∃ k : Nat, k ≤ n ∧ i = .int .i64 k ∧ l = .int .i64 k ∧ MarksR w bj k wr) (fun _ i _ => n - (intOf i).toNat)
  case atStart => exact ⟨0, Nat.zero_le _, rfl, rfl, Hst.out⟩
  case round =>
    obtain ⟨k, hk, rfl, rfl, ms, ea0, ec0, ma0, mc0, hj, ok, hml, ho, hbel⟩ := hrel
    by_cases hlt : k < n
    · obtain ⟨b, off, rfl, hb, hc⟩ := (h.all hbel).nonempty (by omega)
      have hx := hc k _ (map_int_cell (by have := Hl.out; omega))
      generalize zs.getD k 0 = c at *
      clear hc
      go_wp2_with fail
      refine (mark _ _ _ _ _ _ _ _ _ hj (by omega) (by omega) (by omega)).mono ?_
      rintro e w3 ⟨ea3, ec3, ma3, mc3, rfl, hj3, hu3, hl3, hl3'⟩
      have ok3 := jok_mark ok
      have ho3 := ownJ_step (B := w.heap.size) ho hbel.size hl3 hl3'
      have b3 := hbel.trans (ownJ_below hu3 ho hbel.size)
      have hlv : decide (0 ≤ placeI (ms ++ [((k : Int) + 1, ([] : List Ev).length)]) ((k : Int) + 1)) = true := live_at (x := ((k : Int) + 1, ([] : List Ev).length)) (i := ms.length) ok3 (by simp)
      have hm3 : (ms ++ [((k : Int) + 1, ([] : List Ev).length)]).length ≤ k + 1 := by simp; omega
      generalize ms ++ [((k : Int) + 1, ([] : List Ev).length)] = ms3 at *
      have Hlv := Lib.hid hlv
      have hnk : ¬ ((k : Int) + 1 ≤ k) := by omega
      clear hlv hu3 hl3 hl3' hj ok hml ho hx
      go_wp2_with fail
      refine (live _ _ _ _ _ _ _ _ _ hj3 ok3 (by omega) _).mono ?_
      rintro e w4 ⟨rfl, hb4⟩
      rw [Hlv.out]
      have hj4 := hj3.all hb4
      have b4 := b3.trans (hb4.mono b3.size)
      clear hj3 hb4
      go_wp2_with fail
      refine (next _ _ _ _ _ _ _ _ _ hj4 (by omega) (by omega)).mono ?_
      rintro e w5 ⟨rfl, rfl⟩
      have e1 : ((k : Int) + 1 + 1 != (k : Int) + 1 + 1) = false := by simp
      go_wp2_with fail
      refine (backAny _ _ _ _ _ _ _ _ hj4 ok3 (by omega) c).mono ?_
      rintro e w6 ⟨ea6, ec6, ma6, mc6, sa, sn, sc, z, ms6, rfl, hj6, ok6, hm6, hu6, hl6, hl6', hz⟩
      have ho6 := ownJ_step (B := w.heap.size) ho3 b4.size hl6 hl6'
      have b6 := b4.trans (ownJ_below hu6 ho3 b4.size)
      have q1 := errV_eql z
      have q2 := fun (x : Operand) (w : World) => errV_guard (P := Try.prog) .eql 25 32 x z w
      have hx6f : ∀ w', Below w6.heap.size w6 w' → w'.cell? ⟨bj, 2, none⟩ = some (.int .i64 ((k : Int) + 1)) := fun w' hb => by
        have := obj_cell (hj6.all hb).obj 2
        simpa using this
      have hx6 := hx6f w6 (Below.refl _ _)
      have Hz := Lib.hid hz
      clear hz hj4 hu6 hl6 hl6'
      go_upto_region 15 with (fail)
      have Q1 := Lib.hid q1
      have Q2 := Lib.hid q2
      clear q1 q2
      go_cut [63] (fun s wx => s = .bool false ∧ JAt wx bj [] ms6 ((k : Int) + 1) ea6 ec6 ma6 mc6 ∧ Below w.heap.size w wx)
      case first =>
        rcases Hz.out with ⟨hz0, hpos, kk, hlast⟩ | ⟨hz0, hpn⟩
        · have hzb : (z == 0) = true := by simp [hz0]
          have hin := ok6.num _ (List.mem_of_getElem? hlast)
          have hl1 : 1 ≤ c := hin.1
          have hl2 : c ≤ (k : Int) + 1 := hin.2
          have hlc : decide (0 ≤ placeI ms6 c) = true := live_at ok6 hlast
          have Hlc := Lib.hid hlc
          have q1 := Q1.out
          have q2 := Q2.out
          clear hlast hin hlc Hz hz0
          go_region_held3 (fun x => x.cell? ⟨bj, 2, none⟩ = some (.int .i64 ((k : Int) + 1))) (first | exact hx6 | exact hx7)
            (first | (go_at_call 38; refine (live _ _ _ _ _ _ _ _ _ hj6.drew ok6 (by omega) c).mono ?_; rintro e w7 ⟨rfl, hb7⟩; rw [Hlc.out]; have hx7 := hx6f _ (undrew hb7)))
          go_wp2_with fail
          go_meet
          exact ⟨rfl, hj6.all (undrew hb7), b6.trans ((undrew hb7).mono b6.size)⟩
        · have hzb : (z == 0) = false := by simp [hz0]
          have hlc : decide (0 ≤ placeI ms6 c) = false := by rw [placeI_none hpn]; decide
          have Hlc := Lib.hid hlc
          have q1 := Q1.out
          have q2 := Q2.out
          clear hpn hlc Hz hz0
          have h3 : c < 1 ∨ (1 ≤ c ∧ (k : Int) + 1 < c) ∨ (1 ≤ c ∧ c ≤ (k : Int) + 1) := by omega
          rcases h3 with h3 | ⟨h3, h4⟩ | ⟨h3, h4⟩
          · have hd1 : decide (1 ≤ c) = false := by simp; omega
            go_region
            all_goals
              go_wp2_with fail
              go_meet
              exact ⟨rfl, hj6.drew, b6.drew⟩
          · have hd1 : decide (1 ≤ c) = true := by simp; omega
            have hd2 : decide (c ≤ (k : Int) + 1) = false := by simp; omega
            go_region
            all_goals
              go_wp2_with fail
              go_meet
              exact ⟨rfl, hj6.drew, b6.drew⟩
          · go_region_held3 (fun x => x.cell? ⟨bj, 2, none⟩ = some (.int .i64 ((k : Int) + 1))) (first | exact hx6 | exact hx7)
              (first | (go_at_call 38; refine (live _ _ _ _ _ _ _ _ _ hj6.drew ok6 (by omega) c).mono ?_; rintro e w7 ⟨rfl, hb7⟩; rw [Hlc.out]; have hx7 := hx6f _ (undrew hb7)))
            go_wp2_with fail
            go_meet
            exact ⟨rfl, hj6.all (undrew hb7), b6.trans ((undrew hb7).mono b6.size)⟩
      case rest =>
        obtain ⟨rfl, hj7, b7⟩ := hcut
        have Hj7 := Lib.hid hj7
        clear hj6 b6 hx6 hx6f hj7 Q1 Q2 Hlv hnk e1
        go_wp2_with fail
        refine (marksOk _ _ _ _ _ _ _ _ _ Hj7.out (by omega)).mono ?_
        rintro e w8 ⟨am, cm, rfl, hrm, hfm, hb8⟩
        have hj8 := Hj7.out.all hb8
        have b8 := b7.trans (hb8.mono b7.size)
        have hsm := hrm.sl
        obtain ⟨wo, rfl⟩ : ∃ wo : World, wo = wr := ⟨_, rfl⟩
        have Hj8 := Lib.hid hj8
        have Hsm := Lib.hid hsm
        clear hrm hsm hj8 Hj7
        go_wp2_with fail
        go_loopw [68] (fun i wr => ∃ j : Nat, j ≤ ms6.length ∧ i = .int .i64 j ∧ Below w8.heap.size w8 wr) (fun i _ => ms6.length - (intOf i).toNat)
        case atStart => exact ⟨0, Nat.zero_le _, rfl, Below.refl _ _⟩
        case round =>
          obtain ⟨j, hjl, rfl, hbj⟩ := hrel
          have hjr := Hj8.out.all hbj
          have hsr := Hsm.out.all hbj
          by_cases hlj : j < ms6.length
          · obtain ⟨bm, om, rfl, hbm, hcm⟩ := hsr.nonempty (by omega)
            have hxj := hcm j _ (map_int_cell (by simp; omega))
            have hlvj : decide (0 ≤ placeI ms6 ((ms6.map Prod.fst).getD j 0)) = true := by
              have hg := List.getElem?_eq_getElem hlj
              have := live_at ok6 hg
              simpa [hlj] using this
            have Hlvj := Lib.hid hlvj
            have hprev : ∀ p : Nat, p + 1 = j → wr.cell? ⟨bm, om + p, none⟩ = some (.int .i64 ((ms6.map Prod.fst).getD p 0)) ∧ (ms6.map Prod.fst).getD p 0 < (ms6.map Prod.fst).getD j 0 := fun p hp => by
              refine ⟨hcm p _ (map_int_cell (by simp; omega)), ?_⟩
              have h1 := List.getElem?_eq_getElem hlj
              have h2 : ms6[p]? = some (ms6[p]'(by omega)) := List.getElem?_eq_getElem (by omega)
              have := ok6.rise p j _ _ h2 h1 (by omega)
              simpa [hlj, show p < ms6.length by omega] using this
            have Hprev := Lib.hid hprev
            have bm' := hbm
            generalize (ms6.map Prod.fst).getD j 0 = y at *
            clear hcm hlvj hprev
            go_upto_region 21 with (fail)
            go_cut [93] (fun s wx => s = .bool false ∧ Below w8.heap.size w8 wx)
            case first =>
              by_cases hj0 : j = 0
              · subst hj0
                clear Hprev
                rw [Nat.add_zero] at hxj
                have hl0 : (0 : Int) < (ms6.length : Int) := by omega
                have hxq : ∀ d os, (grow (redrawn wr d) os).cell? ⟨bm, om, none⟩ = some (.int .i64 y) := fun d os => cell_regrown hxj d os
                have cQ : ∀ d os, Calls Try.prog 38 #[.pointer (some ⟨bj, 0, none⟩), .int .i64 y] (grow (redrawn wr d) os) (fun e w'' => e = .returned (.bool true) ∧ ∃ p : Regrown, w'' = grow (redrawn wr p.d) p.os) := fun d os =>
                  Calls.regrown_of ((live _ _ _ _ _ _ _ _ _ (hjr.all (below_regrown wr d os)) ok6 (by omega) y).mono fun e w' ⟨h1, h2⟩ => ⟨by rw [h1, Hlvj.out], h2⟩)
                refine wp_region_quiet_below (by kernel_rfl) (by kernel_rfl) ?_
                repeat (any_goals (first | go_big_quiet_step (exact cQ _ _) | quiet_step (exact cQ _ _)))
                refine wpQuiet_nil ?_
                intro _ hw'
                obtain ⟨⟨dq, osq⟩, hw''⟩ := hw'
                subst hw''
                go_wp2_with fail
                go_meet
                exact ⟨rfl, hbj.trans ((below_regrown wr dq osq).mono hbj.size)⟩
              · obtain ⟨p, hp⟩ : ∃ p : Nat, p + 1 = j := ⟨j - 1, by omega⟩
                obtain ⟨hxp, hpy⟩ := Hprev.out p hp
                generalize (ms6.map Prod.fst).getD p 0 = yp at *
                have hw1 : IntKind.i64.wrap ((j : Int) - 1) = (p : Int) := by simp [IntKind.wrap, IntKind.signed, IntKind.bits]; omega
                have hp0 : (0 : Int) ≤ (p : Int) := by omega
                have hpl : (p : Int) < (ms6.length : Int) := by omega
                have hjp : 0 < j := by omega
                have hd1 : decide (y ≤ yp) = false := by simp; omega
                have hx9f : ∀ w', Below wr.heap.size wr w' → w'.cell? ⟨bm, om + j, none⟩ = some (.int .i64 y) ∧ w'.cell? ⟨bm, om + p, none⟩ = some (.int .i64 yp) := fun w' hb => ⟨(World.cell?_of_block (hb.block bm bm')).trans hxj, (World.cell?_of_block (hb.block bm bm')).trans hxp⟩
                have hx9 := hx9f wr (Below.refl _ _)
                have Hx9f := Lib.hid hx9f
                have Hp := Lib.hid hp
                clear Hprev hx9f hj0 hp
                go_region_held3 (fun x => x.cell? ⟨bm, om + j, none⟩ = some (.int .i64 y) ∧ x.cell? ⟨bm, om + p, none⟩ = some (.int .i64 yp)) (first | exact hx9 | exact hx10)
                  (first | (go_at_call 38; refine (live _ _ _ _ _ _ _ _ _ hjr.drew ok6 (by omega) y).mono ?_; rintro e w9 ⟨rfl, hb9⟩; rw [Hlvj.out]; have hx10 := Hx9f.out _ (undrew hb9)))
                go_wp2_with fail
                go_meet
                exact ⟨rfl, hbj.trans ((undrew hb9).mono hbj.size)⟩
            case rest =>
              obtain ⟨rfl, hbj2⟩ := hcut
              go_wp2_with fail
              go_roundw
              case rel => exact ⟨j + 1, by omega, by go_num, hbj2⟩
              case measure => simp [intOf]; omega
          · obtain rfl : j = ms6.length := by omega
            have bo : Below w.heap.size w wr := b8.trans (hbj.mono b8.size)
            have q1 := errV_eql z
            have q2 := fun (x : Operand) (w : World) => errV_guard (P := Try.prog) .eql 25 32 x z w
            have hR : MarksR w bj (k + 1) wr := ⟨ms6, ea6, ec6, ma6, mc6, by simpa using hjr, by simpa using ok6, by omega, ho6, bo⟩
            have HR := Lib.hid hR
            clear hR
            rcases Hz.out with ⟨hz0, hpos, kk, hlast⟩ | ⟨hz0, hpn⟩
            · have hzb : (z == 0) = true := by simp [hz0]
              obtain ⟨bm, om, rfl, hbm, hcm⟩ := hsr.nonempty (by omega)
              have hxl := hcm (ms6.length - 1) _ (map_int_cell (by simp; omega))
              have hcl : (ms6.map Prod.fst).getD (ms6.length - 1) 0 = c := by simp [hlast]
              rw [hcl] at hxl
              obtain ⟨q, hq⟩ : ∃ q : Nat, q + 1 = ms6.length := ⟨ms6.length - 1, by omega⟩
              have hq' : ms6.length - 1 = q := by omega
              rw [hq'] at hxl
              have hq0 : (0 : Int) ≤ (q : Int) := by omega
              have hql : (q : Int) < (ms6.length : Int) := by omega
              have hlz : ((ms6.length : Int) == 0) = false := by rw [beq_eq_false_iff_ne]; omega
              have hlz2 : (ms6.length == 0) = false := by rw [beq_eq_false_iff_ne]; omega
              have hcc : (c != c) = false := by simp
              have hlr : ms6.length ≤ k + 1 := by omega
              have hw2 : (ms6.length : Int) - 1 = (q : Int) := by omega
              have hw1 : IntKind.i64.wrap ((ms6.length : Int) - 1) = (q : Int) := by rw [hw2]; simp [IntKind.wrap, IntKind.signed, IntKind.bits]; omega
              clear hz0 hlast hcm hcl hq hq' Hz
              go_wp2_with fail
              go_roundw
              case rel => exact ⟨k + 1, by omega, by go_num, by go_num, HR.out⟩
              case measure => simp [intOf]; omega
            · have hzb : (z == 0) = false := by simp [hz0]
              clear hz0 hpn Hz
              go_wp2_with fail
              go_roundw
              case rel => exact ⟨k + 1, by omega, by go_num, by go_num, HR.out⟩
              case measure => simp [intOf]; omega
    · obtain rfl : k = n := by omega
      go_wp2_with fail
      go_ret
      exact ⟨rfl, hbel⟩
end Go.Proofs.Ytpbocficffbcbaa
