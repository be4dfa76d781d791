/- The law MatchStays of layer 34 returns true for every input: what is decided stays so. No condition. -/
import Derived.Test.YtfphjokijanahaaMatchThree
import Derived.Test.YtfphjokijanahaaOpen
import Derived.Deep.DeepCutAuto
namespace Go.Proofs.Ytfphjokijanahaa
open Go Go.RowKit Go.ChangeShapes Go.WideShapes Go.ChangeAt
set_option linter.unusedVariables false

theorem actCells : IntCells Try.prog 27 3 := intCells_struct (fs := _) Try.underlying27 (by kernel_rfl) (by
  intro i f h
  rcases i with _ | _ | _ | i
  · simp at h; subst h; exact ⟨rfl, Try.underlying3, by kernel_rfl⟩
  · simp at h; subst h; exact ⟨rfl, Try.underlying3, by kernel_rfl⟩
  · simp at h; subst h; exact ⟨rfl, Try.underlying3, by kernel_rfl⟩
  · simp at h)

/-- What an act does to a match. -/
def actNext (gs : List Int) (g k a b : Int) : List Int := if k = 0 then gameNext gs g a else penNext gs g a b
def actGiv (gs : List Int) (g k a b : Int) : Int := if k = 0 then g else penGiv gs g a b
def actErr (gs : List Int) (g k a b : Int) : Int := if k = 0 then gameErr gs g a else penErr gs g a b

theorem Ok.act {gs : List Int} {g : Int} (h : Ok gs g) (k a b : Int) : Ok (actNext gs g k a b) (actGiv gs g k a b) := by
  have hl := h.len
  have hr := h.res
  have hg := h.giv
  have add : ∀ r, 1 ≤ r ∧ r ≤ 3 → over gs g = false → Ok (gs ++ [r]) g := fun r hr' ho => ⟨by have := over_len ho; simp; omega, fun x hx => (List.mem_append.1 hx).elim (hr x) (fun hx => by obtain rfl := List.mem_singleton.1 hx; exact hr'), hg⟩
  unfold actNext actGiv
  by_cases hk : k = 0
  · rw [if_pos hk, if_pos hk]
    unfold gameNext
    split
    · exact h
    · cases ho : over gs g with
      | true => exact h
      | false => exact add a (by omega) ho
  · rw [if_neg hk, if_neg hk]
    unfold penNext penGiv
    by_cases hp : a ≠ 0 ∧ a ≠ 1
    · rw [if_pos hp, if_pos hp]; exact h
    · rw [if_neg hp, if_neg hp]
      by_cases h2 : b = 2
      · rw [if_pos h2, if_neg (show ¬ b = 3 by omega)]
        cases ho : over gs g with
        | true => exact h
        | false => exact add (2 - a) (by omega) ho
      · rw [if_neg h2]
        split
        · cases ho : over gs g with
          | true => exact h
          | false => exact ⟨hl, hr, by simp; omega⟩
        · exact h

/-- What an act leaves as it was. -/
structure ActR (gs : List Int) (g : Int) (c : Bool) (k a b : Int) (gs' : List Int) (g' : Int) (err : Int) (c' : Bool) : Prop where
  stays : result gs g ≠ 0 → result gs' g' = result gs g ∧ gs'.length = gs.length
  grows : gs.length ≤ gs'.length
  three : gs'.length ≤ 3
  bad : err ≠ 0 → gs'.length = gs.length
  giv : g' ≠ 0 → c' = true
  two : result gs' g' ≠ 0 → gs'.length < 2 → c' = true

theorem result_zero {gs : List Int} {g : Int} (ok : Ok gs g) : result gs g ≠ 0 → over gs g = true := by
  intro h
  cases ho : over gs g with
  | true => rfl
  | false => exact absurd (by simp [result, ho]) h
theorem over_two {gs : List Int} (h : over gs 0 = true) : 2 ≤ gs.length := by
  have h1 := cnt_bd 1 gs
  have h2 := cnt_bd 2 gs
  simp [over] at h
  omega
theorem ActR.mk' {gs : List Int} {g : Int} (ok : Ok gs g) (c : Bool) (k a b : Int) (hc : g ≠ 0 → c = true) :
    ActR gs g c k a b (actNext gs g k a b) (actGiv gs g k a b) (actErr gs g k a b) (c || (decide (k ≠ 0) && decide (actErr gs g k a b = 0) && decide (b = 3))) := by
  have ok' := ok.act k a b
  have hgiv : actGiv gs g k a b ≠ 0 → (c || (decide (k ≠ 0) && decide (actErr gs g k a b = 0) && decide (b = 3))) = true := by
    intro h
    by_cases hg : g = 0
    · subst hg
      unfold actGiv penGiv at h
      unfold actErr penErr
      by_cases hk : k = 0
      · simp [hk] at h
      · rw [if_neg hk] at h
        by_cases hp : a ≠ 0 ∧ a ≠ 1
        · rw [if_pos hp] at h; simp at h
        · rw [if_neg hp] at h
          by_cases h3 : b = 3
          · rw [if_pos h3] at h
            cases ho : over gs 0 with
            | true => rw [ho] at h; simp at h
            | false => rw [if_neg hk, if_neg hp, if_neg (by omega), if_neg (by omega)]; simp [hk, h3]
          · rw [if_neg h3] at h; simp at h
    · simp [hc hg]
  refine ⟨fun h => ?_, ?_, ok'.len, fun h => ?_, hgiv, fun h hl => ?_⟩
  · have ho := result_zero ok h
    have e1 : actNext gs g k a b = gs := by unfold actNext gameNext penNext; repeat' split <;> simp_all
    have e2 : actGiv gs g k a b = g := by unfold actGiv penGiv; repeat' split <;> simp_all
    rw [e1, e2]
    exact ⟨rfl, rfl⟩
  · unfold actNext gameNext penNext
    repeat' split
    all_goals simp
  · unfold actErr gameErr penErr at h
    unfold actNext gameNext penNext
    repeat' split at h
    all_goals first
      | (exact absurd rfl h)
      | (repeat' split
         all_goals first | rfl | omega | simp_all)
  · by_cases hg : actGiv gs g k a b = 0
    · have ho := result_zero ok' h
      rw [hg] at ho
      have := over_two ho
      omega
    · exact hgiv hg

/-- What holds at the head of a round. -/
def StaysR (w : World) (B bm : Nat) (c : Value) (wr : World) : Prop :=
  ∃ gs g ba cap cb, MatchAt wr bm gs g ba cap ∧ Ok gs g ∧ c = .bool cb ∧ (g ≠ 0 → cb = true) ∧ Fresh B ba ∧ Below B w wr

set_option maxRecDepth 100000 in
set_option maxHeartbeats 800000 in
theorem walkStays (w : World) (a : Option Addr) (n cap : Nat) (zs : List Int) (ha : SlAt w 3 a n cap (zs.map (Value.int .i64))) :
    Calls Try.prog 3 #[.slice a n cap] w (fun e w' => e = .returned (.bool true) ∧ Below w.heap.size w w') := by
  by_cases hn : 60 < n
  · go_enter Try.func3, Try.ntmps3
    go_wp2_with fail
    refine (aliveMatch _).mono ?_
    rintro e w1 ⟨rfl, hb1⟩
    go_wp2_with fail
    go_ret
    exact ⟨rfl, hb1⟩
  · go_enter Try.func3, Try.ntmps3
    go_wp2_with fail
    refine (aliveMatch _).mono ?_
    rintro e w1 ⟨rfl, hb1⟩
    go_wp2_with fail
    refine (matchNew _).mono ?_
    rintro e w2 ⟨bm, ba, mcap, rfl, hm, hbm, hfr, hb2⟩
    have hstart : StaysR w w.heap.size bm (.bool false) w2 := ⟨[], 0, ba, mcap, false, hm, ok_nil, rfl, by simp, hfr.mono hb1.size, hb1.trans (hb2.mono hb1.size)⟩
    have Hs := Lib.hid hstart
    have hge : w.heap.size ≤ bm := Nat.le_trans hb1.size hbm
    clear hstart hm
    go_wp2_with fail
    go_loopw [4, 19] (fun c i wr => ∃ k : Nat, k ≤ n ∧ i = .int .i64 k ∧ StaysR w w.heap.size bm c wr) (fun _ i _ => n - (intOf i).toNat)
    case atStart => exact ⟨0, Nat.zero_le _, rfl, Hs.out⟩
    case round =>
      obtain ⟨k, hk, rfl, gs, g, ba, mcap, cb, hm, ok, rfl, hcb, hf, hbel⟩ := hrel
      by_cases hlt : k < n
      · have ha' := ha.all hbel
        obtain ⟨b, off, rfl, hb, hc⟩ := ha'.nonempty (by omega)
        have hlen : zs.length = n * 3 := by simpa using ha.len
        have hc0 := hc (k * 3) _ (map_int_cell (by omega))
        have hc1 : wr.cell? ⟨b, off + k * 3 + 1, none⟩ = some _ := hc (k * 3 + 1) _ (map_int_cell (by omega))
        have hc2 : wr.cell? ⟨b, off + k * 3 + 2, none⟩ = some _ := hc (k * 3 + 2) _ (map_int_cell (by omega))
        generalize zs.getD (k * 3) 0 = k0 at *
        generalize zs.getD (k * 3 + 1) 0 = a0 at *
        generalize zs.getD (k * 3 + 2) 0 = b0 at *
        clear hlen hc
        have hno : w.heap.size ≤ wr.heap.size := hbel.size
        go_wp2_with fail
        have hm0 := hm
        have hm := hm.alloc (.cells #[.int .i64 k0, .int .i64 a0, .int .i64 b0] 27)
        refine (resultOf _ _ _ _ _ _ hm ok).mono ?_
        rintro e w3 ⟨rfl, hb3⟩
        have hm3 := hm.all hb3
        go_wp2_with fail
        refine (games _ _ _ _ _ _ hm3 ok.len).mono ?_
        rintro e w4 ⟨aa, cc, rfl, hrow, hfr4, hb4, hnil4⟩
        have hm4 := hm3.all hb4
        have hact := below_obj hb4 (below_obj hb3 (alloc_new wr (.cells #[.int .i64 k0, .int .i64 a0, .int .i64 b0] 27)) (by simp)) (by have := hb3.size; simp at this; omega)
        have hbel4 : Below w.heap.size w w4 := ((hbel.alloc hbel.size _).trans (hb3.mono (by simp; omega))).trans (hb4.mono (by have := hb3.size; simp at this; omega))
        have hx0 := obj_cell hact 0
        have hx1 := obj_cell hact 1
        have hx2 := obj_cell hact 2
        simp at hx0 hx1 hx2
        have hno4 : ¬ (wr.heap.size = bm ∨ blk ba wr.heap.size) := fun h => by
          rcases h with h | ⟨ad, he, h⟩
          · have := obj_lt hm0.obj; omega
          · have := hm0.row.lt ad he; omega
        clear hc0 hc1 hc2 hb3 hm hrow hfr4 hnil4 hb4 hm3 ha ha'
        have hR := ActR.mk' ok cb k0 a0 b0 hcb
        have hok' := ok.act k0 a0 b0
        obtain ⟨gs', e1⟩ : ∃ x, x = actNext gs g k0 a0 b0 := ⟨_, rfl⟩
        obtain ⟨g', e2⟩ : ∃ x, x = actGiv gs g k0 a0 b0 := ⟨_, rfl⟩
        obtain ⟨err, e3⟩ : ∃ x, x = actErr gs g k0 a0 b0 := ⟨_, rfl⟩
        obtain ⟨c', e4⟩ : ∃ x, x = (cb || (decide (k0 ≠ 0) && decide (actErr gs g k0 a0 b0 = 0) && decide (b0 = 3))) := ⟨_, rfl⟩
        rw [← e1, ← e2, ← e3] at hR
        rw [← e1, ← e2] at hok'
        rw [← e3] at e4
        rw [← e4] at hR
        have HR := Lib.hid hR
        have E1 := Lib.hid e1
        have E2 := Lib.hid e2
        have E3 := Lib.hid e3
        have E4 := Lib.hid e4
        clear hR e1 e2 e3 e4
        go_upto_if 30 with fail
        go_cut [4, 9] (fun c9 e9 wx => ∃ ba' cap', c9 = .bool c' ∧ e9 = errV 39 err ∧ MatchAt wx bm gs' g' ba' cap' ∧ Fresh w.heap.size ba' ∧ Below w.heap.size w wx)
        case first =>
          by_cases hk0 : k0 = 0
          · have hkb : (k0 == 0) = true := by simp [hk0]
            have Hk := Lib.hid hk0
            clear hk0
            go_wp2_with fail
            refine (game _ _ _ _ _ _ _ hm4 ok).mono ?_
            rintro e w5 ⟨ba5, cap5, rfl, hm5, hu5, hloc5⟩
            go_wp2_with fail
            go_meet
            exact ⟨ba5, cap5, by rw [E4.out]; simp [Hk.out], by rw [E3.out, actErr, if_pos Hk.out], by rw [E1.out, E2.out, actNext, actGiv, if_pos Hk.out, if_pos Hk.out]; exact hm5, hf.step hbel4.size hloc5, hbel4.trans (belowMatch hu5 hge hf hbel4.size)⟩
          · have hk1 : (k0 == 0) = false := by simp [hk0]
            have Hk := Lib.hid hk0
            clear hk0
            go_wp2_with fail
            refine (penalty _ _ _ _ _ _ _ _ hm4 ok).mono ?_
            rintro e w5 ⟨ba5, cap5, rfl, hm5, hu5, hloc5⟩
            have hact5 := hu5.obj hact hno4
            have hx25 := obj_cell hact5 2
            simp at hx25
            have Hfin := Lib.hid (⟨by rw [E1.out, E2.out, actNext, actGiv, if_neg Hk.out, if_neg Hk.out]; exact hm5, hf.step hbel4.size hloc5, hbel4.trans (belowMatch hu5 hge hf hbel4.size)⟩ : MatchAt w5 bm gs' g' ba5 cap5 ∧ Fresh w.heap.size ba5 ∧ Below w.heap.size w w5)
            rw [show penErr gs g a0 b0 = err by rw [E3.out, actErr, if_neg Hk.out]]
            cases cb with
            | true =>
              go_wp2_with fail
              go_meet
              exact ⟨ba5, cap5, by rw [E4.out]; simp, rfl, Hfin.out⟩
            | false =>
              by_cases he : err = 0
              · have Hv := Lib.hid (show errV 39 err = .nilIface by rw [he]; rfl)
                rw [Hv.out]
                have He := Lib.hid he
                clear he
                go_wp2_with fail
                all_goals
                  go_meet
                  exact ⟨ba5, cap5, congrArg Value.bool (by rw [E4.out, Bool.eq_iff_iff]; simp [Hk.out, He.out]), Hv.out.symm, Hfin.out⟩
              · rw [errV_pos _ _ he]
                go_wp2_with fail
                go_meet
                exact ⟨ba5, cap5, by rw [E4.out]; simp [he], (errV_pos _ _ he).symm, Hfin.out⟩
        case rest =>
          obtain ⟨ba', cap', rfl, rfl, hm', hf', hbel'⟩ := hcut
          clear hm0 hm4 hact hx0 hx1 hx2 hno4 E1 E2 E3 E4
          have hr := HR.out
          have hthree := hr.three
          have hgrow := hr.grows
          go_wp2_with fail
          refine (games _ _ _ _ _ _ hm' hthree).mono ?_
          rintro e w6 ⟨ab, cd, rfl, hrow, hfr6, hb6, hnil6⟩
          have hm6 := hm'.all hb6
          have hbel6 := hbel'.trans (hb6.mono hbel'.size)
          clear hrow hfr6 hnil6 hm' hb6
          go_upto_region 17 with fail
          go_cut [84] (fun s wx => s = .bool false ∧ MatchAt wx bm gs' g' ba' cap' ∧ Below w.heap.size w wx)
          case first =>
            by_cases heq : gs'.length = gs.length
            · have hnow : ((gs'.length : Int) != (gs.length : Int)) = false := by simp [heq]
              have Heq := Lib.hid heq
              clear heq
              by_cases hw : result gs g = 0
              · have hwb : (result gs g != 0) = false := by simp [hw]
                clear hr hw
                by_cases he : err = 0
                · have heb : (err != 0) = false := by simp [he]
                  have hq := errV_neq err
                  have hq2 := fun (x : Operand) (w : World) => errV_guard (P := Try.prog) .neq 32 39 x err w
                  clear he
                  go_wp2_with fail
                  go_meet
                  exact ⟨by first | rfl | (simp; omega), hm6, hbel6⟩
                · have heb : (err != 0) = true := by simp [he]
                  have hq := errV_neq err
                  have hq2 := fun (x : Operand) (w : World) => errV_guard (P := Try.prog) .neq 32 39 x err w
                  clear he
                  go_wp2_with fail
                  go_meet
                  exact ⟨by first | rfl | (simp; omega), hm6, hbel6⟩
              · have hwb : (result gs g != 0) = true := by simp [hw]
                have hst := (hr.stays hw).1
                have hst' : (result gs' g' != result gs g) = false := by simp [hst]
                clear hst hr hw
                by_cases he : err = 0
                · have heb : (err != 0) = false := by simp [he]
                  have hq := errV_neq err
                  have hq2 := fun (x : Operand) (w : World) => errV_guard (P := Try.prog) .neq 32 39 x err w
                  clear he
                  go_wp2_with fail
                  refine (resultOf _ _ _ _ _ _ hm6 hok').mono ?_
                  rintro e w7 ⟨rfl, hb7⟩
                  have hm7 := hm6.all hb7
                  go_wp2_with fail
                  go_meet
                  exact ⟨by first | rfl | (simp; omega), hm7, hbel6.trans (hb7.mono hbel6.size)⟩
                · have heb : (err != 0) = true := by simp [he]
                  have hq := errV_neq err
                  have hq2 := fun (x : Operand) (w : World) => errV_guard (P := Try.prog) .neq 32 39 x err w
                  clear he
                  go_wp2_with fail
                  refine (resultOf _ _ _ _ _ _ hm6 hok').mono ?_
                  rintro e w7 ⟨rfl, hb7⟩
                  have hm7 := hm6.all hb7
                  go_wp2_with fail
                  go_meet
                  exact ⟨by first | rfl | (simp; omega), hm7, hbel6.trans (hb7.mono hbel6.size)⟩
            · have he : err = 0 := by
                rcases Classical.em (err = 0) with h | h
                · exact h
                · exact absurd (hr.bad h) heq
              have hw : result gs g = 0 := by
                rcases Classical.em (result gs g = 0) with h | h
                · exact h
                · exact absurd (hr.stays h).2 heq
              have hwb : (result gs g != 0) = false := by simp [hw]
              have heb : (err != 0) = false := by simp [he]
              have hq := errV_neq err
              have hq2 := fun (x : Operand) (w : World) => errV_guard (P := Try.prog) .neq 32 39 x err w
              clear he hr hw heq
              go_wp2_with fail
              go_meet
              exact ⟨by first | rfl | (simp; omega), hm6, hbel6⟩
          case rest =>
            obtain ⟨rfl, hm7, hbel7⟩ := hcut
            clear hm6 hbel6
            have htwo := hr.two
            have hgiv := hr.giv
            clear hr
            by_cases h1 : result gs' g' = 0
            · have h1b : (result gs' g' != 0) = false := by simp [h1]
              clear h1 htwo
              go_wp2_with fail
              refine (resultOf _ _ _ _ _ _ hm7 hok').mono ?_
              rintro e w8 ⟨rfl, hb8⟩
              have hm8 := hm7.all hb8
              go_wp2_with fail
              go_roundw
              case rel => exact ⟨k + 1, by omega, by go_num, gs', g', ba', cap', c', hm8, hok', rfl, hgiv, hf', hbel7.trans (hb8.mono hbel7.size)⟩
              case measure => simp [intOf]; omega
            · have h1b : (result gs' g' != 0) = true := by simp [h1]
              by_cases h2 : gs'.length < 2
              · obtain rfl := htwo h1 h2
                clear h1 htwo
                go_wp2_with fail
                refine (resultOf _ _ _ _ _ _ hm7 hok').mono ?_
                rintro e w8 ⟨rfl, hb8⟩
                have hm8 := hm7.all hb8
                go_wp2_with fail
                go_roundw
                case rel => exact ⟨k + 1, by omega, by go_num, gs', g', ba', cap', true, hm8, hok', rfl, (fun _ => rfl), hf', hbel7.trans (hb8.mono hbel7.size)⟩
                case measure => simp [intOf]; omega
              · clear h1 htwo
                go_wp2_with fail
                refine (resultOf _ _ _ _ _ _ hm7 hok').mono ?_
                rintro e w8 ⟨rfl, hb8⟩
                have hm8 := hm7.all hb8
                go_wp2_with fail
                go_roundw
                case rel => exact ⟨k + 1, by omega, by go_num, gs', g', ba', cap', c', hm8, hok', rfl, hgiv, hf', hbel7.trans (hb8.mono hbel7.size)⟩
                case measure => simp [intOf]; omega
      · obtain rfl : k = n := by omega
        go_wp2_with fail
        go_ret
        exact ⟨rfl, hbel⟩

namespace LawStays
theorem own : ownKnob Try.prog.godebug = none := by kernel_rfl
set_option maxRecDepth 100000 in
theorem lifted (os : Os) (started : os.Started) (H : Type) (enc : TypeId × Value → H) :
    ReturnsInHanded {} Try.checked os 3 .any (Rows.matchStaysSpec.pre6 enc Try.prog Try.f3 Rows.matchStaysRow.domain false) (Rows.matchStaysSpec.post enc Try.prog Try.f3 false true false false) := by
  refine returnsInHanded_of_change (C := Try.checked) own started (by kernel_rfl) Try.func3
    (ChangeSpec.witness6 (enc := enc) (C := Try.checked) false ⟨#[], #[.slice none 0 0], []⟩ 8 (by kernel_rfl) (by kernel_rfl) (by kernel_rfl) (by kernel_rfl)) ?_
  intro W base args ds gs before hval0 hW hcnd _
  have hval : ∀ (j : Nat) t v, Try.f3.params[j]? = some t → args[j]? = some v → Value.okWide Try.prog W .any base t v := hval0
  have hW' := hW
  have hlt := hW.lt
  obtain ⟨p, q, hA0, hV, rfl, hfz, hnd⟩ := hW
  have hA : DataW.TrodAll enc Try.prog W 0 (fun _ => true) true Try.f3.params.toList args.toList ds p := hA0
  rw [Try.params3] at hA hval
  obtain ⟨v0, vs0, d0, ds0, p0, q0, hargs, rfl, rfl, h0, r0⟩ := trodAll_cons hA
  obtain ⟨rfl, rfl, rfl⟩ := trodAll_nil r0
  obtain rfl : args = #[v0] := by cases args; simp_all
  obtain ⟨rfl, rfl⟩ := trodVars_none hV
  obtain ⟨fuel, hf⟩ := h0
  obtain ⟨a0, n0, c0, z0, hcs, hs0, hl0, hb0⟩ := open_rows Try.underlying22 (by decide) (by kernel_rfl) actCells hf
  obtain ⟨s0, s1, s2, rfl⟩ := okWide_slice Try.underlying22 (hval 0 22 v0 rfl rfl)
  simp only [Value.cells, List.cons.injEq, Value.slice.injEq, and_true] at hcs
  obtain ⟨rfl, rfl, rfl⟩ := hcs
  refine (walkStays W s0 s1 s2 z0 hs0).mono fun e W' ⟨he, hb⟩ => ?_
  subst he
  exact ⟨_, rfl, post_true (by kernel_rfl) rfl Try.underlying4 (by kernel_rfl) rfl rfl hW' hb⟩

theorem proved : Rows.MatchStaysSaid :=
  OpenClaim.holds_of_wide 3 Try.f3 rfl rfl rfl rfl rfl rfl rfl ⟨rfl, rfl, rfl, rfl, rfl⟩ rfl rfl rfl rfl rfl (by kernel_rfl) Try.func3 (by kernel_rfl)
    (of_decide_eq_true (by kernel_rfl)) (by unfold Func.isWrapper; first | (rw [if_pos (by decide +kernel)]; kernel_rfl) | (rw [if_neg (by decide +kernel)]; exact ⟨rfl, rfl⟩))
    (fun os started H enc _ => lifted os started H enc)
end LawStays
end Go.Proofs.Ytfphjokijanahaa
