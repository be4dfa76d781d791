import Derived.Test.YtpbocficffbcbaaNumB
import Derived.Test.YtpbocficffbcbaaEv4
namespace Go.Proofs.Ytpbocficffbcbaa
open Go Go.RowKit
set_option linter.unusedVariables false
set_option linter.unusedSimpArgs false

/-- The slice of bytes lies in none of these blocks, and is new. -/
def NewOff (B k : Nat) (a : Option Addr) : Prop := ∀ ad, a = some ad → B ≤ ad.block ∧ ad.block ≠ k

set_option maxRecDepth 100000 in
set_option maxHeartbeats 6400000 in
theorem eventInverts (w : World) (e : Ev) (he : EvR e) : Calls Try.prog 11 #[evV e] w (fun x w' => x = .returned (.bool true) ∧ Below w.heap.size w w') := by
  have He := Lib.hid he
  clear he
  go_enter Try.func11, Try.ntmps11
  have b0 : Below w.heap.size w (w.alloc (.cells (evA e) 64)) := ((Below.refl _ w).alloc (Nat.le_refl _) _)
  have B0 := Lib.hid b0
  clear b0
  go_wp2_with fail
  refine (alive12 _).mono ?_
  rintro x w1 ⟨rfl, hb1⟩
  have Oe := Lib.hid (below_obj hb1 (alloc_new w (.cells (evA e) 64)) (by simp))
  have B1 := Lib.hid (B0.out.trans (hb1.mono (by simp)))
  have Ob := Lib.hid (RowAt.lit w1 #[] 5 1 0 (Nat.zero_le _) rfl (by simp))
  obtain ⟨c0, c1, c2, c3, c4, c5⟩ := EvCells.of (alloc_obj (x := .cells #[] 5) Oe.out)
  clear hb1
  go_wp2_with fail
  have o2 := alloc_new (w1.alloc (.cells #[] 5)) (.cells (evA e) 3)
  rw [World.size_alloc] at o2
  have hrow0 := Ob.out.alloc (.cells (evA e) 3)
  have b2 : Below w1.heap.size w1 ((w1.alloc (.cells #[] 5)).alloc (.cells (evA e) 3)) := ((Below.refl _ w1).alloc (Nat.le_refl _) _).alloc (by simp) _
  have O2 := Lib.hid o2
  have B2 := Lib.hid b2
  have Hr0 := Lib.hid hrow0
  clear o2 b2 hrow0 c0 c1 c2 c3 c4 c5
  go_loopw [3, 24] (fun s i wr => ∃ (k m : Nat) (done : List Int) (a : Option Addr) (c : Nat), k ≤ 6 ∧ i = .int .i64 k ∧ m = done.length ∧ s = .slice a m c ∧ RowAt wr 5 1 a m c (done.map (.int .u8)) ∧ NewOff w1.heap.size (w1.heap.size + 1) a ∧ Below w1.heap.size w1 wr ∧ done = numsB ((evN e).take k) ∧ wr.heap[w1.heap.size + 1]? = some (.cells (evA e) 3 (0, 0))) (fun _ i _ => 6 - (intOf i).toNat)
  case atStart => exact ⟨0, 0, [], _, _, by omega, rfl, rfl, rfl, Hr0.out, fun ad he => (by obtain rfl := Option.some.inj he; simp), B2.out, rfl, O2.out⟩
  case round =>
    obtain ⟨k, m, done, a, c, hk, rfl, hm, rfl, hrow, hf, hb, hd, ho⟩ := hrel
    have Hrow := Lib.hid hrow
    have Hf := Lib.hid hf
    have Hb := Lib.hid hb
    have Hd := Lib.hid hd
    have Hm := Lib.hid hm
    have Ho := Lib.hid ho
    have hsz := hb.size
    have hoz := obj_lt ho
    clear hrow hf hb hd hm ho
    by_cases hlt : k < 6
    · have hc := (obj_cell Ho.out k).trans (show (evA e)[k]? = some (.int .i64 ((evN e).getD k 0)) from match k, hlt with | 0, _ | 1, _ | 2, _ | 3, _ | 4, _ | 5, _ => rfl)
      have htk := take_snoc (evN e) k 0 (by simpa [evN] using hlt)
      have hrg := He.out ((evN e).getD k 0) (by match k, hlt with | 0, _ | 1, _ | 2, _ | 3, _ | 4, _ | 5, _ => simp [evN])
      have hml : m ≤ 60 := by
        rw [Hm.out, Hd.out]
        have := numsB_len ((evN e).take k) (fun n hn => He.out n (List.mem_of_mem_take hn))
        have : ((evN e).take k).length ≤ 6 := by simp [evN]; omega
        omega
      generalize (evN e).getD k 0 = z at *
      have Htk := Lib.hid htk
      have Hrg := Lib.hid hrg
      have Hml := Lib.hid hml
      clear htk hrg hml
      go_wp2_with fail
      refine (refBytes _ z Hrg.out.1 Hrg.out.2).mono ?_
      rintro x w2 ⟨a2, c2, rfl, hr2, hf2, hb2⟩
      have Hr2 := Lib.hid hr2
      have h10 := putB_ten (stand z).toNat (by have := stand_range z Hrg.out.1 Hrg.out.2; omega)
      obtain ⟨pz, hpz⟩ : ∃ pz, pz = putB (stand z).toNat := ⟨_, rfl⟩
      rw [← hpz] at Hr2 h10
      have Hpz := Lib.hid hpz
      rw [← hpz]
      clear hpz
      have hsz2 := hb2.size
      have Hr1 := Lib.hid (Hrow.out.all hb2)
      have Hb2 := Lib.hid hb2
      have H10 := Lib.hid h10
      obtain ⟨pl, hpl⟩ : ∃ pl, pl = pz.length := ⟨_, rfl⟩
      rw [← hpl] at Hr2 ⊢
      have Hpl := Lib.hid hpl
      clear hr2 hb2 hf2 h10 hpl
      go_wp2_with (at_builtin; refine wp_append rfl (.tmp 28) (.tmp 30) 92 rfl 5 (.int .u8 0) 1 1 Try.underlying92 Try.infoByte rfl (by decide) rfl rfl Hr1.out Hr2.out.sl (by have := Hml.out; have := H10.out; have := Hpl.out; unfold maxLen; omega) (by have := Hml.out; have := H10.out; have := Hpl.out; omega) ?_; intro a' c' w' hrow hupd hloc hnil)
      go_roundw
      case rel =>
        refine ⟨k + 1, m + pl, done ++ pz, a', c', by omega, by go_num, by rw [List.length_append, ← Hm.out, ← Hpl.out], rfl, by rw [List.map_append]; exact hrow, fun ad hed => ?_, ?_, by rw [Htk.out, Hd.out, Hpz.out]; simp [numsB], ?_⟩
        · rcases hloc ad hed with h | h
          · exact Hf.out ad h
          · omega
        · refine (Hb.out.trans (Hb2.out.mono hsz)).trans (hupd.below (by omega) (fun k hk hbk => ?_))
          obtain ⟨ad, hd, rfl⟩ := hbk
          have := (Hf.out ad hd).1
          omega
        · refine hupd.obj (below_obj Hb2.out Ho.out hoz) (fun hbk => ?_)
          obtain ⟨ad, hd, hd2⟩ := hbk
          exact (Hf.out ad hd).2 hd2
      case measure => simp [intOf]; omega
    · obtain rfl : k = 6 := by omega
      have hevf : ∀ w', Below wr.heap.size wr w' → EvCells w' w.heap.size e := fun w' hb => EvCells.of (below_obj hb (below_obj Hb.out Oe.out (obj_lt Oe.out)) (by have := obj_lt Oe.out; omega))
      obtain ⟨c0, c1, c2, c3, c4, c5⟩ := hevf wr (Below.refl _ _)
      have Hevf := Lib.hid hevf
      clear hevf
      have hzo := obj_lt Oe.out
      have Hfin := Lib.hid (B1.out.trans (Hb.out.mono (by have := B1.out.size; omega)))
      go_wp2_with fail
      refine (refCheck _ e).mono ?_
      rintro x w3 ⟨rfl, hb3⟩
      obtain ⟨n, hn⟩ : ∃ n, n = if chk e = 0 then 4 else chk e := ⟨_, rfl⟩
      have cDo : ∀ w, Calls Try.prog 62 #[.pointer none, evV e] w (fun x w' => x = .returned (errV 32 n) ∧ Below w.heap.size w w') := fun w => by rw [hn]; exact doNil w e
      have Hn := Lib.hid hn
      have Hb3 := Lib.hid hb3
      have hr3 := ((Hrow.out.all hb3)).sl
      rw [Hd.out] at hr3
      have Hr3 := Lib.hid hr3
      have hnil : (∀ (ad : Addr), True) := fun _ => trivial
      generalize chk e = z at *
      clear hn hb3 hr3 c0 c1 c2 c3 c4 c5 hnil
      have hzz : (z = 0 ∧ n = 4) ∨ ((z == 0) = false ∧ n = z) := by
        by_cases hz : z = 0
        · exact .inl ⟨hz, by rw [Hn.out, if_pos hz]⟩
        · exact .inr ⟨by simp [hz], by rw [Hn.out, if_neg hz]⟩
      rcases hzz with ⟨rfl, rfl⟩ | ⟨hz2, rfl⟩
      all_goals
        go_wp2_with fail
        have hsf : ∀ x, Below w3.heap.size w3 x → (Below w3.heap.size w3 x ∧ x.cell? ⟨w.heap.size, 0, none⟩ = some (.int .i64 e.k) ∧ x.cell? ⟨w.heap.size, 1, none⟩ = some (.int .i64 e.a) ∧ x.cell? ⟨w.heap.size, 2, none⟩ = some (.int .i64 e.b) ∧ x.cell? ⟨w.heap.size, 3, none⟩ = some (.int .i64 e.c) ∧ x.cell? ⟨w.heap.size, 4, none⟩ = some (.int .i64 e.d) ∧ x.cell? ⟨w.heap.size, 5, none⟩ = some (.int .i64 e.e)) := fun x hx => ⟨hx, Hevf.out x (Hb3.out.trans (hx.mono Hb3.out.size))⟩
        have Hsf := Lib.hid hsf
        have cInv : ∀ w, Calls Try.prog 64 #[evV e] w (EvTo w (inv e)) := fun w => invert w e
        have cRef : ∀ w, Calls Try.prog 65 #[evV e] w (EvTo w (inv e)) := fun w => refInvert w e
        have cByt : ∀ w, Calls Try.prog 68 #[evV e] w (NewB w (numsB (evN e))) := fun w => evBytes w e He.out
        have cSet : ∀ w, Calls Try.prog 66 #[evV e] w (fun x w' => x = .returned (.bool (setsB e)) ∧ Below w.heap.size w w') := fun w => sets w e
        have qi : ∀ w, (binOp .eql 64 (evV (inv e)) (evV (inv e))).run Try.prog w = .ok (.bool true) w := fun w => by rw [ev_eql]; simp
        have hlb : (numsB (evN e)).length = (numsB (evN e)).length := rfl
        rw [show List.take 6 (evN e) = evN e from rfl] at Hr3
        generalize inv e = ie at *
        generalize numsB (evN e) = nb at *
        have hx : Below w3.heap.size w3 w3.drew := (Below.refl _ _).drew
        clear hsf
        have hs3 : (setsB e = false ∧ decide (2 ≤ e.k) = false) ∨ (setsB e = false ∧ decide (2 ≤ e.k) = true ∧ decide (e.k ≤ 4) = false) ∨ (setsB e = true ∧ decide (2 ≤ e.k) = true ∧ decide (e.k ≤ 4) = true) := by
          unfold setsB
          by_cases h1 : 2 ≤ e.k <;> by_cases h2 : e.k ≤ 4 <;> simp [h1, h2]
        generalize setsB e = sb at *
        have Hq := Lib.hid qi
        clear qi
        rcases hs3 with ⟨rfl, d1⟩ | ⟨rfl, d1, d2⟩ | ⟨rfl, d1, d2⟩
        · have qi := Hq.out
          refine wp_region_held_drew (S := fun x => Below w3.heap.size w3 x ∧ x.cell? ⟨w.heap.size, 0, none⟩ = some (.int .i64 e.k) ∧ x.cell? ⟨w.heap.size, 1, none⟩ = some (.int .i64 e.a) ∧ x.cell? ⟨w.heap.size, 2, none⟩ = some (.int .i64 e.b) ∧ x.cell? ⟨w.heap.size, 3, none⟩ = some (.int .i64 e.c) ∧ x.cell? ⟨w.heap.size, 4, none⟩ = some (.int .i64 e.d) ∧ x.cell? ⟨w.heap.size, 5, none⟩ = some (.int .i64 e.e)) (by kernel_rfl) (Hsf.out _ hx) (fun hHeld => ?_)
          refine wpAnyH_take (i := 0) (oi := ⟨some 37, _, _, _, _, _⟩) (v := ?_) rfl (by kernel_rfl) (by kernel_rfl) (by kernel_rfl) (fun _ _ _ h => h) (Or.inl ⟨by rfl, ?_⟩) hHeld ?_
          rotate_left
          · intro w' hS'
            (try dsimp only at hS')
            go_simp
            try with_reducible rfl
          try simp only [Act.put, List.setIfInBounds_toArray, List.set_cons_zero, List.set_cons_succ]
          refine wpAnyH_take (i := 2) (oi := ⟨some 39, _, _, _, _, _⟩) (v := ?_) rfl (by kernel_rfl) (by kernel_rfl) (by kernel_rfl) (fun _ _ _ h => h) (Or.inl ⟨by rfl, ?_⟩) hHeld ?_
          rotate_left
          · intro w' hS'
            (try dsimp only at hS')
            go_simp
            try with_reducible rfl
          try simp only [Act.put, List.setIfInBounds_toArray, List.set_cons_zero, List.set_cons_succ]
          refine wpAnyH_all (rs := [1]) (by kernel_rfl) (by simp) ?_
          intro ix hix
          obtain rfl : ix = 1 := by simpa using hix
          clear hix
          refine wpOp_step (o := ⟨some 38, _, _, _, _, _⟩) rfl (fun K hK => ?_)
          have HK := Lib.hid hK
          clear hK
          go_simp
          refine (cInv _).mono ?_
          rintro x w4 ⟨rfl, hb⟩
          replace hx := hx.trans (hb.mono hx.size)
          clear hb
          go_wp2_with fail
          refine HK.out _ _ ⟨(Hsf.out _ hx), ?_⟩
          clear HK hHeld
          have hHeld := (Hsf.out _ hx)
          try simp only [Act.put, List.setIfInBounds_toArray, List.set_cons_zero, List.set_cons_succ]
          refine wpAnyH_all (rs := [3]) (by kernel_rfl) (by simp) ?_
          intro ix hix
          obtain rfl : ix = 3 := by simpa using hix
          clear hix
          refine wpOp_step (o := ⟨some 40, _, _, _, _, _⟩) rfl (fun K hK => ?_)
          have HK := Lib.hid hK
          clear hK
          go_simp
          refine (cRef _).mono ?_
          rintro x w4 ⟨rfl, hb⟩
          replace hx := hx.trans (hb.mono hx.size)
          clear hb
          go_wp2_with fail
          refine HK.out _ _ ⟨(Hsf.out _ hx), ?_⟩
          clear HK hHeld
          have hHeld := (Hsf.out _ hx)
          try simp only [Act.put, List.setIfInBounds_toArray, List.set_cons_zero, List.set_cons_succ]
          refine wpAnyH_take (i := 4) (oi := ⟨some 41, _, _, _, _, _⟩) (v := ?_) rfl (by kernel_rfl) (by kernel_rfl) (by kernel_rfl) (fun _ _ _ h => h) (Or.inl ⟨by rfl, ?_⟩) hHeld ?_
          rotate_left
          · intro w' hS'
            (try dsimp only at hS')
            go_simp
            try with_reducible rfl
          try simp only [Act.put, List.setIfInBounds_toArray, List.set_cons_zero, List.set_cons_succ]
          refine wpAnyH_take (i := 5) (oi := ⟨some 42, _, _, _, _, _⟩) (v := ?_) rfl (by kernel_rfl) (by kernel_rfl) (by kernel_rfl) (fun _ _ _ h => h) (Or.inl ⟨by rfl, ?_⟩) hHeld ?_
          rotate_left
          · intro w' hS'
            (try dsimp only at hS')
            go_simp
            try with_reducible rfl
          try simp only [Act.put, List.setIfInBounds_toArray, List.set_cons_zero, List.set_cons_succ]
          refine wpAnyH_take (i := 6) (oi := ⟨some 43, _, _, _, _, _⟩) (v := ?_) rfl (by kernel_rfl) (by kernel_rfl) (by kernel_rfl) (fun _ _ _ h => h) (Or.inl ⟨by rfl, ?_⟩) hHeld ?_
          rotate_left
          · intro w' hS'
            (try dsimp only at hS')
            go_simp
            try with_reducible rfl
          try simp only [Act.put, List.setIfInBounds_toArray, List.set_cons_zero, List.set_cons_succ]
          refine wpAnyH_take (i := 8) (oi := ⟨some 45, _, _, _, _, _⟩) (v := ?_) rfl (by kernel_rfl) (by kernel_rfl) (by kernel_rfl) (fun _ _ _ h => h) (Or.inl ⟨by rfl, ?_⟩) hHeld ?_
          rotate_left
          · intro w' hS'
            (try dsimp only at hS')
            go_simp
            try with_reducible rfl
          try simp only [Act.put, List.setIfInBounds_toArray, List.set_cons_zero, List.set_cons_succ]
          refine wpAnyH_take (i := 9) (oi := ⟨some 46, _, _, _, _, _⟩) (v := ?_) rfl (by kernel_rfl) (by kernel_rfl) (by kernel_rfl) (fun _ _ _ h => h) (Or.inl ⟨by rfl, ?_⟩) hHeld ?_
          rotate_left
          · intro w' hS'
            (try dsimp only at hS')
            go_simp
            try with_reducible rfl
          try simp only [Act.put, List.setIfInBounds_toArray, List.set_cons_zero, List.set_cons_succ]
          refine wpAnyH_take (i := 10) (oi := ⟨some 47, _, _, _, _, _⟩) (v := ?_) rfl (by kernel_rfl) (by kernel_rfl) (by kernel_rfl) (fun _ _ _ h => h) (Or.inl ⟨by rfl, ?_⟩) hHeld ?_
          rotate_left
          · intro w' hS'
            (try dsimp only at hS')
            go_simp
            try with_reducible rfl
          try simp only [Act.put, List.setIfInBounds_toArray, List.set_cons_zero, List.set_cons_succ]
          refine wpAnyH_all (rs := [7]) (by kernel_rfl) (by simp) ?_
          intro ix hix
          obtain rfl : ix = 7 := by simpa using hix
          clear hix
          refine wpOp_step (o := ⟨some 44, _, _, _, _, _⟩) rfl (fun K hK => ?_)
          have HK := Lib.hid hK
          clear hK
          go_simp
          refine (cSet _).mono ?_
          rintro x w4 ⟨rfl, hb⟩
          replace hx := hx.trans (hb.mono hx.size)
          clear hb
          go_wp2_with fail
          refine HK.out _ _ ⟨(Hsf.out _ hx), ?_⟩
          clear HK hHeld
          have hHeld := (Hsf.out _ hx)
          try simp only [Act.put, List.setIfInBounds_toArray, List.set_cons_zero, List.set_cons_succ]
          refine wpAnyH_take (i := 11) (oi := ⟨some 48, _, _, _, _, _⟩) (v := ?_) rfl (by kernel_rfl) (by kernel_rfl) (by kernel_rfl) (fun _ _ _ h => h) (Or.inl ⟨by rfl, ?_⟩) hHeld ?_
          rotate_left
          · intro w' hS'
            (try dsimp only at hS')
            go_simp
            try with_reducible rfl
          try simp only [Act.put, List.setIfInBounds_toArray, List.set_cons_zero, List.set_cons_succ]
          refine wpAnyH_take (i := 12) (oi := ⟨some 49, _, _, _, _, _⟩) (v := undef) rfl (by kernel_rfl) (by kernel_rfl) (by kernel_rfl) (fun _ _ _ h => h) (Or.inr ⟨by rfl, rfl⟩) hHeld ?_
          try simp only [Act.put, List.setIfInBounds_toArray, List.set_cons_zero, List.set_cons_succ]
          refine wpAnyH_take (i := 13) (oi := ⟨some 50, _, _, _, _, _⟩) (v := undef) rfl (by kernel_rfl) (by kernel_rfl) (by kernel_rfl) (fun _ _ _ h => h) (Or.inr ⟨by rfl, rfl⟩) hHeld ?_
          try simp only [Act.put, List.setIfInBounds_toArray, List.set_cons_zero, List.set_cons_succ]
          refine wpAnyH_take (i := 14) (oi := ⟨some 51, _, _, _, _, _⟩) (v := undef) rfl (by kernel_rfl) (by kernel_rfl) (by kernel_rfl) (fun _ _ _ h => h) (Or.inr ⟨by rfl, rfl⟩) hHeld ?_
          try simp only [Act.put, List.setIfInBounds_toArray, List.set_cons_zero, List.set_cons_succ]
          refine wpAnyH_take (i := 15) (oi := ⟨some 52, _, _, _, _, _⟩) (v := ?_) rfl (by kernel_rfl) (by kernel_rfl) (by kernel_rfl) (fun _ _ _ h => h) (Or.inl ⟨by rfl, ?_⟩) hHeld ?_
          rotate_left
          · intro w' hS'
            (try dsimp only at hS')
            go_simp
            try with_reducible rfl
          try simp only [Act.put, List.setIfInBounds_toArray, List.set_cons_zero, List.set_cons_succ]
          refine wpAnyH_take (i := 16) (oi := ⟨some 53, _, _, _, _, _⟩) (v := ?_) rfl (by kernel_rfl) (by kernel_rfl) (by kernel_rfl) (fun _ _ _ h => h) (Or.inl ⟨by rfl, ?_⟩) hHeld ?_
          rotate_left
          · intro w' hS'
            (try dsimp only at hS')
            go_simp
            try with_reducible rfl
          try simp only [Act.put, List.setIfInBounds_toArray, List.set_cons_zero, List.set_cons_succ]
          refine wpAnyH_take (i := 17) (oi := ⟨some 54, _, _, _, _, _⟩) (v := ?_) rfl (by kernel_rfl) (by kernel_rfl) (by kernel_rfl) (fun _ _ _ h => h) (Or.inl ⟨by rfl, ?_⟩) hHeld ?_
          rotate_left
          · intro w' hS'
            (try dsimp only at hS')
            go_simp
            try with_reducible rfl
          try simp only [Act.put, List.setIfInBounds_toArray, List.set_cons_zero, List.set_cons_succ]
          refine wpAnyH_take (i := 18) (oi := ⟨some 55, _, _, _, _, _⟩) (v := ?_) rfl (by kernel_rfl) (by kernel_rfl) (by kernel_rfl) (fun _ _ _ h => h) (Or.inl ⟨by rfl, ?_⟩) hHeld ?_
          rotate_left
          · intro w' hS'
            (try dsimp only at hS')
            go_simp
            try with_reducible rfl
          try simp only [Act.put, List.setIfInBounds_toArray, List.set_cons_zero, List.set_cons_succ]
          refine wpAnyH_take (i := 19) (oi := ⟨some 56, _, _, _, _, _⟩) (v := ?_) rfl (by kernel_rfl) (by kernel_rfl) (by kernel_rfl) (fun _ _ _ h => h) (Or.inl ⟨by rfl, ?_⟩) hHeld ?_
          rotate_left
          · intro w' hS'
            (try dsimp only at hS')
            go_simp
            try with_reducible rfl
          try simp only [Act.put, List.setIfInBounds_toArray, List.set_cons_zero, List.set_cons_succ]
          refine wpAnyH_take (i := 21) (oi := ⟨some 58, _, _, _, _, _⟩) (v := ?_) rfl (by kernel_rfl) (by kernel_rfl) (by kernel_rfl) (fun _ _ _ h => h) (Or.inl ⟨by rfl, ?_⟩) hHeld ?_
          rotate_left
          · intro w' hS'
            (try dsimp only at hS')
            go_simp
            try with_reducible rfl
          try simp only [Act.put, List.setIfInBounds_toArray, List.set_cons_zero, List.set_cons_succ]
          refine wpAnyH_all (rs := [20]) (by kernel_rfl) (by simp) ?_
          intro ix hix
          obtain rfl : ix = 20 := by simpa using hix
          clear hix
          refine wpOp_step (o := ⟨some 57, _, _, _, _, _⟩) rfl (fun K hK => ?_)
          have HK := Lib.hid hK
          clear hK
          go_simp
          refine (cByt _).mono ?_
          rintro x w4 ⟨a5, c5, rfl, hr5, hf5, hb⟩
          replace hx := hx.trans (hb.mono hx.size)
          have Hr5 := Lib.hid hr5.sl
          clear hb hr5 hf5
          go_wp2_with fail
          refine HK.out _ _ ⟨(Hsf.out _ hx), ?_⟩
          clear HK hHeld
          have hHeld := (Hsf.out _ hx)
          try simp only [Act.put, List.setIfInBounds_toArray, List.set_cons_zero, List.set_cons_succ]
          refine wpAnyH_all (rs := [22]) (by kernel_rfl) (by simp) ?_
          intro ix hix
          obtain rfl : ix = 22 := by simpa using hix
          clear hix
          refine wpOp_step (o := ⟨some 59, _, _, _, _, _⟩) rfl (fun K hK => ?_)
          have HK := Lib.hid hK
          clear hK
          go_simp
          refine (numBytes _ _ _ _ _ _ _ nb Hr5.out (Hr3.out.all hx)).mono ?_
          rintro x w4 ⟨rfl, rfl⟩
          go_wp2_with fail
          refine HK.out _ _ ⟨(Hsf.out _ hx), ?_⟩
          clear HK hHeld
          have hHeld := (Hsf.out _ hx)
          try simp only [Act.put, List.setIfInBounds_toArray, List.set_cons_zero, List.set_cons_succ]
          refine wpAnyH_take (i := 23) (oi := ⟨some 60, _, _, _, _, _⟩) (v := ?_) rfl (by kernel_rfl) (by kernel_rfl) (by kernel_rfl) (fun _ _ _ h => h) (Or.inl ⟨by rfl, ?_⟩) hHeld ?_
          rotate_left
          · intro w' hS'
            (try dsimp only at hS')
            go_simp
            try with_reducible rfl
          try simp only [Act.put, List.setIfInBounds_toArray, List.set_cons_zero, List.set_cons_succ]
          refine wpAnyH_take (i := 24) (oi := ⟨some 61, _, _, _, _, _⟩) (v := ?_) rfl (by kernel_rfl) (by kernel_rfl) (by kernel_rfl) (fun _ _ _ h => h) (Or.inl ⟨by rfl, ?_⟩) hHeld ?_
          rotate_left
          · intro w' hS'
            (try dsimp only at hS')
            go_simp
            try with_reducible rfl
          try simp only [Act.put, List.setIfInBounds_toArray, List.set_cons_zero, List.set_cons_succ]
          refine wpAnyH_take (i := 25) (oi := ⟨some 62, _, _, _, _, _⟩) (v := ?_) rfl (by kernel_rfl) (by kernel_rfl) (by kernel_rfl) (fun _ _ _ h => h) (Or.inl ⟨by rfl, ?_⟩) hHeld ?_
          rotate_left
          · intro w' hS'
            (try dsimp only at hS')
            go_simp
            try with_reducible rfl
          try simp only [Act.put, List.setIfInBounds_toArray, List.set_cons_zero, List.set_cons_succ]
          refine wpAnyH_take (i := 28) (oi := ⟨some 65, _, _, _, _, _⟩) (v := ?_) rfl (by kernel_rfl) (by kernel_rfl) (by kernel_rfl) (fun _ _ _ h => h) (Or.inl ⟨by rfl, ?_⟩) hHeld ?_
          rotate_left
          · intro w' hS'
            (try dsimp only at hS')
            go_simp
            try with_reducible rfl
          try simp only [Act.put, List.setIfInBounds_toArray, List.set_cons_zero, List.set_cons_succ]
          refine wpAnyH_all (rs := [26]) (by kernel_rfl) (by simp) ?_
          intro ix hix
          obtain rfl : ix = 26 := by simpa using hix
          clear hix
          refine wpOp_step (o := ⟨some 63, _, _, _, _, _⟩) rfl (fun K hK => ?_)
          have HK := Lib.hid hK
          clear hK
          go_simp
          refine (cDo _).mono ?_
          rintro x w4 ⟨rfl, hb⟩
          replace hx := hx.trans (hb.mono hx.size)
          clear hb
          go_wp2_with fail
          refine HK.out _ _ ⟨(Hsf.out _ hx), ?_⟩
          clear HK hHeld
          have hHeld := (Hsf.out _ hx)
          try simp only [Act.put, List.setIfInBounds_toArray, List.set_cons_zero, List.set_cons_succ]
          refine wpAnyH_all (rs := [27]) (by kernel_rfl) (by simp) ?_
          intro ix hix
          obtain rfl : ix = 27 := by simpa using hix
          clear hix
          refine wpOp_step (o := ⟨some 64, _, _, _, _, _⟩) rfl (fun K hK => ?_)
          have HK := Lib.hid hK
          clear hK
          go_simp
          refine (num _ _).mono ?_
          rintro x w4 ⟨rfl, rfl⟩
          go_wp2_with fail
          refine HK.out _ _ ⟨(Hsf.out _ hx), ?_⟩
          clear HK hHeld
          have hHeld := (Hsf.out _ hx)
          try simp only [Act.put, List.setIfInBounds_toArray, List.set_cons_zero, List.set_cons_succ]
          refine wpAnyH_take (i := 29) (oi := ⟨some 66, _, _, _, _, _⟩) (v := ?_) rfl (by kernel_rfl) (by kernel_rfl) (by kernel_rfl) (fun _ _ _ h => h) (Or.inl ⟨by rfl, ?_⟩) hHeld ?_
          rotate_left
          · intro w' hS'
            (try dsimp only at hS')
            go_simp
            try with_reducible rfl
          try simp only [Act.put, List.setIfInBounds_toArray, List.set_cons_zero, List.set_cons_succ]
          refine wpAnyH_take (i := 30) (oi := ⟨some 67, _, _, _, _, _⟩) (v := ?_) rfl (by kernel_rfl) (by kernel_rfl) (by kernel_rfl) (fun _ _ _ h => h) (Or.inl ⟨by rfl, ?_⟩) hHeld ?_
          rotate_left
          · intro w' hS'
            (try dsimp only at hS')
            go_simp
            try with_reducible rfl
          try simp only [Act.put, List.setIfInBounds_toArray, List.set_cons_zero, List.set_cons_succ]
          refine wpAnyH_take (i := 31) (oi := ⟨some 2, _, _, _, _, _⟩) (v := ?_) rfl (by kernel_rfl) (by kernel_rfl) (by kernel_rfl) (fun _ _ _ h => h) (Or.inl ⟨by rfl, ?_⟩) hHeld ?_
          rotate_left
          · intro w' hS'
            (try dsimp only at hS')
            go_simp
            try with_reducible rfl
          try simp only [Act.put, List.setIfInBounds_toArray, List.set_cons_zero, List.set_cons_succ]
          refine wpAnyH_done (by kernel_rfl) ?_ _
          go_wp2_with fail
          go_ret
          exact ⟨rfl, Hfin.out.trans ((Hb3.out.trans (hx.mono Hb3.out.size)).mono (Hfin.out.size))⟩
        · have qi := Hq.out
          refine wp_region_held_drew (S := fun x => Below w3.heap.size w3 x ∧ x.cell? ⟨w.heap.size, 0, none⟩ = some (.int .i64 e.k) ∧ x.cell? ⟨w.heap.size, 1, none⟩ = some (.int .i64 e.a) ∧ x.cell? ⟨w.heap.size, 2, none⟩ = some (.int .i64 e.b) ∧ x.cell? ⟨w.heap.size, 3, none⟩ = some (.int .i64 e.c) ∧ x.cell? ⟨w.heap.size, 4, none⟩ = some (.int .i64 e.d) ∧ x.cell? ⟨w.heap.size, 5, none⟩ = some (.int .i64 e.e)) (by kernel_rfl) (Hsf.out _ hx) (fun hHeld => ?_)
          refine wpAnyH_take (i := 0) (oi := ⟨some 37, _, _, _, _, _⟩) (v := ?_) rfl (by kernel_rfl) (by kernel_rfl) (by kernel_rfl) (fun _ _ _ h => h) (Or.inl ⟨by rfl, ?_⟩) hHeld ?_
          rotate_left
          · intro w' hS'
            (try dsimp only at hS')
            go_simp
            try with_reducible rfl
          try simp only [Act.put, List.setIfInBounds_toArray, List.set_cons_zero, List.set_cons_succ]
          refine wpAnyH_take (i := 2) (oi := ⟨some 39, _, _, _, _, _⟩) (v := ?_) rfl (by kernel_rfl) (by kernel_rfl) (by kernel_rfl) (fun _ _ _ h => h) (Or.inl ⟨by rfl, ?_⟩) hHeld ?_
          rotate_left
          · intro w' hS'
            (try dsimp only at hS')
            go_simp
            try with_reducible rfl
          try simp only [Act.put, List.setIfInBounds_toArray, List.set_cons_zero, List.set_cons_succ]
          refine wpAnyH_all (rs := [1]) (by kernel_rfl) (by simp) ?_
          intro ix hix
          obtain rfl : ix = 1 := by simpa using hix
          clear hix
          refine wpOp_step (o := ⟨some 38, _, _, _, _, _⟩) rfl (fun K hK => ?_)
          have HK := Lib.hid hK
          clear hK
          go_simp
          refine (cInv _).mono ?_
          rintro x w4 ⟨rfl, hb⟩
          replace hx := hx.trans (hb.mono hx.size)
          clear hb
          go_wp2_with fail
          refine HK.out _ _ ⟨(Hsf.out _ hx), ?_⟩
          clear HK hHeld
          have hHeld := (Hsf.out _ hx)
          try simp only [Act.put, List.setIfInBounds_toArray, List.set_cons_zero, List.set_cons_succ]
          refine wpAnyH_all (rs := [3]) (by kernel_rfl) (by simp) ?_
          intro ix hix
          obtain rfl : ix = 3 := by simpa using hix
          clear hix
          refine wpOp_step (o := ⟨some 40, _, _, _, _, _⟩) rfl (fun K hK => ?_)
          have HK := Lib.hid hK
          clear hK
          go_simp
          refine (cRef _).mono ?_
          rintro x w4 ⟨rfl, hb⟩
          replace hx := hx.trans (hb.mono hx.size)
          clear hb
          go_wp2_with fail
          refine HK.out _ _ ⟨(Hsf.out _ hx), ?_⟩
          clear HK hHeld
          have hHeld := (Hsf.out _ hx)
          try simp only [Act.put, List.setIfInBounds_toArray, List.set_cons_zero, List.set_cons_succ]
          refine wpAnyH_take (i := 4) (oi := ⟨some 41, _, _, _, _, _⟩) (v := ?_) rfl (by kernel_rfl) (by kernel_rfl) (by kernel_rfl) (fun _ _ _ h => h) (Or.inl ⟨by rfl, ?_⟩) hHeld ?_
          rotate_left
          · intro w' hS'
            (try dsimp only at hS')
            go_simp
            try with_reducible rfl
          try simp only [Act.put, List.setIfInBounds_toArray, List.set_cons_zero, List.set_cons_succ]
          refine wpAnyH_take (i := 5) (oi := ⟨some 42, _, _, _, _, _⟩) (v := ?_) rfl (by kernel_rfl) (by kernel_rfl) (by kernel_rfl) (fun _ _ _ h => h) (Or.inl ⟨by rfl, ?_⟩) hHeld ?_
          rotate_left
          · intro w' hS'
            (try dsimp only at hS')
            go_simp
            try with_reducible rfl
          try simp only [Act.put, List.setIfInBounds_toArray, List.set_cons_zero, List.set_cons_succ]
          refine wpAnyH_take (i := 6) (oi := ⟨some 43, _, _, _, _, _⟩) (v := ?_) rfl (by kernel_rfl) (by kernel_rfl) (by kernel_rfl) (fun _ _ _ h => h) (Or.inl ⟨by rfl, ?_⟩) hHeld ?_
          rotate_left
          · intro w' hS'
            (try dsimp only at hS')
            go_simp
            try with_reducible rfl
          try simp only [Act.put, List.setIfInBounds_toArray, List.set_cons_zero, List.set_cons_succ]
          refine wpAnyH_take (i := 8) (oi := ⟨some 45, _, _, _, _, _⟩) (v := ?_) rfl (by kernel_rfl) (by kernel_rfl) (by kernel_rfl) (fun _ _ _ h => h) (Or.inl ⟨by rfl, ?_⟩) hHeld ?_
          rotate_left
          · intro w' hS'
            (try dsimp only at hS')
            go_simp
            try with_reducible rfl
          try simp only [Act.put, List.setIfInBounds_toArray, List.set_cons_zero, List.set_cons_succ]
          refine wpAnyH_take (i := 9) (oi := ⟨some 46, _, _, _, _, _⟩) (v := ?_) rfl (by kernel_rfl) (by kernel_rfl) (by kernel_rfl) (fun _ _ _ h => h) (Or.inl ⟨by rfl, ?_⟩) hHeld ?_
          rotate_left
          · intro w' hS'
            (try dsimp only at hS')
            go_simp
            try with_reducible rfl
          try simp only [Act.put, List.setIfInBounds_toArray, List.set_cons_zero, List.set_cons_succ]
          refine wpAnyH_take (i := 10) (oi := ⟨some 47, _, _, _, _, _⟩) (v := ?_) rfl (by kernel_rfl) (by kernel_rfl) (by kernel_rfl) (fun _ _ _ h => h) (Or.inl ⟨by rfl, ?_⟩) hHeld ?_
          rotate_left
          · intro w' hS'
            (try dsimp only at hS')
            go_simp
            try with_reducible rfl
          try simp only [Act.put, List.setIfInBounds_toArray, List.set_cons_zero, List.set_cons_succ]
          refine wpAnyH_all (rs := [7]) (by kernel_rfl) (by simp) ?_
          intro ix hix
          obtain rfl : ix = 7 := by simpa using hix
          clear hix
          refine wpOp_step (o := ⟨some 44, _, _, _, _, _⟩) rfl (fun K hK => ?_)
          have HK := Lib.hid hK
          clear hK
          go_simp
          refine (cSet _).mono ?_
          rintro x w4 ⟨rfl, hb⟩
          replace hx := hx.trans (hb.mono hx.size)
          clear hb
          go_wp2_with fail
          refine HK.out _ _ ⟨(Hsf.out _ hx), ?_⟩
          clear HK hHeld
          have hHeld := (Hsf.out _ hx)
          try simp only [Act.put, List.setIfInBounds_toArray, List.set_cons_zero, List.set_cons_succ]
          refine wpAnyH_take (i := 11) (oi := ⟨some 48, _, _, _, _, _⟩) (v := ?_) rfl (by kernel_rfl) (by kernel_rfl) (by kernel_rfl) (fun _ _ _ h => h) (Or.inl ⟨by rfl, ?_⟩) hHeld ?_
          rotate_left
          · intro w' hS'
            (try dsimp only at hS')
            go_simp
            try with_reducible rfl
          try simp only [Act.put, List.setIfInBounds_toArray, List.set_cons_zero, List.set_cons_succ]
          refine wpAnyH_take (i := 12) (oi := ⟨some 49, _, _, _, _, _⟩) (v := ?_) rfl (by kernel_rfl) (by kernel_rfl) (by kernel_rfl) (fun _ _ _ h => h) (Or.inl ⟨by rfl, ?_⟩) hHeld ?_
          rotate_left
          · intro w' hS'
            (try dsimp only at hS')
            go_simp
            try with_reducible rfl
          try simp only [Act.put, List.setIfInBounds_toArray, List.set_cons_zero, List.set_cons_succ]
          refine wpAnyH_take (i := 13) (oi := ⟨some 50, _, _, _, _, _⟩) (v := ?_) rfl (by kernel_rfl) (by kernel_rfl) (by kernel_rfl) (fun _ _ _ h => h) (Or.inl ⟨by rfl, ?_⟩) hHeld ?_
          rotate_left
          · intro w' hS'
            (try dsimp only at hS')
            go_simp
            try with_reducible rfl
          try simp only [Act.put, List.setIfInBounds_toArray, List.set_cons_zero, List.set_cons_succ]
          refine wpAnyH_take (i := 14) (oi := ⟨some 51, _, _, _, _, _⟩) (v := ?_) rfl (by kernel_rfl) (by kernel_rfl) (by kernel_rfl) (fun _ _ _ h => h) (Or.inl ⟨by rfl, ?_⟩) hHeld ?_
          rotate_left
          · intro w' hS'
            (try dsimp only at hS')
            go_simp
            try with_reducible rfl
          try simp only [Act.put, List.setIfInBounds_toArray, List.set_cons_zero, List.set_cons_succ]
          refine wpAnyH_take (i := 15) (oi := ⟨some 52, _, _, _, _, _⟩) (v := ?_) rfl (by kernel_rfl) (by kernel_rfl) (by kernel_rfl) (fun _ _ _ h => h) (Or.inl ⟨by rfl, ?_⟩) hHeld ?_
          rotate_left
          · intro w' hS'
            (try dsimp only at hS')
            go_simp
            try with_reducible rfl
          try simp only [Act.put, List.setIfInBounds_toArray, List.set_cons_zero, List.set_cons_succ]
          refine wpAnyH_take (i := 16) (oi := ⟨some 53, _, _, _, _, _⟩) (v := ?_) rfl (by kernel_rfl) (by kernel_rfl) (by kernel_rfl) (fun _ _ _ h => h) (Or.inl ⟨by rfl, ?_⟩) hHeld ?_
          rotate_left
          · intro w' hS'
            (try dsimp only at hS')
            go_simp
            try with_reducible rfl
          try simp only [Act.put, List.setIfInBounds_toArray, List.set_cons_zero, List.set_cons_succ]
          refine wpAnyH_take (i := 17) (oi := ⟨some 54, _, _, _, _, _⟩) (v := ?_) rfl (by kernel_rfl) (by kernel_rfl) (by kernel_rfl) (fun _ _ _ h => h) (Or.inl ⟨by rfl, ?_⟩) hHeld ?_
          rotate_left
          · intro w' hS'
            (try dsimp only at hS')
            go_simp
            try with_reducible rfl
          try simp only [Act.put, List.setIfInBounds_toArray, List.set_cons_zero, List.set_cons_succ]
          refine wpAnyH_take (i := 18) (oi := ⟨some 55, _, _, _, _, _⟩) (v := ?_) rfl (by kernel_rfl) (by kernel_rfl) (by kernel_rfl) (fun _ _ _ h => h) (Or.inl ⟨by rfl, ?_⟩) hHeld ?_
          rotate_left
          · intro w' hS'
            (try dsimp only at hS')
            go_simp
            try with_reducible rfl
          try simp only [Act.put, List.setIfInBounds_toArray, List.set_cons_zero, List.set_cons_succ]
          refine wpAnyH_take (i := 19) (oi := ⟨some 56, _, _, _, _, _⟩) (v := ?_) rfl (by kernel_rfl) (by kernel_rfl) (by kernel_rfl) (fun _ _ _ h => h) (Or.inl ⟨by rfl, ?_⟩) hHeld ?_
          rotate_left
          · intro w' hS'
            (try dsimp only at hS')
            go_simp
            try with_reducible rfl
          try simp only [Act.put, List.setIfInBounds_toArray, List.set_cons_zero, List.set_cons_succ]
          refine wpAnyH_take (i := 21) (oi := ⟨some 58, _, _, _, _, _⟩) (v := ?_) rfl (by kernel_rfl) (by kernel_rfl) (by kernel_rfl) (fun _ _ _ h => h) (Or.inl ⟨by rfl, ?_⟩) hHeld ?_
          rotate_left
          · intro w' hS'
            (try dsimp only at hS')
            go_simp
            try with_reducible rfl
          try simp only [Act.put, List.setIfInBounds_toArray, List.set_cons_zero, List.set_cons_succ]
          refine wpAnyH_all (rs := [20]) (by kernel_rfl) (by simp) ?_
          intro ix hix
          obtain rfl : ix = 20 := by simpa using hix
          clear hix
          refine wpOp_step (o := ⟨some 57, _, _, _, _, _⟩) rfl (fun K hK => ?_)
          have HK := Lib.hid hK
          clear hK
          go_simp
          refine (cByt _).mono ?_
          rintro x w4 ⟨a5, c5, rfl, hr5, hf5, hb⟩
          replace hx := hx.trans (hb.mono hx.size)
          have Hr5 := Lib.hid hr5.sl
          clear hb hr5 hf5
          go_wp2_with fail
          refine HK.out _ _ ⟨(Hsf.out _ hx), ?_⟩
          clear HK hHeld
          have hHeld := (Hsf.out _ hx)
          try simp only [Act.put, List.setIfInBounds_toArray, List.set_cons_zero, List.set_cons_succ]
          refine wpAnyH_all (rs := [22]) (by kernel_rfl) (by simp) ?_
          intro ix hix
          obtain rfl : ix = 22 := by simpa using hix
          clear hix
          refine wpOp_step (o := ⟨some 59, _, _, _, _, _⟩) rfl (fun K hK => ?_)
          have HK := Lib.hid hK
          clear hK
          go_simp
          refine (numBytes _ _ _ _ _ _ _ nb Hr5.out (Hr3.out.all hx)).mono ?_
          rintro x w4 ⟨rfl, rfl⟩
          go_wp2_with fail
          refine HK.out _ _ ⟨(Hsf.out _ hx), ?_⟩
          clear HK hHeld
          have hHeld := (Hsf.out _ hx)
          try simp only [Act.put, List.setIfInBounds_toArray, List.set_cons_zero, List.set_cons_succ]
          refine wpAnyH_take (i := 23) (oi := ⟨some 60, _, _, _, _, _⟩) (v := ?_) rfl (by kernel_rfl) (by kernel_rfl) (by kernel_rfl) (fun _ _ _ h => h) (Or.inl ⟨by rfl, ?_⟩) hHeld ?_
          rotate_left
          · intro w' hS'
            (try dsimp only at hS')
            go_simp
            try with_reducible rfl
          try simp only [Act.put, List.setIfInBounds_toArray, List.set_cons_zero, List.set_cons_succ]
          refine wpAnyH_take (i := 24) (oi := ⟨some 61, _, _, _, _, _⟩) (v := ?_) rfl (by kernel_rfl) (by kernel_rfl) (by kernel_rfl) (fun _ _ _ h => h) (Or.inl ⟨by rfl, ?_⟩) hHeld ?_
          rotate_left
          · intro w' hS'
            (try dsimp only at hS')
            go_simp
            try with_reducible rfl
          try simp only [Act.put, List.setIfInBounds_toArray, List.set_cons_zero, List.set_cons_succ]
          refine wpAnyH_take (i := 25) (oi := ⟨some 62, _, _, _, _, _⟩) (v := ?_) rfl (by kernel_rfl) (by kernel_rfl) (by kernel_rfl) (fun _ _ _ h => h) (Or.inl ⟨by rfl, ?_⟩) hHeld ?_
          rotate_left
          · intro w' hS'
            (try dsimp only at hS')
            go_simp
            try with_reducible rfl
          try simp only [Act.put, List.setIfInBounds_toArray, List.set_cons_zero, List.set_cons_succ]
          refine wpAnyH_take (i := 28) (oi := ⟨some 65, _, _, _, _, _⟩) (v := ?_) rfl (by kernel_rfl) (by kernel_rfl) (by kernel_rfl) (fun _ _ _ h => h) (Or.inl ⟨by rfl, ?_⟩) hHeld ?_
          rotate_left
          · intro w' hS'
            (try dsimp only at hS')
            go_simp
            try with_reducible rfl
          try simp only [Act.put, List.setIfInBounds_toArray, List.set_cons_zero, List.set_cons_succ]
          refine wpAnyH_all (rs := [26]) (by kernel_rfl) (by simp) ?_
          intro ix hix
          obtain rfl : ix = 26 := by simpa using hix
          clear hix
          refine wpOp_step (o := ⟨some 63, _, _, _, _, _⟩) rfl (fun K hK => ?_)
          have HK := Lib.hid hK
          clear hK
          go_simp
          refine (cDo _).mono ?_
          rintro x w4 ⟨rfl, hb⟩
          replace hx := hx.trans (hb.mono hx.size)
          clear hb
          go_wp2_with fail
          refine HK.out _ _ ⟨(Hsf.out _ hx), ?_⟩
          clear HK hHeld
          have hHeld := (Hsf.out _ hx)
          try simp only [Act.put, List.setIfInBounds_toArray, List.set_cons_zero, List.set_cons_succ]
          refine wpAnyH_all (rs := [27]) (by kernel_rfl) (by simp) ?_
          intro ix hix
          obtain rfl : ix = 27 := by simpa using hix
          clear hix
          refine wpOp_step (o := ⟨some 64, _, _, _, _, _⟩) rfl (fun K hK => ?_)
          have HK := Lib.hid hK
          clear hK
          go_simp
          refine (num _ _).mono ?_
          rintro x w4 ⟨rfl, rfl⟩
          go_wp2_with fail
          refine HK.out _ _ ⟨(Hsf.out _ hx), ?_⟩
          clear HK hHeld
          have hHeld := (Hsf.out _ hx)
          try simp only [Act.put, List.setIfInBounds_toArray, List.set_cons_zero, List.set_cons_succ]
          refine wpAnyH_take (i := 29) (oi := ⟨some 66, _, _, _, _, _⟩) (v := ?_) rfl (by kernel_rfl) (by kernel_rfl) (by kernel_rfl) (fun _ _ _ h => h) (Or.inl ⟨by rfl, ?_⟩) hHeld ?_
          rotate_left
          · intro w' hS'
            (try dsimp only at hS')
            go_simp
            try with_reducible rfl
          try simp only [Act.put, List.setIfInBounds_toArray, List.set_cons_zero, List.set_cons_succ]
          refine wpAnyH_take (i := 30) (oi := ⟨some 67, _, _, _, _, _⟩) (v := ?_) rfl (by kernel_rfl) (by kernel_rfl) (by kernel_rfl) (fun _ _ _ h => h) (Or.inl ⟨by rfl, ?_⟩) hHeld ?_
          rotate_left
          · intro w' hS'
            (try dsimp only at hS')
            go_simp
            try with_reducible rfl
          try simp only [Act.put, List.setIfInBounds_toArray, List.set_cons_zero, List.set_cons_succ]
          refine wpAnyH_take (i := 31) (oi := ⟨some 2, _, _, _, _, _⟩) (v := ?_) rfl (by kernel_rfl) (by kernel_rfl) (by kernel_rfl) (fun _ _ _ h => h) (Or.inl ⟨by rfl, ?_⟩) hHeld ?_
          rotate_left
          · intro w' hS'
            (try dsimp only at hS')
            go_simp
            try with_reducible rfl
          try simp only [Act.put, List.setIfInBounds_toArray, List.set_cons_zero, List.set_cons_succ]
          refine wpAnyH_done (by kernel_rfl) ?_ _
          go_wp2_with fail
          go_ret
          exact ⟨rfl, Hfin.out.trans ((Hb3.out.trans (hx.mono Hb3.out.size)).mono (Hfin.out.size))⟩
        · have qi := Hq.out
          refine wp_region_held_drew (S := fun x => Below w3.heap.size w3 x ∧ x.cell? ⟨w.heap.size, 0, none⟩ = some (.int .i64 e.k) ∧ x.cell? ⟨w.heap.size, 1, none⟩ = some (.int .i64 e.a) ∧ x.cell? ⟨w.heap.size, 2, none⟩ = some (.int .i64 e.b) ∧ x.cell? ⟨w.heap.size, 3, none⟩ = some (.int .i64 e.c) ∧ x.cell? ⟨w.heap.size, 4, none⟩ = some (.int .i64 e.d) ∧ x.cell? ⟨w.heap.size, 5, none⟩ = some (.int .i64 e.e)) (by kernel_rfl) (Hsf.out _ hx) (fun hHeld => ?_)
          refine wpAnyH_take (i := 0) (oi := ⟨some 37, _, _, _, _, _⟩) (v := ?_) rfl (by kernel_rfl) (by kernel_rfl) (by kernel_rfl) (fun _ _ _ h => h) (Or.inl ⟨by rfl, ?_⟩) hHeld ?_
          rotate_left
          · intro w' hS'
            (try dsimp only at hS')
            go_simp
            try with_reducible rfl
          try simp only [Act.put, List.setIfInBounds_toArray, List.set_cons_zero, List.set_cons_succ]
          refine wpAnyH_take (i := 2) (oi := ⟨some 39, _, _, _, _, _⟩) (v := ?_) rfl (by kernel_rfl) (by kernel_rfl) (by kernel_rfl) (fun _ _ _ h => h) (Or.inl ⟨by rfl, ?_⟩) hHeld ?_
          rotate_left
          · intro w' hS'
            (try dsimp only at hS')
            go_simp
            try with_reducible rfl
          try simp only [Act.put, List.setIfInBounds_toArray, List.set_cons_zero, List.set_cons_succ]
          refine wpAnyH_all (rs := [1]) (by kernel_rfl) (by simp) ?_
          intro ix hix
          obtain rfl : ix = 1 := by simpa using hix
          clear hix
          refine wpOp_step (o := ⟨some 38, _, _, _, _, _⟩) rfl (fun K hK => ?_)
          have HK := Lib.hid hK
          clear hK
          go_simp
          refine (cInv _).mono ?_
          rintro x w4 ⟨rfl, hb⟩
          replace hx := hx.trans (hb.mono hx.size)
          clear hb
          go_wp2_with fail
          refine HK.out _ _ ⟨(Hsf.out _ hx), ?_⟩
          clear HK hHeld
          have hHeld := (Hsf.out _ hx)
          try simp only [Act.put, List.setIfInBounds_toArray, List.set_cons_zero, List.set_cons_succ]
          refine wpAnyH_all (rs := [3]) (by kernel_rfl) (by simp) ?_
          intro ix hix
          obtain rfl : ix = 3 := by simpa using hix
          clear hix
          refine wpOp_step (o := ⟨some 40, _, _, _, _, _⟩) rfl (fun K hK => ?_)
          have HK := Lib.hid hK
          clear hK
          go_simp
          refine (cRef _).mono ?_
          rintro x w4 ⟨rfl, hb⟩
          replace hx := hx.trans (hb.mono hx.size)
          clear hb
          go_wp2_with fail
          refine HK.out _ _ ⟨(Hsf.out _ hx), ?_⟩
          clear HK hHeld
          have hHeld := (Hsf.out _ hx)
          try simp only [Act.put, List.setIfInBounds_toArray, List.set_cons_zero, List.set_cons_succ]
          refine wpAnyH_take (i := 4) (oi := ⟨some 41, _, _, _, _, _⟩) (v := ?_) rfl (by kernel_rfl) (by kernel_rfl) (by kernel_rfl) (fun _ _ _ h => h) (Or.inl ⟨by rfl, ?_⟩) hHeld ?_
          rotate_left
          · intro w' hS'
            (try dsimp only at hS')
            go_simp
            try with_reducible rfl
          try simp only [Act.put, List.setIfInBounds_toArray, List.set_cons_zero, List.set_cons_succ]
          refine wpAnyH_take (i := 5) (oi := ⟨some 42, _, _, _, _, _⟩) (v := ?_) rfl (by kernel_rfl) (by kernel_rfl) (by kernel_rfl) (fun _ _ _ h => h) (Or.inl ⟨by rfl, ?_⟩) hHeld ?_
          rotate_left
          · intro w' hS'
            (try dsimp only at hS')
            go_simp
            try with_reducible rfl
          try simp only [Act.put, List.setIfInBounds_toArray, List.set_cons_zero, List.set_cons_succ]
          refine wpAnyH_take (i := 6) (oi := ⟨some 43, _, _, _, _, _⟩) (v := ?_) rfl (by kernel_rfl) (by kernel_rfl) (by kernel_rfl) (fun _ _ _ h => h) (Or.inl ⟨by rfl, ?_⟩) hHeld ?_
          rotate_left
          · intro w' hS'
            (try dsimp only at hS')
            go_simp
            try with_reducible rfl
          try simp only [Act.put, List.setIfInBounds_toArray, List.set_cons_zero, List.set_cons_succ]
          refine wpAnyH_take (i := 8) (oi := ⟨some 45, _, _, _, _, _⟩) (v := ?_) rfl (by kernel_rfl) (by kernel_rfl) (by kernel_rfl) (fun _ _ _ h => h) (Or.inl ⟨by rfl, ?_⟩) hHeld ?_
          rotate_left
          · intro w' hS'
            (try dsimp only at hS')
            go_simp
            try with_reducible rfl
          try simp only [Act.put, List.setIfInBounds_toArray, List.set_cons_zero, List.set_cons_succ]
          refine wpAnyH_take (i := 9) (oi := ⟨some 46, _, _, _, _, _⟩) (v := ?_) rfl (by kernel_rfl) (by kernel_rfl) (by kernel_rfl) (fun _ _ _ h => h) (Or.inl ⟨by rfl, ?_⟩) hHeld ?_
          rotate_left
          · intro w' hS'
            (try dsimp only at hS')
            go_simp
            try with_reducible rfl
          try simp only [Act.put, List.setIfInBounds_toArray, List.set_cons_zero, List.set_cons_succ]
          refine wpAnyH_take (i := 10) (oi := ⟨some 47, _, _, _, _, _⟩) (v := ?_) rfl (by kernel_rfl) (by kernel_rfl) (by kernel_rfl) (fun _ _ _ h => h) (Or.inl ⟨by rfl, ?_⟩) hHeld ?_
          rotate_left
          · intro w' hS'
            (try dsimp only at hS')
            go_simp
            try with_reducible rfl
          try simp only [Act.put, List.setIfInBounds_toArray, List.set_cons_zero, List.set_cons_succ]
          refine wpAnyH_all (rs := [7]) (by kernel_rfl) (by simp) ?_
          intro ix hix
          obtain rfl : ix = 7 := by simpa using hix
          clear hix
          refine wpOp_step (o := ⟨some 44, _, _, _, _, _⟩) rfl (fun K hK => ?_)
          have HK := Lib.hid hK
          clear hK
          go_simp
          refine (cSet _).mono ?_
          rintro x w4 ⟨rfl, hb⟩
          replace hx := hx.trans (hb.mono hx.size)
          clear hb
          go_wp2_with fail
          refine HK.out _ _ ⟨(Hsf.out _ hx), ?_⟩
          clear HK hHeld
          have hHeld := (Hsf.out _ hx)
          try simp only [Act.put, List.setIfInBounds_toArray, List.set_cons_zero, List.set_cons_succ]
          refine wpAnyH_take (i := 11) (oi := ⟨some 48, _, _, _, _, _⟩) (v := ?_) rfl (by kernel_rfl) (by kernel_rfl) (by kernel_rfl) (fun _ _ _ h => h) (Or.inl ⟨by rfl, ?_⟩) hHeld ?_
          rotate_left
          · intro w' hS'
            (try dsimp only at hS')
            go_simp
            try with_reducible rfl
          try simp only [Act.put, List.setIfInBounds_toArray, List.set_cons_zero, List.set_cons_succ]
          refine wpAnyH_take (i := 12) (oi := ⟨some 49, _, _, _, _, _⟩) (v := ?_) rfl (by kernel_rfl) (by kernel_rfl) (by kernel_rfl) (fun _ _ _ h => h) (Or.inl ⟨by rfl, ?_⟩) hHeld ?_
          rotate_left
          · intro w' hS'
            (try dsimp only at hS')
            go_simp
            try with_reducible rfl
          try simp only [Act.put, List.setIfInBounds_toArray, List.set_cons_zero, List.set_cons_succ]
          refine wpAnyH_take (i := 13) (oi := ⟨some 50, _, _, _, _, _⟩) (v := ?_) rfl (by kernel_rfl) (by kernel_rfl) (by kernel_rfl) (fun _ _ _ h => h) (Or.inl ⟨by rfl, ?_⟩) hHeld ?_
          rotate_left
          · intro w' hS'
            (try dsimp only at hS')
            go_simp
            try with_reducible rfl
          try simp only [Act.put, List.setIfInBounds_toArray, List.set_cons_zero, List.set_cons_succ]
          refine wpAnyH_take (i := 14) (oi := ⟨some 51, _, _, _, _, _⟩) (v := ?_) rfl (by kernel_rfl) (by kernel_rfl) (by kernel_rfl) (fun _ _ _ h => h) (Or.inl ⟨by rfl, ?_⟩) hHeld ?_
          rotate_left
          · intro w' hS'
            (try dsimp only at hS')
            go_simp
            try with_reducible rfl
          try simp only [Act.put, List.setIfInBounds_toArray, List.set_cons_zero, List.set_cons_succ]
          refine wpAnyH_take (i := 15) (oi := ⟨some 52, _, _, _, _, _⟩) (v := ?_) rfl (by kernel_rfl) (by kernel_rfl) (by kernel_rfl) (fun _ _ _ h => h) (Or.inl ⟨by rfl, ?_⟩) hHeld ?_
          rotate_left
          · intro w' hS'
            (try dsimp only at hS')
            go_simp
            try with_reducible rfl
          try simp only [Act.put, List.setIfInBounds_toArray, List.set_cons_zero, List.set_cons_succ]
          refine wpAnyH_take (i := 16) (oi := ⟨some 53, _, _, _, _, _⟩) (v := ?_) rfl (by kernel_rfl) (by kernel_rfl) (by kernel_rfl) (fun _ _ _ h => h) (Or.inl ⟨by rfl, ?_⟩) hHeld ?_
          rotate_left
          · intro w' hS'
            (try dsimp only at hS')
            go_simp
            try with_reducible rfl
          try simp only [Act.put, List.setIfInBounds_toArray, List.set_cons_zero, List.set_cons_succ]
          refine wpAnyH_take (i := 17) (oi := ⟨some 54, _, _, _, _, _⟩) (v := ?_) rfl (by kernel_rfl) (by kernel_rfl) (by kernel_rfl) (fun _ _ _ h => h) (Or.inl ⟨by rfl, ?_⟩) hHeld ?_
          rotate_left
          · intro w' hS'
            (try dsimp only at hS')
            go_simp
            try with_reducible rfl
          try simp only [Act.put, List.setIfInBounds_toArray, List.set_cons_zero, List.set_cons_succ]
          refine wpAnyH_take (i := 18) (oi := ⟨some 55, _, _, _, _, _⟩) (v := ?_) rfl (by kernel_rfl) (by kernel_rfl) (by kernel_rfl) (fun _ _ _ h => h) (Or.inl ⟨by rfl, ?_⟩) hHeld ?_
          rotate_left
          · intro w' hS'
            (try dsimp only at hS')
            go_simp
            try with_reducible rfl
          try simp only [Act.put, List.setIfInBounds_toArray, List.set_cons_zero, List.set_cons_succ]
          refine wpAnyH_take (i := 19) (oi := ⟨some 56, _, _, _, _, _⟩) (v := ?_) rfl (by kernel_rfl) (by kernel_rfl) (by kernel_rfl) (fun _ _ _ h => h) (Or.inl ⟨by rfl, ?_⟩) hHeld ?_
          rotate_left
          · intro w' hS'
            (try dsimp only at hS')
            go_simp
            try with_reducible rfl
          try simp only [Act.put, List.setIfInBounds_toArray, List.set_cons_zero, List.set_cons_succ]
          refine wpAnyH_take (i := 21) (oi := ⟨some 58, _, _, _, _, _⟩) (v := ?_) rfl (by kernel_rfl) (by kernel_rfl) (by kernel_rfl) (fun _ _ _ h => h) (Or.inl ⟨by rfl, ?_⟩) hHeld ?_
          rotate_left
          · intro w' hS'
            (try dsimp only at hS')
            go_simp
            try with_reducible rfl
          try simp only [Act.put, List.setIfInBounds_toArray, List.set_cons_zero, List.set_cons_succ]
          refine wpAnyH_all (rs := [20]) (by kernel_rfl) (by simp) ?_
          intro ix hix
          obtain rfl : ix = 20 := by simpa using hix
          clear hix
          refine wpOp_step (o := ⟨some 57, _, _, _, _, _⟩) rfl (fun K hK => ?_)
          have HK := Lib.hid hK
          clear hK
          go_simp
          refine (cByt _).mono ?_
          rintro x w4 ⟨a5, c5, rfl, hr5, hf5, hb⟩
          replace hx := hx.trans (hb.mono hx.size)
          have Hr5 := Lib.hid hr5.sl
          clear hb hr5 hf5
          go_wp2_with fail
          refine HK.out _ _ ⟨(Hsf.out _ hx), ?_⟩
          clear HK hHeld
          have hHeld := (Hsf.out _ hx)
          try simp only [Act.put, List.setIfInBounds_toArray, List.set_cons_zero, List.set_cons_succ]
          refine wpAnyH_all (rs := [22]) (by kernel_rfl) (by simp) ?_
          intro ix hix
          obtain rfl : ix = 22 := by simpa using hix
          clear hix
          refine wpOp_step (o := ⟨some 59, _, _, _, _, _⟩) rfl (fun K hK => ?_)
          have HK := Lib.hid hK
          clear hK
          go_simp
          refine (numBytes _ _ _ _ _ _ _ nb Hr5.out (Hr3.out.all hx)).mono ?_
          rintro x w4 ⟨rfl, rfl⟩
          go_wp2_with fail
          refine HK.out _ _ ⟨(Hsf.out _ hx), ?_⟩
          clear HK hHeld
          have hHeld := (Hsf.out _ hx)
          try simp only [Act.put, List.setIfInBounds_toArray, List.set_cons_zero, List.set_cons_succ]
          refine wpAnyH_take (i := 23) (oi := ⟨some 60, _, _, _, _, _⟩) (v := ?_) rfl (by kernel_rfl) (by kernel_rfl) (by kernel_rfl) (fun _ _ _ h => h) (Or.inl ⟨by rfl, ?_⟩) hHeld ?_
          rotate_left
          · intro w' hS'
            (try dsimp only at hS')
            go_simp
            try with_reducible rfl
          try simp only [Act.put, List.setIfInBounds_toArray, List.set_cons_zero, List.set_cons_succ]
          refine wpAnyH_take (i := 24) (oi := ⟨some 61, _, _, _, _, _⟩) (v := ?_) rfl (by kernel_rfl) (by kernel_rfl) (by kernel_rfl) (fun _ _ _ h => h) (Or.inl ⟨by rfl, ?_⟩) hHeld ?_
          rotate_left
          · intro w' hS'
            (try dsimp only at hS')
            go_simp
            try with_reducible rfl
          try simp only [Act.put, List.setIfInBounds_toArray, List.set_cons_zero, List.set_cons_succ]
          refine wpAnyH_take (i := 25) (oi := ⟨some 62, _, _, _, _, _⟩) (v := ?_) rfl (by kernel_rfl) (by kernel_rfl) (by kernel_rfl) (fun _ _ _ h => h) (Or.inl ⟨by rfl, ?_⟩) hHeld ?_
          rotate_left
          · intro w' hS'
            (try dsimp only at hS')
            go_simp
            try with_reducible rfl
          try simp only [Act.put, List.setIfInBounds_toArray, List.set_cons_zero, List.set_cons_succ]
          refine wpAnyH_take (i := 28) (oi := ⟨some 65, _, _, _, _, _⟩) (v := ?_) rfl (by kernel_rfl) (by kernel_rfl) (by kernel_rfl) (fun _ _ _ h => h) (Or.inl ⟨by rfl, ?_⟩) hHeld ?_
          rotate_left
          · intro w' hS'
            (try dsimp only at hS')
            go_simp
            try with_reducible rfl
          try simp only [Act.put, List.setIfInBounds_toArray, List.set_cons_zero, List.set_cons_succ]
          refine wpAnyH_all (rs := [26]) (by kernel_rfl) (by simp) ?_
          intro ix hix
          obtain rfl : ix = 26 := by simpa using hix
          clear hix
          refine wpOp_step (o := ⟨some 63, _, _, _, _, _⟩) rfl (fun K hK => ?_)
          have HK := Lib.hid hK
          clear hK
          go_simp
          refine (cDo _).mono ?_
          rintro x w4 ⟨rfl, hb⟩
          replace hx := hx.trans (hb.mono hx.size)
          clear hb
          go_wp2_with fail
          refine HK.out _ _ ⟨(Hsf.out _ hx), ?_⟩
          clear HK hHeld
          have hHeld := (Hsf.out _ hx)
          try simp only [Act.put, List.setIfInBounds_toArray, List.set_cons_zero, List.set_cons_succ]
          refine wpAnyH_all (rs := [27]) (by kernel_rfl) (by simp) ?_
          intro ix hix
          obtain rfl : ix = 27 := by simpa using hix
          clear hix
          refine wpOp_step (o := ⟨some 64, _, _, _, _, _⟩) rfl (fun K hK => ?_)
          have HK := Lib.hid hK
          clear hK
          go_simp
          refine (num _ _).mono ?_
          rintro x w4 ⟨rfl, rfl⟩
          go_wp2_with fail
          refine HK.out _ _ ⟨(Hsf.out _ hx), ?_⟩
          clear HK hHeld
          have hHeld := (Hsf.out _ hx)
          try simp only [Act.put, List.setIfInBounds_toArray, List.set_cons_zero, List.set_cons_succ]
          refine wpAnyH_take (i := 29) (oi := ⟨some 66, _, _, _, _, _⟩) (v := ?_) rfl (by kernel_rfl) (by kernel_rfl) (by kernel_rfl) (fun _ _ _ h => h) (Or.inl ⟨by rfl, ?_⟩) hHeld ?_
          rotate_left
          · intro w' hS'
            (try dsimp only at hS')
            go_simp
            try with_reducible rfl
          try simp only [Act.put, List.setIfInBounds_toArray, List.set_cons_zero, List.set_cons_succ]
          refine wpAnyH_take (i := 30) (oi := ⟨some 67, _, _, _, _, _⟩) (v := ?_) rfl (by kernel_rfl) (by kernel_rfl) (by kernel_rfl) (fun _ _ _ h => h) (Or.inl ⟨by rfl, ?_⟩) hHeld ?_
          rotate_left
          · intro w' hS'
            (try dsimp only at hS')
            go_simp
            try with_reducible rfl
          try simp only [Act.put, List.setIfInBounds_toArray, List.set_cons_zero, List.set_cons_succ]
          refine wpAnyH_take (i := 31) (oi := ⟨some 2, _, _, _, _, _⟩) (v := ?_) rfl (by kernel_rfl) (by kernel_rfl) (by kernel_rfl) (fun _ _ _ h => h) (Or.inl ⟨by rfl, ?_⟩) hHeld ?_
          rotate_left
          · intro w' hS'
            (try dsimp only at hS')
            go_simp
            try with_reducible rfl
          try simp only [Act.put, List.setIfInBounds_toArray, List.set_cons_zero, List.set_cons_succ]
          refine wpAnyH_done (by kernel_rfl) ?_ _
          go_wp2_with fail
          go_ret
          exact ⟨rfl, Hfin.out.trans ((Hb3.out.trans (hx.mono Hb3.out.size)).mono (Hfin.out.size))⟩
end Go.Proofs.Ytpbocficffbcbaa
