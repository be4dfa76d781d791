import Derived.Test.YtpbocficffbcbaaPut3
namespace Go.Proofs.Ytpbocficffbcbaa
open Go Go.RowKit
set_option linter.unusedVariables false

/-- The numbers of an event, their bytes. -/
def evN (e : Ev) : List Int := [e.k, e.a, e.b, e.c, e.d, e.e]
def numsB (l : List Int) : List Int := l.flatMap (fun n => putB (stand n).toNat)
def EvR (e : Ev) : Prop := ∀ n ∈ evN e, -9223372036854775808 ≤ n ∧ n ≤ 9223372036854775807
theorem numsB_len (l : List Int) (h : ∀ n ∈ l, -9223372036854775808 ≤ n ∧ n ≤ 9223372036854775807) : (numsB l).length ≤ 10 * l.length := by
  induction l with
  | nil => simp [numsB]
  | cons n l ih =>
    have h1 := ih (fun x hx => h x (by simp [hx]))
    obtain ⟨h2, h3⟩ := h n (by simp)
    obtain ⟨h4, h5⟩ := stand_range n h2 h3
    have := putB_ten (stand n).toNat (by omega)
    simp only [numsB, List.flatMap_cons, List.length_append, List.length_cons] at h1 ⊢
    omega

set_option maxRecDepth 100000 in
set_option maxHeartbeats 800000 in
theorem evBytes (w : World) (e : Ev) (he : EvR e) : Calls Try.prog 68 #[evV e] w (NewB w (numsB (evN e))) := by
  have He := Lib.hid he
  clear he
  go_enter Try.func68, Try.ntmps68
  go_wp2_with fail
  have o2 := alloc_new (w.alloc (.cells (evA e) 64)) (.cells (evA e) 3)
  have b2 : Below w.heap.size w ((w.alloc (.cells (evA e) 64)).alloc (.cells (evA e) 3)) := ((Below.refl _ w).alloc (Nat.le_refl _) _).alloc (by simp) _
  have hsz2 : ((w.alloc (.cells (evA e) 64)).alloc (.cells (evA e) 3)).heap.size = w.heap.size + 2 := by simp
  rw [World.size_alloc] at o2
  change Code.wp _ _ _ _ ((w.alloc (.cells (evA e) 64)).alloc (.cells (evA e) 3))
  generalize ((w.alloc (.cells (evA e) 64)).alloc (.cells (evA e) 3)) = W at *
  have O2 := Lib.hid o2
  have B2 := Lib.hid b2
  clear o2 b2
  go_loopw [3, 20] (fun s i wr => ∃ (k m : Nat) (done : List Int) (a : Option Addr) (c : Nat), k ≤ 6 ∧ i = .int .i64 k ∧ m = done.length ∧ s = .slice a m c ∧ RowAt wr 5 1 a m c (done.map (.int .u8)) ∧ Fresh W.heap.size a ∧ Below W.heap.size W wr ∧ done = numsB ((evN e).take k)) (fun _ i _ => 6 - (intOf i).toNat)
  case atStart => exact ⟨0, 0, [], none, 0, by omega, rfl, rfl, rfl, RowAt.null _ _ _, fresh_none, Below.refl _ _, rfl⟩
  case round =>
    obtain ⟨k, m, done, a, c, hk, rfl, hm, rfl, hrow, hf, hb, hd⟩ := hrel
    have Hrow := Lib.hid hrow
    have Hf := Lib.hid hf
    have Hb := Lib.hid hb
    have Hd := Lib.hid hd
    have Hm := Lib.hid hm
    have hsz := hb.size
    clear hrow hf hb hd hm
    by_cases hlt : k < 6
    · have hc := (obj_cell (below_obj Hb.out O2.out (by omega)) k).trans (show (evA e)[k]? = some (.int .i64 ((evN e).getD k 0)) from match k, hlt with | 0, _ | 1, _ | 2, _ | 3, _ | 4, _ | 5, _ => rfl)
      have htk := take_snoc (evN e) k 0 (by simpa [evN] using hlt)
      have hrg := He.out ((evN e).getD k 0) (by match k, hlt with | 0, _ | 1, _ | 2, _ | 3, _ | 4, _ | 5, _ => simp [evN])
      have hml : m ≤ 60 := by
        rw [Hm.out, Hd.out]
        have := numsB_len ((evN e).take k) (fun n hn => He.out n (List.mem_of_mem_take hn))
        have : ((evN e).take k).length ≤ 6 := by simp [evN]; omega
        omega
      generalize (evN e).getD k 0 = z at *
      have Htk := Lib.hid htk
      have Hrg := Lib.hid hrg
      have Hml := Lib.hid hml
      clear htk hrg hml
      go_wp2_with fail
      refine (wirePut _ _ _ _ done z (Hrow.out.sl) (by have := Hml.out; omega) Hrg.out.1 Hrg.out.2).mono ?_
      rintro x w2 ⟨a2, c2, rfl, hr2, hf2, hb2⟩
      go_wp2_with fail
      go_roundw
      case rel => exact ⟨k + 1, _, _, a2, c2, by omega, by go_num, rfl, by rw [List.length_append], hr2, hf2.mono hsz, Hb.out.trans (hb2.mono hsz), by rw [Htk.out, Hd.out]; simp [numsB]⟩
      case measure => simp [intOf]; omega
    · obtain rfl : k = 6 := by omega
      go_wp2_with fail
      go_ret
      have hd := Hd.out
      rw [show (evN e).take 6 = evN e from rfl] at hd
      refine ⟨a, c, by rw [← hd, ← Hm.out]; rfl, by rw [← hd, ← Hm.out]; exact Hrow.out, Hf.out.mono (by omega), B2.out.trans (Hb.out.mono (by omega))⟩
end Go.Proofs.Ytpbocficffbcbaa
