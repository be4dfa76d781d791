import Derived.Test.YtfphjokijanahaaMatch3
namespace Go.Proofs.Ytfphjokijanahaa
open Go Go.RowKit
set_option linter.unusedVariables false

/-! ### matches side by side -/
def own (bm : Nat) (ba : Option Addr) (k : Nat) : Prop := k = bm ∨ blk ba k
theorem MatchAt.own_lt {w : World} {bm : Nat} {gs : List Int} {g : Int} {ba : Option Addr} {cap : Nat} (h : MatchAt w bm gs g ba cap) {k : Nat} (hk : own bm ba k) : k < w.heap.size := by
  rcases hk with rfl | ⟨ad, he, rfl⟩
  · exact obj_lt h.obj
  · exact h.row.lt ad he
theorem MatchAt.upd {w w' : World} {S : Nat → Prop} {bm : Nat} {gs : List Int} {g : Int} {ba : Option Addr} {cap : Nat} (h : MatchAt w bm gs g ba cap) (k : Upd S w w') (hd : ∀ i, own bm ba i → ¬ S i) : MatchAt w' bm gs g ba cap :=
  ⟨k.obj h.obj (hd _ (.inl rfl)), h.row.upd k (fun ad he => hd _ (.inr ⟨ad, he, rfl⟩)), h.ne⟩
theorem MatchAt.row_setCell {w : World} {bm : Nat} {gs : List Int} {g : Int} {ba : Option Addr} {cap : Nat} (h : MatchAt w bm gs g ba cap) {p : Addr} (hp : ¬ own bm ba p.block) {u : Value} : MatchAt (w.setCell p u) bm gs g ba cap :=
  h.upd (S := fun k => k = p.block) ((Upd.refl (fun k => k = p.block) w).setCell p (fun _ => rfl) u) (fun i hi e => hp (e ▸ hi))
/-- Apart: no block in common. -/
def Apart (bm : Nat) (ba : Option Addr) (bn : Nat) (bb : Option Addr) : Prop := ∀ i, own bn bb i → ¬ own bm ba i
theorem Apart.step {w2 : World} {bm bn : Nat} {ba bb ba3 : Option Addr} {gs : List Int} {g : Int} {cap : Nat} (d : Apart bm ba bn bb) (hn : MatchAt w2 bn gs g bb cap) (hloc : ∀ ad, ba3 = some ad → ba = some ad ∨ w2.heap.size ≤ ad.block) : Apart bm ba3 bn bb := by
  intro i hi ho
  rcases ho with rfl | ⟨ad, he, rfl⟩
  · exact d _ hi (.inl rfl)
  · rcases hloc ad he with h | h
    · exact d _ hi (.inr ⟨ad, h, rfl⟩)
    · have := hn.own_lt hi
      omega
theorem Apart.step2 {w2 : World} {bm bn : Nat} {ba bb bb3 : Option Addr} {gs : List Int} {g : Int} {cap : Nat} (d : Apart bm ba bn bb) (hm : MatchAt w2 bm gs g ba cap) (hloc : ∀ ad, bb3 = some ad → bb = some ad ∨ w2.heap.size ≤ ad.block) : Apart bm ba bn bb3 := by
  intro i hi ho
  rcases hi with rfl | ⟨ad, he, rfl⟩
  · exact d _ (.inl rfl) ho
  · rcases hloc ad he with h | h
    · exact d _ (.inr ⟨ad, h, rfl⟩) ho
    · have := hm.own_lt ho
      omega
theorem apart_new {w : World} {bm bn : Nat} {ba bb : Option Addr} {gs : List Int} {g : Int} {cap : Nat} (hm : MatchAt w bm gs g ba cap) (hn : w.heap.size ≤ bn) (hf : Fresh w.heap.size bb) : Apart bm ba bn bb := by
  intro i hi ho
  have := hm.own_lt ho
  rcases hi with rfl | ⟨ad, he, rfl⟩
  · omega
  · have := hf ad he
    omega

theorem belowMatch {B : Nat} {w w' : World} {bm : Nat} {ba : Option Addr} (h : Upd (fun k => k = bm ∨ blk ba k) w w') (hbm : B ≤ bm) (hf : Fresh B ba) (hB : B ≤ w.heap.size) : Below B w w' :=
  h.below hB (fun k hk ho => by
    rcases ho with rfl | ⟨ad, he, rfl⟩
    · omega
    · have := hf ad he
      omega)

theorem ok_nil : Ok [] 0 := ⟨by decide, by simp, by decide⟩

set_option maxHeartbeats 400000 in
theorem aliveMatch (w : World) : Calls Try.prog 7 #[] w (fun e w' => e = .returned (.bool true) ∧ Below w.heap.size w w') := by
  go_enter Try.func7, Try.ntmps7
  go_wp2_with fail
  refine (matchNew _).mono ?_
  rintro e w1 ⟨bm, ba, cap, rfl, hm, hbm, hfr, hb1⟩
  go_wp2_with fail
  refine (matchNew _).mono ?_
  rintro e w2 ⟨bn, bb, cap2, rfl, hn, hbn, hfr2, hb2⟩
  have hd := Lib.hid (apart_new hm hbn hfr2)
  have hm := hm.all hb2
  go_wp2_with fail
  refine (game _ _ _ _ _ _ _ hm ok_nil).mono ?_
  rintro e w3 ⟨ba3, cap3, rfl, hm3, hu3, hloc3⟩
  have hd3 := Lib.hid (hd.out.step hn hloc3)
  have hn3 := hn.upd hu3 hd.out
  rw [show errV 39 (gameErr [] 0 1) = .nilIface from rfl]
  rw [show gameNext [] 0 1 = [1] from rfl] at hm3
  go_wp2_with fail
  refine (game _ _ _ _ _ _ _ hm3 ⟨by decide, by decide, by decide⟩).mono ?_
  rintro e w4 ⟨ba4, cap4, rfl, hm4, hu4, hloc4⟩
  have hd4 := Lib.hid (hd3.out.step hn3 hloc4)
  have hn4 := hn3.upd hu4 hd3.out
  rw [show errV 39 (gameErr [1] 0 2) = .nilIface from rfl]
  rw [show gameNext [1] 0 2 = [1, 2] from rfl] at hm4
  go_wp2_with fail
  refine (resultOf _ _ _ _ _ _ hm4 ⟨by decide, by decide, by decide⟩).mono ?_
  rintro e w5 ⟨rfl, hb5⟩
  rw [show result [1, 2] 0 = 0 from rfl]
  have hm5 := hm4.all hb5
  have hn5 := hn4.all hb5
  go_wp2_with fail
  refine (game _ _ _ _ _ _ _ hm5 ⟨by decide, by decide, by decide⟩).mono ?_
  rintro e w6 ⟨ba6, cap6, rfl, hm6, hu6, hloc6⟩
  have hd6 := Lib.hid (hd4.out.step hn5 hloc6)
  have hn6 := hn5.upd hu6 hd4.out
  rw [show errV 39 (gameErr [1, 2] 0 3) = .nilIface from rfl]
  rw [show gameNext [1, 2] 0 3 = [1, 2, 3] from rfl] at hm6
  go_wp2_with fail
  refine (penalty _ _ _ _ _ _ _ _ hn6 ok_nil).mono ?_
  rintro e w7 ⟨bb7, cap7, rfl, hn7, hu7, hloc7⟩
  have hm7 := hm6.upd hu7 (fun i hi hj => hd6.out i hj hi)
  rw [show errV 39 (penErr [] 0 0 3) = .nilIface from rfl]
  rw [show penNext [] 0 0 3 = [] from rfl, show penGiv [] 0 0 3 = 2 from rfl] at hn7
  go_wp2_with fail
  refine (resultOf _ _ _ _ _ _ hm7 ⟨by decide, by decide, by decide⟩).mono ?_
  rintro e w8 ⟨rfl, hb8⟩
  rw [show result [1, 2, 3] 0 = 3 from rfl]
  have hn8 := hn7.all hb8
  go_wp2_with fail
  refine (resultOf _ _ _ _ _ _ hn8 ⟨by decide, by decide, by decide⟩).mono ?_
  rintro e w9 ⟨rfl, hb9⟩
  rw [show result [] 2 = 2 from rfl]
  go_wp2_with fail
  go_ret
  refine ⟨rfl, ?_⟩
  have z2 := Nat.le_trans hb1.size hb2.size
  have c2 := hb1.trans (hb2.mono hb1.size)
  have f3 := hfr.step z2 hloc3
  have c3 := c2.trans (belowMatch hu3 hbm hfr z2)
  have f4 := f3.step c3.size hloc4
  have c4 := c3.trans (belowMatch hu4 hbm f3 c3.size)
  have c5 := c4.trans (hb5.mono c4.size)
  have c6 := c5.trans (belowMatch hu6 hbm f4 c5.size)
  have c7 := c6.trans (belowMatch hu7 (Nat.le_trans hb1.size hbn) (hfr2.mono hb1.size) c6.size)
  have c8 := c7.trans (hb8.mono c7.size)
  exact c8.trans (hb9.mono c8.size)
end Go.Proofs.Ytfphjokijanahaa
