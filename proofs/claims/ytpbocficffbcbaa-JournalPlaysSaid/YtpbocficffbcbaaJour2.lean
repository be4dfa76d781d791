import Derived.Test.YtpbocficffbcbaaJour
import Derived.Test.YtpbocficffbcbaaStep
namespace Go.Proofs.Ytpbocficffbcbaa
open Go Go.RowKit
set_option linter.unusedVariables false

/-! ### a journal in memory -/
structure JAt (w : World) (bj : Nat) (es : List Ev) (ms : List Mk) (last : Int) (ea : Option Addr) (ec : Nat) (ma : Option Addr) (mc : Nat) : Prop where
  obj : w.heap[bj]? = some (.cells #[.slice ea es.length ec, .slice ma ms.length mc, .int .i64 last] 122 (0, 0))
  ev : RowAt w 64 6 ea es.length ec (evs es)
  mkr : RowAt w 124 2 ma ms.length mc (mks ms)
abbrev ownJ (bj : Nat) (ea ma : Option Addr) (k : Nat) : Prop := k = bj ∨ blk ea k ∨ blk ma k

theorem JAt.nev {w : World} {bj : Nat} {es : List Ev} {ms : List Mk} {last : Int} {ea ma : Option Addr} {ec mc : Nat} (h : JAt w bj es ms last ea ec ma mc) : ∀ ad, ea = some ad → ad.block ≠ bj := fun ad he hb => by
  obtain ⟨_, cur, hg, _⟩ := h.ev.row ad he
  rw [hb, h.obj] at hg
  cases hg
theorem JAt.nmk {w : World} {bj : Nat} {es : List Ev} {ms : List Mk} {last : Int} {ea ma : Option Addr} {ec mc : Nat} (h : JAt w bj es ms last ea ec ma mc) : ∀ ad, ma = some ad → ad.block ≠ bj := fun ad he hb => by
  obtain ⟨_, cur, hg, _⟩ := h.mkr.row ad he
  rw [hb, h.obj] at hg
  cases hg
theorem JAt.nem {w : World} {bj : Nat} {es : List Ev} {ms : List Mk} {last : Int} {ea ma : Option Addr} {ec mc : Nat} (h : JAt w bj es ms last ea ec ma mc) : ∀ ad ad', ea = some ad → ma = some ad' → ad.block ≠ ad'.block := fun ad ad' he hm hb => by
  obtain ⟨_, cur, hg, _⟩ := h.mkr.row ad' hm
  obtain ⟨_, cur', hg', _⟩ := h.ev.row ad he
  rw [hb, hg] at hg'
  cases hg'
theorem JAt.lt {w : World} {bj : Nat} {es : List Ev} {ms : List Mk} {last : Int} {ea ma : Option Addr} {ec mc : Nat} (h : JAt w bj es ms last ea ec ma mc) {k : Nat} (hk : ownJ bj ea ma k) : k < w.heap.size := by
  rcases hk with rfl | ⟨ad, he, rfl⟩ | ⟨ad, he, rfl⟩
  · exact obj_lt h.obj
  · exact h.ev.lt ad he
  · exact h.mkr.lt ad he
theorem JAt.upd {S : Nat → Prop} {w w' : World} {bj : Nat} {es : List Ev} {ms : List Mk} {last : Int} {ea ma : Option Addr} {ec mc : Nat} (h : JAt w bj es ms last ea ec ma mc) (k : Upd S w w') (hs : ∀ i, ownJ bj ea ma i → ¬ S i) : JAt w' bj es ms last ea ec ma mc :=
  ⟨k.obj h.obj (hs _ (.inl rfl)), h.ev.upd k (fun ad he => hs _ (.inr (.inl ⟨ad, he, rfl⟩))), h.mkr.upd k (fun ad he => hs _ (.inr (.inr ⟨ad, he, rfl⟩)))⟩
theorem JAt.all {w w' : World} {bj : Nat} {es : List Ev} {ms : List Mk} {last : Int} {ea ma : Option Addr} {ec mc : Nat} (h : JAt w bj es ms last ea ec ma mc) (k : Below w.heap.size w w') : JAt w' bj es ms last ea ec ma mc :=
  ⟨below_obj k h.obj (obj_lt h.obj), h.ev.all k, h.mkr.all k⟩
theorem JAt.alloc {w : World} {bj : Nat} {es : List Ev} {ms : List Mk} {last : Int} {ea ma : Option Addr} {ec mc : Nat} (h : JAt w bj es ms last ea ec ma mc) (o : Obj) : JAt (w.alloc o) bj es ms last ea ec ma mc :=
  h.all ((Below.refl _ _).alloc (Nat.le_refl _) o)
theorem JAt.drew {w : World} {bj : Nat} {es : List Ev} {ms : List Mk} {last : Int} {ea ma : Option Addr} {ec mc : Nat} (h : JAt w bj es ms last ea ec ma mc) : JAt w.drew bj es ms last ea ec ma mc :=
  h.all (Below.refl _ _).drew

/-- What holds of a journal. -/
structure JOk (es : List Ev) (ms : List Mk) (last : Int) : Prop where
  rise : Rise ms
  num : ∀ m ∈ ms, 1 ≤ m.1 ∧ m.1 ≤ last
  beh : ∀ m ∈ ms, m.2 ≤ es.length
  mono : ∀ (i j : Nat) (x y : Mk), ms[i]? = some x → ms[j]? = some y → i < j → x.2 ≤ y.2
  last0 : 0 ≤ last

/-- The journal behind a call. -/
def JTo (w : World) (bj : Nat) (ea ma : Option Addr) (es' : List Ev) (ms' : List Mk) (last' : Int) (v : Value) (e : Ending) (w' : World) : Prop :=
  ∃ ea' ec' ma' mc', e = .returned v ∧ JAt w' bj es' ms' last' ea' ec' ma' mc' ∧ Upd (ownJ bj ea ma) w w' ∧ (∀ ad, ea' = some ad → ea = some ad ∨ w.heap.size ≤ ad.block) ∧ (∀ ad, ma' = some ad → ma = some ad ∨ w.heap.size ≤ ad.block)
theorem JTo.same {w w' : World} {bj : Nat} {es : List Ev} {ms : List Mk} {last : Int} {ea ma : Option Addr} {ec mc : Nat} (h : JAt w bj es ms last ea ec ma mc) (k : Below w.heap.size w w') (v : Value) : JTo w bj ea ma es ms last v (.returned v) w' :=
  ⟨ea, ec, ma, mc, rfl, h.all k, Upd.of_below k, fun _ he => .inl he, fun _ he => .inl he⟩

/-- The place of a number. -/
def place (ms : List Mk) (c : Int) : Option Nat := ms.findIdx? (fun m => decide (m.1 = c))
def placeI (ms : List Mk) (c : Int) : Int := match place ms c with | some i => i | none => -1
theorem place_none {ms : List Mk} {c : Int} (h : ∀ m ∈ ms, m.1 ≠ c) : place ms c = none := by
  unfold place
  rw [List.findIdx?_eq_none_iff]
  intro m hm
  simpa using h m hm
theorem place_some {ms : List Mk} {c : Int} {i : Nat} {m : Mk} (hr : Rise ms) (h : ms[i]? = some m) (hc : m.1 = c) : place ms c = some i := by
  unfold place
  obtain ⟨hi, rfl⟩ := List.getElem?_eq_some_iff.1 h
  rw [List.findIdx?_eq_some_iff_getElem]
  refine ⟨hi, by simpa using hc, fun j hj => ?_⟩
  have := hr j i (ms[j]) (ms[i]) (List.getElem?_eq_getElem (by omega)) h hj
  simp
  omega
theorem place_spec {ms : List Mk} {c : Int} {i : Nat} (h : place ms c = some i) : ∃ m, ms[i]? = some m ∧ m.1 = c := by
  unfold place at h
  rw [List.findIdx?_eq_some_iff_getElem] at h
  obtain ⟨hi, hc, _⟩ := h
  exact ⟨ms[i], List.getElem?_eq_getElem hi, by simpa using hc⟩
theorem search_place {ms : List Mk} {c : Int} {i : Nat} (hr : Rise ms) (h1 : ∀ (j : Nat) (x : Mk), ms[j]? = some x → j < i → x.1 < c) (h2 : ∀ (j : Nat) (x : Mk), ms[j]? = some x → i ≤ j → c ≤ x.1) :
    (∃ x : Mk, ms[i]? = some x ∧ x.1 = c) ∧ placeI ms c = i ∨ (¬ ∃ x : Mk, ms[i]? = some x ∧ x.1 = c) ∧ placeI ms c = -1 := by
  by_cases h : ∃ x : Mk, ms[i]? = some x ∧ x.1 = c
  · obtain ⟨x, hx, hc⟩ := h
    exact .inl ⟨⟨x, hx, hc⟩, by unfold placeI; rw [place_some hr hx hc]⟩
  · refine .inr ⟨h, ?_⟩
    unfold placeI
    rw [place_none]
    intro m hm hc
    obtain ⟨j, hj, rfl⟩ := List.getElem_of_mem hm
    have hj' := List.getElem?_eq_getElem hj
    rcases Nat.lt_trichotomy j i with hlt | rfl | hgt
    · have := h1 j _ hj' hlt; omega
    · exact h ⟨_, hj', hc⟩
    · have hi' : ms[i]? = some (ms[i]'(by omega)) := List.getElem?_eq_getElem (by omega)
      have a1 := hr i j _ _ hi' hj' hgt
      have a2 := h2 i _ hi' (Nat.le_refl _)
      omega

set_option maxHeartbeats 800000 in
theorem find (w : World) (bj : Nat) (es : List Ev) (ms : List Mk) (last : Int) (ea ma : Option Addr) (ec mc : Nat) (h : JAt w bj es ms last ea ec ma mc) (ok : JOk es ms last) (hm : ms.length < 1000000) (c : Int) :
    Calls Try.prog 86 #[.pointer (some ⟨bj, 0, none⟩), .int .i64 c] w (fun e w' => e = .returned (.int .i64 (placeI ms c)) ∧ Below w.heap.size w w') := by
  have c1 := obj_cell h.obj 1
  simp at c1
  go_enter Try.func86, Try.ntmps86
  go_wp2_with fail
  refine (search _ _ _ _ ms h.mkr.sl ok.rise hm c).mono ?_
  rintro e w1 ⟨i, hi, hlo, hhi, rfl, hb1⟩
  rcases search_place ok.rise hlo hhi with ⟨hx, hp⟩ | ⟨hx, hp⟩
  · have hd : decide (∃ x : Mk, ms[i]? = some x ∧ x.1 = c) = true := by simpa using hx
    rw [hd]
    have Hp := Lib.hid hp
    clear hp hd hx hlo hhi
    go_wp2_with fail
    go_ret
    exact ⟨ret_int Hp.out.symm, hb1⟩
  · have hd : decide (∃ x : Mk, ms[i]? = some x ∧ x.1 = c) = false := by simpa using hx
    rw [hd]
    have Hp := Lib.hid hp
    clear hp hd hx hlo hhi
    go_wp2_with fail
    go_ret
    exact ⟨ret_int Hp.out.symm, hb1⟩
set_option maxHeartbeats 400000 in
theorem live (w : World) (bj : Nat) (es : List Ev) (ms : List Mk) (last : Int) (ea ma : Option Addr) (ec mc : Nat) (h : JAt w bj es ms last ea ec ma mc) (ok : JOk es ms last) (hm : ms.length < 1000000) (c : Int) :
    Calls Try.prog 38 #[.pointer (some ⟨bj, 0, none⟩), .int .i64 c] w (fun e w' => e = .returned (.bool (decide (0 ≤ placeI ms c))) ∧ Below w.heap.size w w') := by
  go_enter Try.func38, Try.ntmps38
  go_wp2_with fail
  refine (find _ _ _ _ _ _ _ _ _ h ok hm c).mono ?_
  rintro e w1 ⟨rfl, hb1⟩
  go_wp2_with fail
  all_goals
    go_ret
    exact ⟨ret_bool (by simp), hb1⟩
set_option maxHeartbeats 400000 in
theorem jlen (w : World) (bj : Nat) (es : List Ev) (ms : List Mk) (last : Int) (ea ma : Option Addr) (ec mc : Nat) (h : JAt w bj es ms last ea ec ma mc) :
    Calls Try.prog 33 #[.pointer (some ⟨bj, 0, none⟩)] w (fun e w' => e = .returned (.int .i64 (es.length : Int)) ∧ w = w') := by
  have c0 := obj_cell h.obj 0
  simp at c0
  go_enter Try.func33, Try.ntmps33
  go_wp2_with fail
  go_ret
  exact ⟨rfl, rfl⟩
set_option maxHeartbeats 400000 in
theorem next (w : World) (bj : Nat) (es : List Ev) (ms : List Mk) (last : Int) (ea ma : Option Addr) (ec mc : Nat) (h : JAt w bj es ms last ea ec ma mc) (h0 : 0 ≤ last) (h1 : last < 1000000000) :
    Calls Try.prog 39 #[.pointer (some ⟨bj, 0, none⟩)] w (fun e w' => e = .returned (.int .i64 (last + 1)) ∧ w = w') := by
  have c2 := obj_cell h.obj 2
  simp at c2
  go_enter Try.func39, Try.ntmps39
  go_wp2_with fail
  go_ret
  exact ⟨rfl, rfl⟩

theorem Try.infoMk : (Try.prog.info? 124).map (fun i => (i.zero, i.size, i.bytes)) = some (some (.agg #[.int .i64 0, .int .i64 0]), 2, 16) := by kernel_rfl
end Go.Proofs.Ytpbocficffbcbaa
