import Derived.Test.YtpbocficffbcbaaJour4
namespace Go.Proofs.Ytpbocficffbcbaa
open Go Go.RowKit
set_option linter.unusedVariables false

theorem flat_drop {α : Type} (f : α → List Value) (n : Nat) (hn : ∀ a, (f a).length = n) : ∀ (l : List α) (k : Nat), (l.flatMap f).drop (k * n) = (l.drop k).flatMap f
  | [], k => by simp
  | a :: l, 0 => by simp
  | a :: l, k + 1 => by
    rw [List.flatMap_cons, List.drop_append, List.drop_of_length_le (by rw [hn, Nat.add_mul]; omega), hn, show (k + 1) * n - n = k * n by rw [Nat.add_mul]; omega, flat_drop f n hn l k]
    simp
theorem flat_take {α : Type} (f : α → List Value) (n : Nat) (hn : ∀ a, (f a).length = n) : ∀ (l : List α) (k : Nat), (l.flatMap f).take (k * n) = (l.take k).flatMap f
  | [], k => by simp
  | a :: l, 0 => by simp
  | a :: l, k + 1 => by
    rw [List.flatMap_cons, List.take_append, List.take_of_length_le (by rw [hn, Nat.add_mul]; omega), hn, show (k + 1) * n - n = k * n by rw [Nat.add_mul]; omega, flat_take f n hn l k]
    simp
theorem SlAt.dropF {α : Type} {f : α → List Value} {sz : Nat} (hf : ∀ a, (f a).length = sz) {w : World} {b off n cap : Nat} {l : List α} (h : SlAt w sz (some ⟨b, off, none⟩) n cap (l.flatMap f)) (k : Nat) (hk : k ≤ n) (hsz : 0 < sz) :
    SlAt w sz (some ⟨b, off + k * sz, none⟩) (n - k) (cap - k) ((l.drop k).flatMap f) where
  len := by
    have := h.len
    rw [← flat_drop f sz hf, List.length_drop, this, Nat.sub_mul]
  le := by have := h.le; omega
  max := by have := h.max; omega
  nil := by simp
  one := fun u hu => by
    rw [← flat_drop f sz hf] at hu
    exact h.one u (List.mem_of_mem_drop hu)
  at_ := fun ad he hn => by
    obtain rfl := Option.some.inj he
    obtain ⟨_, hb, hc⟩ := h.at_ _ rfl (by omega)
    refine ⟨rfl, hb, fun j u hu => ?_⟩
    rw [← flat_drop f sz hf, List.getElem?_drop] at hu
    have := hc _ _ hu
    simp only at this ⊢
    rw [Nat.add_assoc]
    exact this
theorem SlAt.zero {w : World} {sz : Nat} (ad : Addr) : SlAt w sz (some ad) 0 0 [] where
  len := by simp
  le := Nat.le_refl _
  max := Nat.zero_le _
  nil := by simp
  one := by simp
  at_ := fun _ _ h => absurd h (Nat.lt_irrefl _)

theorem placeI_none {ms : List Mk} {c : Int} (h : place ms c = none) : placeI ms c = -1 := by unfold placeI; rw [h]
theorem placeI_some {ms : List Mk} {c : Int} {i : Nat} (h : place ms c = some i) : placeI ms c = i := by unfold placeI; rw [h]

set_option maxHeartbeats 800000 in
theorem spanBad (w : World) (bj : Nat) (es : List Ev) (ms : List Mk) (last : Int) (ea ma : Option Addr) (ec mc : Nat) (h : JAt w bj es ms last ea ec ma mc) (ok : JOk es ms last) (hm : ms.length < 1000000) (c : Int) (hp : place ms c = none) :
    Calls Try.prog 53 #[.pointer (some ⟨bj, 0, none⟩), .int .i64 c] w (fun e w' => e = .returned (.tuple #[.slice none 0 0, errV 32 16]) ∧ Below w.heap.size w w') := by
  have hpi := placeI_none hp
  go_enter Try.func53, Try.ntmps53
  go_wp2_with (go_at_call 86; refine (find _ _ _ _ _ _ _ _ _ h ok hm c).mono ?_; rintro e w' ⟨rfl, hb⟩; rw [hpi])
  go_ret2
  exact ⟨rfl, hb⟩

/-- Behind a call that hands back new events and no error. -/
def SpanTo (w : World) (l : List Ev) (e : Ending) (w' : World) : Prop :=
  ∃ a c, e = .returned (.tuple #[.slice a l.length c, .nilIface]) ∧ RowAt w' 64 6 a l.length c (evs l) ∧ Fresh w.heap.size a ∧ Below w.heap.size w w'
set_option maxRecDepth 100000 in
set_option maxHeartbeats 1600000 in
theorem spanOk (w : World) (bj : Nat) (es : List Ev) (ms : List Mk) (last : Int) (ea ma : Option Addr) (ec mc : Nat) (h : JAt w bj es ms last ea ec ma mc) (ok : JOk es ms last) (hm : ms.length < 1000000) (hes : es.length ≤ 65536) (c : Int) (i : Nat) (n : Int) (k : Nat)
    (hp : place ms c = some i) (hi : ms[i]? = some (n, k)) (hk : k ≤ es.length) :
    Calls Try.prog 53 #[.pointer (some ⟨bj, 0, none⟩), .int .i64 c] w (SpanTo w (es.drop k)) := by
  have hpi := placeI_some hp
  have hil : i < ms.length := (List.getElem?_eq_some_iff.1 hi).1
  have hel := h.ev.le
  have hem := h.ev.max
  have hml := h.mkr.le
  have hmm := h.mkr.max
  unfold maxLen at hem hmm
  obtain ⟨mb, mo, m, hma, hmi, hmb, d0, d1⟩ := mk_at h.mkr.sl hil
  obtain rfl : m = (n, k) := Option.some.inj (hmi.symm.trans hi)
  subst hma
  simp only at d0 d1
  clear hmi hi hp
  have hx : ∀ w', Below w.heap.size w w' → w'.cell? ⟨bj, 0, none⟩ = some (.slice ea es.length ec) ∧ w'.cell? ⟨bj, 1, none⟩ = some (.slice (some ⟨mb, mo, none⟩) ms.length mc) ∧ w'.cell? ⟨mb, mo + i * 2 + 1, none⟩ = some (.int .i64 (k : Int)) := fun w' hb => by
    have h' := h.all hb
    have c0 := obj_cell h'.obj 0
    have c1 := obj_cell h'.obj 1
    simp at c0 c1
    exact ⟨c0, c1, (World.cell?_of_block (hb.block mb hmb)).trans d1⟩
  have Hx := Lib.hid hx
  have Hpi := Lib.hid hpi
  clear hx hpi d0 d1
  go_enter Try.func53, Try.ntmps53
  go_wp2_with fail
  refine (find _ _ _ _ _ _ _ _ _ h ok hm c).mono ?_
  rintro e w1 ⟨rfl, hb1⟩
  rw [Hpi.out]
  have hx1 := Hx.out w1 hb1
  have hj1 := h.all hb1
  go_upto_region 4 with (fail)
  rcases hj1.ev.sl.form with ⟨rfl, hn0, rfl, hnil⟩ | ⟨ad, rfl⟩
  · obtain rfl : es = [] := List.eq_nil_of_length_eq_zero hn0
    have hk0 : k = 0 := by simpa using hk
    subst hk0
    go_region_held3 (fun x => x.cell? ⟨bj, 0, none⟩ = some (.slice none ([] : List Ev).length 0) ∧ x.cell? ⟨bj, 1, none⟩ = some (.slice (some ⟨mb, mo, none⟩) ms.length mc) ∧ x.cell? ⟨mb, mo + i * 2 + 1, none⟩ = some (.int .i64 ((0 : Nat) : Int)))
      (first | exact hx1 | exact hx2)
      (first | (go_at_call 88; refine (cloneEvs _ _ _ _ [] (SlAt.null _ _) (by decide)).mono ?_; rintro e w2 ⟨a2, c2, rfl, hr2, hf2, hb2, hn2⟩; have b2 : Below w.heap.size w w2 := hb1.trans ((undrew hb2).mono hb1.size); have hx2 := Hx.out w2 b2))
    go_wp2_with fail
    go_ret2
    exact ⟨a2, c2, rfl, hr2, hf2.mono hb1.size, b2⟩
  · obtain ⟨eb, eo, sp⟩ := ad
    obtain ⟨hsp, _⟩ := hj1.ev.row _ rfl
    simp only at hsp
    subst hsp
    by_cases hkc : ec = k
    · subst hkc
      go_region_held3 (fun x => x.cell? ⟨bj, 0, none⟩ = some (.slice (some ⟨eb, eo, none⟩) es.length ec) ∧ x.cell? ⟨bj, 1, none⟩ = some (.slice (some ⟨mb, mo, none⟩) ms.length mc) ∧ x.cell? ⟨mb, mo + i * 2 + 1, none⟩ = some (.int .i64 (ec : Int)))
        (first | exact hx1 | exact hx2)
        (first | (go_at_call 88; refine (cloneEvs _ _ _ _ [] (SlAt.zero _) (by decide)).mono ?_; rintro e w2 ⟨a2, c2, rfl, hr2, hf2, hb2, hn2⟩; have b2 : Below w.heap.size w w2 := hb1.trans ((undrew hb2).mono hb1.size); have hx2 := Hx.out w2 b2))
      have hd : es.drop ec = [] := List.drop_of_length_le hel
      go_wp2_with fail
      go_ret2
      exact ⟨a2, c2, by rw [hd]; rfl, by rw [hd]; exact hr2, hf2.mono hb1.size, b2⟩
    · have hkc' : k < ec := by omega
      have hlen : (es.length - k) * 48 ≤ 140737488355328 := by omega
      have hsub := SlAt.dropF (f := evC) (fun _ => rfl) hj1.ev.sl.drew k hk (by decide)
      go_region_held3 (fun x => x.cell? ⟨bj, 0, none⟩ = some (.slice (some ⟨eb, eo, none⟩) es.length ec) ∧ x.cell? ⟨bj, 1, none⟩ = some (.slice (some ⟨mb, mo, none⟩) ms.length mc) ∧ x.cell? ⟨mb, mo + i * 2 + 1, none⟩ = some (.int .i64 (k : Int)))
        (first | exact hx1 | exact hx2)
        (first | (go_at_call 88; refine (cloneEvs _ _ _ _ (evs (es.drop k)) hsub hlen).mono ?_; rintro e w2 ⟨a2, c2, rfl, hr2, hf2, hb2, hn2⟩; have b2 : Below w.heap.size w w2 := hb1.trans ((undrew hb2).mono hb1.size); have hx2 := Hx.out w2 b2))
      have hd : (es.drop k).length = es.length - k := List.length_drop
      go_wp2_with fail
      go_ret2
      exact ⟨a2, c2, by rw [hd]; rfl, by rw [hd]; exact hr2, hf2.mono hb1.size, b2⟩
end Go.Proofs.Ytpbocficffbcbaa
