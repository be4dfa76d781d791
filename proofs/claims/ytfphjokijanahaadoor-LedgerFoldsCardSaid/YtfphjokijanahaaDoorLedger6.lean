import Derived.Test.YtfphjokijanahaaDoorLedger5
namespace Go.Proofs.YtfphjokijanahaaDoor
open Go Go.RowKit
set_option linter.unusedVariables false

/-- The fold of entries: what stands then, and the error. -/
def foldE (acc : List Ent) : List Ent → List Ent × Int
  | [] => (acc, 0)
  | e :: r => if addErr acc e.p e.k e.t = 0 then foldE (addNext acc e.p e.k e.t) r else ([], addErr acc e.p e.k e.t)
theorem addNext_len (es : List Ent) (p k t : Int) (h : es.length ≤ 1000) : (addNext es p k t).length ≤ 1000 := by
  unfold addNext
  split
  · rename_i he
    unfold addErr at he
    split at he
    · cases he
    · split at he
      · cases he
      · split at he
        · cases he
        · simp; omega
  · exact h
theorem ent_cells {w : World} {a : Option Addr} {n cap : Nat} {ls : List Ent} (h : SlAt w 4 a n cap (ls.flatMap entC)) : ls.length = n := by
  have := h.len
  rw [cells_len entC 4 (fun _ => rfl)] at this
  omega
theorem ent_at {w : World} {a : Option Addr} {n cap k : Nat} {ls : List Ent} (h : SlAt w 4 a n cap (ls.flatMap entC)) (hk : k < n) :
    ∃ b off e, a = some ⟨b, off, none⟩ ∧ ls[k]? = some e ∧ b < w.heap.size ∧ w.cell? ⟨b, off + k * 4, none⟩ = some (.int .i64 e.p) ∧ w.cell? ⟨b, off + k * 4 + 1, none⟩ = some (.int .i64 e.k) ∧ w.cell? ⟨b, off + k * 4 + 2, none⟩ = some (.int .i64 e.t) ∧ w.cell? ⟨b, off + k * 4 + 3, none⟩ = some (.int .i64 e.l) := by
  have hl := ent_cells h
  obtain ⟨b, off, rfl, hb, hc⟩ := h.nonempty (by omega)
  have hk' : k < ls.length := by omega
  have key := fun j hj => cells_at entC 4 (fun _ => rfl) ls k j (ls[k]) hk' hj
  have e : ls.getD k ls[k] = ls[k] := by simp [List.getD, List.getElem?_eq_getElem hk']
  rw [e] at key
  refine ⟨b, off, ls[k], rfl, List.getElem?_eq_getElem hk', hb, ?_, ?_, ?_, ?_⟩
  · exact hc (k * 4) _ (by rw [show k * 4 = k * 4 + 0 from rfl, key 0 (by decide)]; rfl)
  · exact hc (k * 4 + 1) _ (by rw [key 1 (by decide)]; rfl)
  · exact hc (k * 4 + 2) _ (by rw [key 2 (by decide)]; rfl)
  · exact hc (k * 4 + 3) _ (by rw [key 3 (by decide)]; rfl)
theorem drop_at {α : Type} {l : List α} {k : Nat} {e : α} (h : l[k]? = some e) : l.drop k = e :: l.drop (k + 1) := by
  obtain ⟨hk, rfl⟩ := List.getElem?_eq_some_iff.1 h
  exact List.drop_eq_getElem_cons hk

def FoldTo (w : World) (r : List Ent × Int) (e : Ending) (w' : World) : Prop :=
  ∃ a c, e = .returned (.tuple #[.slice a r.1.length c, errV 31 r.2]) ∧ RowAt w' 37 4 a r.1.length c (r.1.flatMap entC) ∧ Fresh w.heap.size a ∧ Below w.heap.size w w'

set_option maxRecDepth 100000 in
set_option maxHeartbeats 800000 in
theorem fold (w : World) (hk : KindsAt w) (a : Option Addr) (n cap : Nat) (ls : List Ent) (h : SlAt w 4 a n cap (ls.flatMap entC)) :
    Calls Tryd.prog 13 #[.slice a n cap] w (FoldTo w (foldE [] ls)) := by
  have hz := hk.pos
  have hlen := ent_cells h
  have hnm := Nat.le_trans h.le h.max
  unfold maxLen at hnm
  go_enter Tryd.func13, Tryd.ntmps13
  go_wp2_with fail
  refine (new_ _).mono ?_
  rintro e w1 ⟨bl, br, ba, bc, rfl, hl, hown, hb1⟩
  have Hl := Lib.hid hl
  clear hl
  go_wp2_with fail
  go_loopw [12] (fun i wr => ∃ k : Nat, k ≤ n ∧ i = .int .i64 k ∧ ∃ es ba bc, LedgerAt wr bl br es ba bc ∧ es.length ≤ 1000 ∧ foldE [] ls = foldE es (ls.drop k) ∧ (∀ i, own3 bl br ba i → w.heap.size ≤ i) ∧ Below w.heap.size w wr) (fun i _ => n - (intOf i).toNat)
  case atStart => exact ⟨0, by omega, rfl, [], ba, bc, Hl.out, by simp, rfl, hown, hb1⟩
  case round =>
    obtain ⟨k, hkn, rfl, es, ba, bc, hl, hel, hf, hown, hbel⟩ := hrel
    by_cases hlt : k < n
    · obtain ⟨b, off, x, rfl, hx, hb, c0, c1, c2, c3⟩ := ent_at (h.all hbel) hlt
      rw [drop_at hx, foldE] at hf
      have Hf := Lib.hid hf
      clear hf hx
      have hn := alloc_new wr (.cells #[.int .i64 x.p, .int .i64 x.k, .int .i64 x.t, .int .i64 x.l] 37)
      go_wp2_with fail
      refine (addOwn w _ _ _ _ _ _ _ _ _ (hl.all ((Below.refl _ _).alloc (Nat.le_refl _) _)) hk hown (hbel.alloc hbel.size _)).mono ?_
      rintro e w2 ⟨ba2, bc2, rfl, hl2, hown2, hbel2, _⟩
      clear c0 c1 c2 c3
      have hel2 := addNext_len es x.p x.k x.t hel
      by_cases he : addErr es x.p x.k x.t = 0
      · rw [if_pos he] at Hf ⊢
        rw [he, addV, errV_zero]
        have Hl2 := Lib.hid hl2
        have Hel := Lib.hid hel2
        clear hl2 hel2 he
        generalize addLev es x.p x.k = lv at *
        go_wp2_with fail
        go_roundw
        case rel => exact ⟨k + 1, by omega, by go_num, _, ba2, bc2, Hl2.out, Hel.out, Hf.out, hown2, hbel2⟩
        case measure => simp [intOf]; omega
      · rw [if_neg he] at Hf ⊢
        rw [addV]
        have hv := errV_pos 31 _ he
        generalize addErr es x.p x.k x.t = er at *
        rw [hv]
        have Hv := Lib.hid hv
        clear he hv hl2 hel2
        go_wp2_with fail
        go_ret2
        rw [Hf.out]
        exact ⟨none, 0, by rw [Hv.out]; rfl, RowAt.null _ _ _, (fun ad he => by cases he), hbel2⟩
    · obtain rfl : k = n := by omega
      rw [List.drop_of_length_le (by omega), foldE] at hf
      have Hf := Lib.hid hf
      clear hf
      go_wp2_with (go_at_call 12; refine (allOk _ _ _ _ _ _ hl hel).mono ?_; rintro e w2 ⟨a2, c2, rfl, hr2, hf2, hb2, _⟩)
      go_ret2
      rw [Hf.out]
      exact ⟨a2, c2, rfl, hr2, hf2.mono hbel.size, hbel.trans (hb2.mono hbel.size)⟩
end Go.Proofs.YtfphjokijanahaaDoor
