import Derived.Test.YtpbocficffbcbaaShelf
namespace Go.Proofs.Ytpbocficffbcbaa
open Go Go.Shelf Go.RowKit Go.Sort
set_option linter.unusedVariables false

/-! ### cells set one after another; a row put -/
theorem setCells_upd (b : Nat) : ∀ (vs : List Value) (o : Nat) (w : World), Upd (fun k => k = b) w (w.setCells b o vs)
  | [], _, w => Upd.refl _ _
  | v :: vs, o, w => by
    have h := (Upd.refl (fun k => k = b) w).setCell ⟨b, o, none⟩ (fun _ => rfl) v
    exact h.trans (setCells_upd b vs (o + 1) _) (fun _ _ h => h)
theorem setCells_obj (b : Nat) {e : TypeId} : ∀ (vs : List Value) (o : Nat) (w : World) (cur : Array Value), w.heap[b]? = some (.cells cur e (0, 0)) → ∃ cur' : Array Value, (w.setCells b o vs).heap[b]? = some (.cells cur' e (0, 0)) ∧ cur'.size = cur.size
  | [], _, w, cur, h => ⟨cur, h, rfl⟩
  | v :: vs, o, w, cur, h => by
    obtain ⟨c, h1, h2⟩ := setCells_obj b vs (o + 1) _ _ (obj_set h o v)
    exact ⟨c, h1, by simpa using h2⟩
theorem one_ints (zs : List Int) : ∀ u ∈ zs.map (Value.int .i64), u.oneCell' = true := by simp [Value.oneCell']
theorem RowAt.of_cells {w : World} {e : TypeId} {b off n cap : Nat} {xs : List Value} {cur : Array Value} (ho : w.heap[b]? = some (.cells cur e (0, 0))) (hs : off + cap ≤ cur.size) (hl : xs.length = n) (hn : n ≤ cap) (hm : cap ≤ maxLen) (h1 : ∀ u ∈ xs, u.oneCell' = true)
    (hc : ∀ j, j < n → w.cell? ⟨b, off + j, none⟩ = xs[j]?) : RowAt w e 1 (some ⟨b, off, none⟩) n cap xs where
  len := by simpa using hl
  le := hn
  max := hm
  nil := by simp
  one := h1
  row := fun ad he => by
    obtain rfl := Option.some.inj he
    refine ⟨rfl, cur, ho, by simpa using hs, ?_⟩
    apply List.ext_getElem?
    intro j
    rw [List.getElem?_take, Nat.mul_one]
    split
    · rename_i hj
      have := hc j hj
      rw [obj_cell ho] at this
      rw [← this, List.getElem?_drop]
      simp
    · rename_i hj
      rw [List.getElem?_eq_none (by omega)]
theorem RowAt.cell {w : World} {e : TypeId} {b off n cap : Nat} {xs : List Value} (h : RowAt w e 1 (some ⟨b, off, none⟩) n cap xs) (j : Nat) (hj : j < n) : w.cell? ⟨b, off + j, none⟩ = xs[j]? := by
  have hl := h.len
  have hj' : j < xs.length := by omega
  have := h.sl.news j (xs[j]) (List.getElem?_eq_getElem hj')
  rw [Addr.add_lit] at this
  rw [this, List.getElem?_eq_getElem hj']
theorem RowAt.there {w : World} {e : TypeId} {b off n cap : Nat} {xs : List Value} (h : RowAt w e 1 (some ⟨b, off, none⟩) n cap xs) : ∃ cur : Array Value, w.heap[b]? = some (.cells cur e (0, 0)) ∧ off + cap ≤ cur.size ∧ (∀ j, j < cap → (w.cell? ⟨b, off + j, none⟩).isSome = true) ∧ ∀ j, w.frozen? ⟨b, j, none⟩ = false := by
  obtain ⟨_, cur, hg, hs, _⟩ := h.row _ rfl
  refine ⟨cur, hg, by simpa using hs, fun j hj => ?_, fun j => obj_free hg j⟩
  rw [obj_cell hg]
  simp at hs
  rw [Array.getElem?_eq_getElem (by omega)]
  rfl
theorem RowAt.holds {w : World} {e : TypeId} {b off n cap : Nat} {zs : List Int} (h : RowAt w e 1 (some ⟨b, off, none⟩) n cap (zs.map (.int .i64))) : Holds (Value.int .i64) w b off zs.toArray := by
  intro j hj
  have hl := h.len
  simp at hl hj
  obtain ⟨cur, hg, hs, _, hf⟩ := h.there
  refine ⟨?_, hf _⟩
  rw [h.cell j (by omega)]
  simp [hj]
theorem putRow_upd (w : World) (q b off : Nat) (d : Array Int) : Upd (fun k => k = b) w (putRow (Value.int .i64) (Sort.ahead w q) b off d) :=
  ⟨rfl, rfl, rfl, by simp [putRow, mapBlock, Sort.ahead], fun k _ hn => by simp [putRow, mapBlock, Sort.ahead, Array.getElem?_modify, Ne.symm hn]⟩
theorem putRow_row {w : World} {q b off n m cap : Nat} {e : TypeId} {xs : List Value} {zs : List Int} (h : RowAt w e 1 (some ⟨b, off, none⟩) n cap xs) (hz : m ≤ zs.length) (hn : zs.length ≤ cap) :
    RowAt (putRow (Value.int .i64) (Sort.ahead w q) b off zs.toArray) e 1 (some ⟨b, off, none⟩) m cap ((zs.take m).map (.int .i64)) := by
  obtain ⟨cur, hg, hs, _, _⟩ := h.there
  have ho : (putRow (Value.int .i64) (Sort.ahead w q) b off zs.toArray).heap[b]? = some (.cells (putCells (Value.int .i64) off zs.toArray cur) e (0, 0)) := by
    simp [putRow, mapBlock, Sort.ahead, Array.getElem?_modify, hg, onCells]
  refine RowAt.of_cells ho (by simpa [putCells] using hs) (by simp; omega) (by omega) h.max (one_ints _) (fun j hj => ?_)
  rw [obj_cell ho]
  have hj' : j < zs.length := by omega
  have hc : off + j < cur.size := by omega
  simp [putCells, hc, hj', hj]

/-! ### the contracts -/
set_option maxHeartbeats 400000 in
theorem sDelete (w : World) (b off n cap i : Nat) (zs : List Int) (h : RowAt w 3 1 (some ⟨b, off, none⟩) n cap (zs.map (.int .i64))) (hi : i < n) :
    Calls Try.prog 82 #[.slice (some ⟨b, off, none⟩) n cap, .int .i64 i, .int .i64 ((i : Int) + 1)] w
      (fun e w' => e = .returned (.slice (some ⟨b, off, none⟩) (n - 1) cap) ∧ RowAt w' 3 1 (some ⟨b, off, none⟩) (n - 1) cap ((zs.take i ++ zs.drop (i + 1)).map (.int .i64)) ∧ Upd (fun k => k = b) w w') := by
  have hl : zs.length = n := by simpa using h.len
  subst hl
  have hm := h.max
  unfold maxLen at hm
  have hle := h.le
  have hd := Any.slices_Delete_int layDelete b off cap i (i + 1) zs w h.holds h.le (by omega) (by omega) (by omega)
  refine Calls.mono (show Calls Try.prog 82 _ w _ from hd) ?_
  rintro e w' ⟨rfl, q, rfl⟩
  have hr := putRow_row (q := q) (m := zs.length - 1) (zs := zs.take i ++ zs.drop (i + 1) ++ List.replicate (i + 1 - i) 0) h (by simp; omega) (by simp; omega)
  rw [List.take_left' (by simp; omega)] at hr
  exact ⟨by rw [show i + 1 - i = 1 by omega], hr, putRow_upd _ _ _ _ _⟩
set_option maxHeartbeats 400000 in
theorem sReverse (w : World) (b off n cap : Nat) (zs : List Int) (h : RowAt w 3 1 (some ⟨b, off, none⟩) n cap (zs.map (.int .i64))) :
    Calls Try.prog 83 #[.slice (some ⟨b, off, none⟩) n cap] w
      (fun e w' => e = .returned (.tuple #[]) ∧ RowAt w' 3 1 (some ⟨b, off, none⟩) n cap (zs.reverse.map (.int .i64)) ∧ Upd (fun k => k = b) w w') := by
  have hl : zs.length = n := by simpa using h.len
  subst hl
  have hm := h.max
  unfold maxLen at hm
  have hle := h.le
  have hd := Any.slices_Reverse_int layReverse b off cap zs w h.holds (by omega)
  refine Calls.mono (show Calls Try.prog 83 _ w _ from hd) ?_
  rintro e w' ⟨rfl, q, rfl⟩
  have hr := putRow_row (q := q) (m := zs.length) (zs := zs.reverse) h (by simp) (by simpa using hle)
  rw [List.take_of_length_le (by simp)] at hr
  exact ⟨rfl, hr, putRow_upd _ _ _ _ _⟩

def insAt (zs : List Int) (i : Nat) (x : Int) : List Int := zs.take i ++ x :: zs.drop i
theorem insAt_len (zs : List Int) (i : Nat) (x : Int) : (insAt zs i x).length = zs.length + 1 := by
  simp [insAt]
  omega
theorem insAt_get (zs : List Int) (i : Nat) (x : Int) (hi : i ≤ zs.length) (j : Nat) : (insAt zs i x)[j]? = if j < i then zs[j]? else if j = i then some x else zs[j - 1]? := by
  unfold insAt
  split
  · rename_i h
    rw [List.getElem?_append_left (by simp; omega), List.getElem?_take, if_pos h]
  · rename_i h
    rw [List.getElem?_append_right (by simp; omega), List.length_take, Nat.min_eq_left hi]
    split
    · rename_i h2
      subst h2
      simp
    · rename_i h2
      rw [show j - i = (j - i - 1) + 1 by omega, List.getElem?_cons_succ, List.getElem?_drop]
      congr 1
      omega
/-- Behind Insert. -/
def InsTo (w : World) (a : Option Addr) (zs : List Int) (i : Nat) (x : Int) (e : Ending) (w' : World) : Prop :=
  ∃ a' c', e = .returned (.slice a' (zs.length + 1) c') ∧ RowAt w' 3 1 a' (zs.length + 1) c' ((insAt zs i x).map (.int .i64)) ∧ Upd (blk a) w w' ∧ (a' = a ∨ Fresh w.heap.size a')
theorem setCells_rowAt {w : World} {e : TypeId} {b off n m cap o : Nat} {xs ys vs : List Value} (h : RowAt w e 1 (some ⟨b, off, none⟩) n cap xs) (hy : ys.length = m) (hm : m ≤ cap) (h1 : ∀ u ∈ ys, u.oneCell' = true) (hv : o + vs.length ≤ cap)
    (hc : ∀ j, j < m → ys[j]? = if o ≤ j ∧ j < o + vs.length then vs[j - o]? else w.cell? ⟨b, off + j, none⟩) : RowAt (w.setCells b (off + o) vs) e 1 (some ⟨b, off, none⟩) m cap ys := by
  obtain ⟨cur, hg, hs, hsome, _⟩ := h.there
  obtain ⟨cur', hg', hs'⟩ := setCells_obj b vs (off + o) w cur hg
  refine RowAt.of_cells hg' (by omega) hy hm h.max h1 (fun j hj => ?_)
  rw [hc j hj]
  split
  · rename_i hin
    have := World.cell?_setCells_in b vs (off + o) w (fun k hk => by rw [Nat.add_assoc]; exact hsome _ (by omega)) (j - o) (by omega)
    rw [show off + o + (j - o) = off + j by omega] at this
    rw [this, List.getElem?_eq_getElem (by omega)]
  · rename_i hout
    exact World.cell?_setCells_out b vs (off + o) w _ (fun _ _ => by simp; omega)

set_option maxHeartbeats 800000 in
theorem sInsert (w : World) (a : Option Addr) (n cap i : Nat) (zs : List Int) (vb : Nat) (x : Int) (h : RowAt w 3 1 a n cap (zs.map (.int .i64))) (hi : i ≤ n) (hb : n < 1000000)
    (hv : w.heap[vb]? = some (.cells #[.int .i64 x] 3 (0, 0))) (hne : ∀ ad, a = some ad → ad.block ≠ vb) :
    Calls Try.prog 80 #[.slice a n cap, .int .i64 i, .slice (some ⟨vb, 0, none⟩) 1 1] w (InsTo w a zs i x) := by
  have hl : zs.length = n := by simpa using h.len
  subst hl
  have hm := h.max
  have hle := h.le
  have hm' := hm
  unfold maxLen at hm'
  have hvs : ∀ (j : Nat) (v : Value), [Value.int .i64 x][j]? = some v → w.cell? ⟨vb, 0 + j, none⟩ = some v := by
    intro j v hj
    rw [Nat.zero_add, obj_cell hv]
    cases j with
    | zero => simpa using hj
    | succ j => simp at hj
  have h1v : ∀ v ∈ [Value.int .i64 x], v.oneCell' = true := by simp [Value.oneCell']
  have hmap : ∀ j, ((insAt zs i x).map (Value.int .i64))[j]? = if j < i then (zs.map (Value.int .i64))[j]? else if j = i then some (.int .i64 x) else (zs.map (Value.int .i64))[j - 1]? := by
    intro j
    rw [List.getElem?_map, insAt_get zs i x hi]
    split
    · simp
    · split
      · simp
      · simp
  have hyl : ((insAt zs i x).map (Value.int .i64)).length = zs.length + 1 := by simp [insAt_len]
  by_cases hroom : cap < zs.length + 1
  · by_cases hend : i = zs.length
    · subst hend
      have hd := Any2.slices_Insert_int_end_grow layInsert a zs.length cap vb 0 1 1 (zs.map (.int .i64)) [.int .i64 x] w (by omega) hle hroom (by omega) (by simp) rfl (fun e => by have := h.nil e; omega) (fun ad he j v hj => by subst he; exact h.sl.news j v hj) hvs h1v
      simp only [show layInsert_ren.t 3 = 3 from rfl] at hd
      refine Calls.mono (show Calls Try.prog 80 _ w _ from hd) ?_
      rintro e w' ⟨rfl, rfl⟩
      have hg := alloc_new w.drew (.cells (((zs.map (Value.int .i64)) ++ [Value.int .i64 x]).toArray ++ Builtin.zeroCells (Value.int .i64 0).cells (grownCap w (zs.length + 1) cap 3 - (zs.length + 1))) 3)
      have hge := grownCap_ge w (zs.length + 1) cap 3
      refine ⟨_, _, rfl, RowAt.of_cells hg (by simp [size_zeroCells, Value.cells]; omega) hyl hge (grownCap_le_maxLen _ _ _ _ (by unfold maxLen; omega)) (one_ints _) (fun j hj => ?_), Upd.of_below (((Below.refl _ w).drew).alloc (Nat.le_refl _) _), .inr (fun ad he => by obtain rfl := Option.some.inj he; exact Nat.le_refl _)⟩
      rw [hmap j]
      have hc := obj_cell hg (0 + j)
      refine hc.trans ?_
      rw [Nat.zero_add, Array.getElem?_append_left (by simp; omega)]
      rw [List.getElem?_toArray]
      by_cases hj2 : j < zs.length
      · rw [if_pos hj2, List.getElem?_append_left (by simpa using hj2)]
      · obtain rfl : j = zs.length := by omega
        rw [if_neg hj2, if_pos rfl, List.getElem?_append_right (by simp)]
        simp
    · have hin : i < zs.length := by omega
      obtain ⟨ad, rfl⟩ : ∃ ad, a = some ad := by
        cases a with
        | none => have := h.nil rfl; omega
        | some ad => exact ⟨ad, rfl⟩
      obtain ⟨b, off, sp⟩ := ad
      obtain ⟨hsp, _⟩ := h.row _ rfl
      simp only at hsp
      subst hsp
      have hd := Any2.slices_Insert_int_grow layInsert b off zs.length cap i vb 0 1 1 (zs.map (.int .i64)) [.int .i64 x] w hin (by omega) hle hroom (by omega) (by simp) rfl
        (fun j v hj => by have hj' := (List.getElem?_eq_some_iff.1 hj).1; rw [h.cell j (by simpa using hj')]; exact hj) hvs (one_ints _) h1v
      simp only [show layInsert_ren.t 3 = 3 from rfl] at hd
      refine Calls.mono (show Calls Try.prog 80 _ w _ from hd) ?_
      rintro e w' ⟨rfl, rfl⟩
      have hge := grownCap_ge w (zs.length + 1) cap 3
      have hgl := grownCap_le_maxLen w (zs.length + 1) cap 3 (by unfold maxLen; omega)
      obtain ⟨C, hC⟩ : ∃ C, C = ((zs.map (Value.int .i64)).take i).toArray ++ Builtin.zeroCells (Value.int .i64 0).cells (zs.length + 1 - i) ++ Builtin.zeroCells (Value.int .i64 0).cells (grownCap w (zs.length + 1) cap 3 - (zs.length + 1)) := ⟨_, rfl⟩
      rw [← hC]
      have hCs : C.size = grownCap w (zs.length + 1) cap 3 := by rw [hC]; simp [size_zeroCells, Value.cells]; omega
      have hCg : ∀ j, j < i → C[j]? = (zs.map (Value.int .i64))[j]? := by
        intro j hj
        rw [hC, Array.getElem?_append_left (by simp [size_zeroCells, Value.cells]; omega), Array.getElem?_append_left (by simp; omega), List.getElem?_toArray, List.getElem?_take, if_pos hj]
      clear hC
      generalize grownCap w (zs.length + 1) cap 3 = G at *
      have hg := alloc_new w (.cells C 3)
      have r0 : RowAt (w.alloc (.cells C 3)) 3 1 (some ⟨w.heap.size, 0, none⟩) i G ((zs.map (Value.int .i64)).take i) :=
        RowAt.of_cells hg (by omega) (by simp; omega) (by omega) hgl (fun u hu => one_ints zs u (List.mem_of_mem_take hu)) (fun j hj => by
          rw [obj_cell hg, Nat.zero_add, hCg j hj, List.getElem?_take, if_pos hj])
      have r1 : RowAt ((w.alloc (.cells C 3)).drew.setCells w.heap.size i [.int .i64 x]) 3 1 (some ⟨w.heap.size, 0, none⟩) (i + 1) G ((zs.map (Value.int .i64)).take i ++ [.int .i64 x]) := by
        have := setCells_rowAt (o := i) (m := i + 1) (vs := [.int .i64 x]) (ys := (zs.map (Value.int .i64)).take i ++ [.int .i64 x]) r0.drew (by simp; omega) (by omega) (fun u hu => by
          rcases List.mem_append.1 hu with hu | hu
          · exact one_ints zs u (List.mem_of_mem_take hu)
          · exact h1v u hu) (by simp; omega) (fun j hj => by
          by_cases hj2 : j < i
          · have hcond : ¬ (i ≤ j ∧ j < i + [Value.int .i64 x].length) := by omega
            rw [if_neg hcond, List.getElem?_append_left (by simp; omega)]
            exact (r0.drew.cell j hj2).symm
          · obtain rfl : j = i := by omega
            have hcond : j ≤ j ∧ j < j + [Value.int .i64 x].length := ⟨by omega, by simp⟩
            rw [if_pos hcond, List.getElem?_append_right (by simp; omega)]
            have hlen : ((zs.map (Value.int .i64)).take j).length = j := by simp; omega
            rw [hlen])
        rwa [Nat.zero_add] at this
      have hlen1 : ((zs.map (Value.int .i64)).drop i).length = zs.length - i := by simp
      have r2 : RowAt (((w.alloc (.cells C 3)).drew.setCells w.heap.size i [.int .i64 x]).drew.setCells w.heap.size (i + 1) ((zs.map (Value.int .i64)).drop i)) 3 1 (some ⟨w.heap.size, 0, none⟩) (zs.length + 1) G ((insAt zs i x).map (.int .i64)) := by
        have := setCells_rowAt (o := i + 1) (m := zs.length + 1) (vs := (zs.map (Value.int .i64)).drop i) (ys := (insAt zs i x).map (.int .i64)) r1.drew hyl (by omega) (one_ints _) (by omega) (fun j hj => by
          rw [hmap j]
          by_cases hj2 : j < i + 1
          · have hcond : ¬ (i + 1 ≤ j ∧ j < i + 1 + ((zs.map (Value.int .i64)).drop i).length) := by omega
            rw [if_neg hcond]
            have := r1.drew.cell j hj2
            rw [this]
            by_cases hj3 : j < i
            · rw [if_pos hj3, List.getElem?_append_left (by simp; omega), List.getElem?_take, if_pos hj3]
            · obtain rfl : j = i := by omega
              have hlen : ((zs.map (Value.int .i64)).take j).length = j := by simp; omega
              rw [if_neg hj3, if_pos rfl, List.getElem?_append_right (by omega), hlen]
              simp
          · have hcond : i + 1 ≤ j ∧ j < i + 1 + ((zs.map (Value.int .i64)).drop i).length := by omega
            rw [if_neg (by omega), if_neg (by omega), if_pos hcond, List.getElem?_drop]
            congr 1
            omega)
        rwa [Nat.zero_add] at this
      have b1 := ((Below.refl w.heap.size w).alloc (Nat.le_refl _) (.cells C 3)).drew
      have b2 := b1.trans ((setCells_upd w.heap.size [.int .i64 x] i _).below (B := w.heap.size) (by simp) (fun k hk => by omega))
      have b3 := b2.drew.trans ((setCells_upd w.heap.size ((zs.map (Value.int .i64)).drop i) (i + 1) _).below (B := w.heap.size) (by have := b2.size; exact this) (fun k hk => by omega))
      exact ⟨_, _, rfl, r2, Upd.of_below b3, .inr (fun ad he => by obtain rfl := Option.some.inj he; exact Nat.le_refl _)⟩
  · obtain ⟨ad, rfl⟩ : ∃ ad, a = some ad := by
      cases a with
      | none => have := h.nil rfl; omega
      | some ad => exact ⟨ad, rfl⟩
    obtain ⟨b, off, sp⟩ := ad
    obtain ⟨hsp, _⟩ := h.row _ rfl
    simp only at hsp
    subst hsp
    obtain ⟨cur, hg, hs, hsome, hfz⟩ := h.there
    have hu : ∀ {w'}, Upd (fun k => k = b) w w' → Upd (blk (some ⟨b, off, none⟩)) w w' := fun k => k.mono (fun _ _ e => ⟨_, rfl, e.symm⟩)
    by_cases hend : i = zs.length
    · subst hend
      have hd := Any2.slices_Insert_int_end_room layInsert b off zs.length cap vb 0 1 1 [.int .i64 x] w (by omega) (by omega) (by omega) rfl (fun j hj => by rw [Nat.add_assoc]; exact hsome _ (by omega)) (fun j hj => hfz _) hvs h1v
      refine Calls.mono (show Calls Try.prog 80 _ w _ from hd) ?_
      rintro e w' ⟨rfl, rfl⟩
      refine ⟨_, _, rfl, setCells_rowAt h hyl (by omega) (one_ints _) (by simp; omega) (fun j hj => ?_), hu (setCells_upd _ _ _ _), .inl rfl⟩
      rw [hmap j]
      by_cases hj2 : j < zs.length
      · rw [if_pos hj2, if_neg (by omega), h.cell j hj2]
      · obtain rfl : j = zs.length := by omega
        rw [if_neg hj2, if_pos rfl, if_pos ⟨by omega, by simp⟩]
        simp
    · have hin : i < zs.length := by omega
      have hd := Any2.slices_Insert_int_shift layInsert b off zs.length cap i vb 0 1 1 (zs.map (.int .i64)) [.int .i64 x] w hin (by omega) (by omega) (by omega) (fun e => hne _ rfl e.symm) (by simp) rfl
        (fun j v hj => by have hj' := (List.getElem?_eq_some_iff.1 hj).1; rw [h.cell j (by simpa using hj')]; exact hj) (fun j hj => hsome _ (by omega)) (fun j hj => hfz _) hvs (one_ints _) h1v 3 3 1 cur.size
        (by simp [World.shape?, hv]) (by simp [World.shape?, hg]) (by omega) (obj_free hv 0) (obj_free hv 1)
      refine Calls.mono (show Calls Try.prog 80 _ w _ from hd) ?_
      rintro e w' ⟨rfl, rfl⟩
      have hlen1 : ((zs.map (Value.int .i64)).drop i).length = zs.length - i := by simp
      have hrow1 : RowAt (w.drew.setCells b (off + (i + 1)) ((zs.map (Value.int .i64)).drop i)) 3 1 (some ⟨b, off, none⟩) zs.length cap (zs.map (.int .i64) |>.take (i + 1) |> (· ++ ((zs.map (Value.int .i64)).drop i).take (zs.length - (i + 1)))) := by
        refine setCells_rowAt (h.drew) (by simp; omega) hle (fun u hu => ?_) (by omega) (fun j hj => ?_)
        · rcases List.mem_append.1 hu with hu | hu
          · exact one_ints zs u (List.mem_of_mem_take hu)
          · exact one_ints zs u (List.mem_of_mem_drop (List.mem_of_mem_take hu))
        · by_cases hj2 : j < i + 1
          · rw [if_neg (by omega), List.getElem?_append_left (by simp; omega), List.getElem?_take, if_pos hj2]
            exact (h.drew.cell j hj).symm
          · rw [if_pos (by omega), List.getElem?_append_right (by simp; omega)]
            have : ((zs.map (Value.int .i64)).take (i + 1)).length = i + 1 := by simp; omega
            rw [this, List.getElem?_take, if_pos (by omega)]
      refine ⟨_, _, rfl, setCells_rowAt hrow1 hyl (by omega) (one_ints _) (by simp; omega) (fun j hj => ?_), hu ((Upd.drew (Upd.refl _ w)).trans (setCells_upd _ _ _ _) (fun _ _ h => h) |>.trans (setCells_upd _ _ _ _) (fun _ _ h => h)), .inl rfl⟩
      rw [hmap j]
      by_cases hji : j = i
      · subst hji
        rw [if_neg (by omega), if_pos rfl, if_pos ⟨by omega, by simp⟩]
        simp
      · have hcond : ¬ (i ≤ j ∧ j < i + [Value.int .i64 x].length) := by simp; omega
        rw [if_neg hcond]
        by_cases hj2 : j < i
        · rw [if_pos hj2]
          refine Eq.trans ?_ (World.cell?_setCells_out b _ _ _ _ (fun _ _ => by simp; omega)).symm
          exact (h.drew.cell j (by omega)).symm
        · rw [if_neg hj2, if_neg hji]
          have := World.cell?_setCells_in b ((zs.map (Value.int .i64)).drop i) (off + (i + 1)) w.drew (fun k hk => by rw [Nat.add_assoc]; exact hsome _ (by omega)) (j - (i + 1)) (by omega)
          rw [show off + (i + 1) + (j - (i + 1)) = off + j by omega] at this
          rw [this, ← List.getElem?_eq_getElem, List.getElem?_drop]
          congr 1
          omega
end Go.Proofs.Ytpbocficffbcbaa
