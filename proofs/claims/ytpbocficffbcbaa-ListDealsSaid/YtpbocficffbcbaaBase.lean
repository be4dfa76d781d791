/-
  Base lemmas of this family: slices read as lists of cells, worlds that agree outside a set of blocks, append. No program text; holds over any program.
-/
import Derived.WalkKit
import Derived.WalkLawsBesides
import Derived.WalkSpells
import Derived.BigQuiet
import Derived.Deep.QuietTactic
import Derived.Lib.Hide
import Derived.Outline
import Derived.WalkSmall
import Derived.Deep.RegionHeld3
namespace Go.Proofs.Ytpbocficffbcbaa
open Go Go.RowKit

/-! ### worlds that agree outside a set of blocks -/
/-- Outside the blocks S (and new ones) w' is as w was. -/
structure Upd (S : Nat → Prop) (w w' : World) : Prop where
  os : w'.os = w.os
  tape : w'.tape = w.tape
  output : w'.output = w.output
  size : w.heap.size ≤ w'.heap.size
  block : ∀ k, k < w.heap.size → ¬ S k → w'.heap[k]? = w.heap[k]?

def blk (a : Option Addr) (k : Nat) : Prop := ∃ ad, a = some ad ∧ ad.block = k
def Fresh (B : Nat) (a : Option Addr) : Prop := ∀ ad, a = some ad → B ≤ ad.block

theorem Upd.refl (S : Nat → Prop) (w : World) : Upd S w w := ⟨rfl, rfl, rfl, Nat.le_refl _, fun _ _ _ => rfl⟩
theorem Upd.trans {S T : Nat → Prop} {a b c : World} (h : Upd S a b) (k : Upd T b c) (hT : ∀ i, i < a.heap.size → T i → S i) : Upd S a c :=
  ⟨k.os.trans h.os, k.tape.trans h.tape, k.output.trans h.output, Nat.le_trans h.size k.size,
   fun i hi hs => (k.block i (Nat.lt_of_lt_of_le hi h.size) (fun ht => hs (hT i hi ht))).trans (h.block i hi hs)⟩
theorem Upd.mono {S T : Nat → Prop} {w w' : World} (h : Upd S w w') (hT : ∀ i, i < w.heap.size → S i → T i) : Upd T w w' :=
  ⟨h.os, h.tape, h.output, h.size, fun i hi ht => h.block i hi (fun hs => ht (hT i hi hs))⟩
theorem Upd.of_below {S : Nat → Prop} {w w' : World} (h : Below w.heap.size w w') : Upd S w w' := ⟨h.os, h.tape, h.output, h.size, fun k hk _ => h.block k hk⟩
theorem Upd.below {S : Nat → Prop} {w w' : World} (h : Upd S w w') {B : Nat} (hB : B ≤ w.heap.size) (hS : ∀ k, k < B → ¬ S k) : Below B w w' :=
  ⟨h.os, h.tape, h.output, h.size, fun k hk => h.block k (Nat.lt_of_lt_of_le hk hB) (hS k hk)⟩
theorem Upd.of_grown {w w' : World} {row : Option Nat} (h : w.grownBy w' row) : Upd (fun k => row = some k) w w' :=
  ⟨h.os, h.tape, h.output, h.size, fun k hk hn => h.block k hk (fun e => hn e.symm)⟩
theorem Upd.alloc {S : Nat → Prop} {a w : World} (h : Upd S a w) (o : Obj) : Upd S a (w.alloc o) :=
  h.trans (T := fun _ => False) (Upd.of_grown (w.grownBy_alloc o none) |>.mono (fun _ _ e => by cases e)) (fun _ _ f => f.elim)
theorem Upd.drew {S : Nat → Prop} {a w : World} (h : Upd S a w) : Upd S a w.drew := ⟨h.os, h.tape, h.output, h.size, h.block⟩
theorem Upd.setCell {S : Nat → Prop} {a w : World} (h : Upd S a w) (p : Addr) (hp : p.block < a.heap.size → S p.block) (u : Value) : Upd S a (w.setCell p u) :=
  h.trans (T := fun k => k = p.block) ⟨rfl, rfl, rfl, by simp, fun k _ hn => heap_setCell_other w p k u hn⟩ (fun i hi e => by rw [e]; exact hp (by omega))
theorem Upd.cell {S : Nat → Prop} {w w' : World} (h : Upd S w w') {p : Addr} (hp : p.block < w.heap.size) (hs : ¬ S p.block) : w'.cell? p = w.cell? p :=
  World.cell?_of_block (w := w) (h.block p.block hp hs)
theorem Upd.obj {S : Nat → Prop} {w w' : World} (h : Upd S w w') {k : Nat} {o : Obj} (ho : w.heap[k]? = some o) (hs : ¬ S k) : w'.heap[k]? = some o :=
  (h.block k (Array.getElem?_eq_some_iff.1 ho).1 hs).trans ho
theorem obj_lt {w : World} {k : Nat} {o : Obj} (ho : w.heap[k]? = some o) : k < w.heap.size := (Array.getElem?_eq_some_iff.1 ho).1
theorem below_obj {B : Nat} {w w' : World} (h : Below B w w') {k : Nat} {o : Obj} (ho : w.heap[k]? = some o) (hk : k < B) : w'.heap[k]? = some o := (h.block k hk).trans ho
theorem alloc_obj {w : World} {k : Nat} {o x : Obj} (ho : w.heap[k]? = some o) : (w.alloc x).heap[k]? = some o := (Below.heap_alloc w x k (obj_lt ho)).trans ho
theorem setCell_obj {w : World} {k : Nat} {o : Obj} {p : Addr} {u : Value} (ho : w.heap[k]? = some o) (hk : k ≠ p.block) : (w.setCell p u).heap[k]? = some o := (Below.heap_setCell w p u k hk).trans ho
theorem alloc_new (w : World) (x : Obj) : (w.alloc x).heap[w.heap.size]? = some x := Go.heap_alloc_new w x
theorem obj_cell {w : World} {k : Nat} {cs : Array Value} {t : TypeId} {fr : Nat × Nat} (h : w.heap[k]? = some (.cells cs t fr)) (j : Nat) : w.cell? ⟨k, j, none⟩ = cs[j]? := cell_of_row w k j cs t fr h
theorem obj_free {w : World} {k : Nat} {cs : Array Value} {t : TypeId} (h : w.heap[k]? = some (.cells cs t (0, 0))) (j : Nat) : w.frozen? ⟨k, j, none⟩ = false := frozen_of_row w k j cs t h
theorem obj_set {w : World} {k : Nat} {cs : Array Value} {t : TypeId} (h : w.heap[k]? = some (.cells cs t (0, 0))) (j : Nat) (u : Value) : (w.setCell ⟨k, j, none⟩ u).heap[k]? = some (.cells (cs.setIfInBounds j u) t (0, 0)) := Go.heap_setCell_same w k j cs t u h

theorem cell_alloc {w : World} {p : Addr} {v : Value} (h : w.cell? p = some v) (o : Obj) : (w.alloc o).cell? p = some v := (World.cell?_alloc_lt w o p (World.block_lt_of_cell? w p h)).trans h
theorem cell_set_other {w : World} {p q : Addr} {v u : Value} (h : w.cell? p = some v) (hne : p.block ≠ q.block) : (w.setCell q u).cell? p = some v :=
  (World.cell?_setCell_other w q p u (fun e => hne (by rw [e]))).trans h
theorem undrew {B : Nat} {w w' : World} (h : Below B w.drew w') : Below B w w' := ⟨h.os, h.tape, h.output, h.size, h.block⟩
theorem undrewN {B : Nat} {w w' : World} {n : Nat} (h : Below B (w.drewN n) w') : Below B w w' := ⟨h.os, h.tape, h.output, h.size, h.block⟩

/-! ### slices that are read -/
/-- The slice '.slice a n cap', elements of sz cells, reads as the cells xs. -/
structure SlAt (w : World) (sz : Nat) (a : Option Addr) (n cap : Nat) (xs : List Value) : Prop where
  len : xs.length = n * sz
  le : n ≤ cap
  max : cap ≤ maxLen
  nil : a = none → cap = 0
  one : ∀ u ∈ xs, u.oneCell' = true
  at_ : ∀ ad, a = some ad → 0 < n → ad.spot = none ∧ ad.block < w.heap.size ∧ ∀ j u, xs[j]? = some u → w.cell? ⟨ad.block, ad.off + j, none⟩ = some u

theorem SlAt.null (w : World) (sz : Nat) : SlAt w sz none 0 0 [] where
  len := by simp
  le := Nat.le_refl _
  max := Nat.zero_le _
  nil := fun _ => rfl
  one := by simp
  at_ := by simp
theorem SlAt.upd {S : Nat → Prop} {w w' : World} {sz n cap : Nat} {a : Option Addr} {xs : List Value} (h : SlAt w sz a n cap xs) (k : Upd S w w') (hs : ∀ ad, a = some ad → 0 < n → ¬ S ad.block) : SlAt w' sz a n cap xs where
  len := h.len
  le := h.le
  max := h.max
  nil := h.nil
  one := h.one
  at_ := fun ad he hn => by
    obtain ⟨hsp, hb, hc⟩ := h.at_ ad he hn
    exact ⟨hsp, Nat.lt_of_lt_of_le hb k.size, fun j u hu => (k.cell (p := ⟨ad.block, ad.off + j, none⟩) hb (hs ad he hn)).trans (hc j u hu)⟩
theorem SlAt.below {B : Nat} {w w' : World} {sz n cap : Nat} {a : Option Addr} {xs : List Value} (h : SlAt w sz a n cap xs) (k : Below B w w') (hB : ∀ ad, a = some ad → 0 < n → ad.block < B) : SlAt w' sz a n cap xs where
  len := h.len
  le := h.le
  max := h.max
  nil := h.nil
  one := h.one
  at_ := fun ad he hn => by
    obtain ⟨hsp, hb, hc⟩ := h.at_ ad he hn
    exact ⟨hsp, Nat.lt_of_lt_of_le hb k.size, fun j u hu => (k.cell (p := ⟨ad.block, ad.off + j, none⟩) (hB ad he hn)).trans (hc j u hu)⟩
theorem SlAt.all {w w' : World} {sz n cap : Nat} {a : Option Addr} {xs : List Value} (h : SlAt w sz a n cap xs) (k : Below w.heap.size w w') : SlAt w' sz a n cap xs :=
  h.below k (fun ad he hn => (h.at_ ad he hn).2.1)
theorem SlAt.alloc {w : World} {sz n cap : Nat} {a : Option Addr} {xs : List Value} (h : SlAt w sz a n cap xs) (o : Obj) : SlAt (w.alloc o) sz a n cap xs :=
  h.all ((Below.refl _ _).alloc (Nat.le_refl _) o)
theorem SlAt.lt {w : World} {sz n cap : Nat} {a : Option Addr} {xs : List Value} (h : SlAt w sz a n cap xs) : ∀ ad, a = some ad → 0 < n → ad.block < w.heap.size := fun ad he hn => (h.at_ ad he hn).2.1
theorem SlAt.drew {w : World} {sz n cap : Nat} {a : Option Addr} {xs : List Value} (h : SlAt w sz a n cap xs) : SlAt w.drew sz a n cap xs :=
  h.all (Below.refl _ _).drew
theorem SlAt.setCell {w : World} {sz n cap : Nat} {a : Option Addr} {xs : List Value} (h : SlAt w sz a n cap xs) (p : Addr) (hp : ∀ ad, a = some ad → 0 < n → ad.block ≠ p.block) (u : Value) : SlAt (w.setCell p u) sz a n cap xs :=
  h.upd (S := fun k => k = p.block) ⟨rfl, rfl, rfl, by simp, fun k _ hn => heap_setCell_other w p k u hn⟩ hp
theorem SlAt.news {w : World} {sz n cap : Nat} {ad : Addr} {xs : List Value} (h : SlAt w sz (some ad) n cap xs) : ∀ j u, xs[j]? = some u → w.cell? (ad.add j) = some u := by
  intro j u hu
  have hn : 0 < n := by
    rcases Nat.eq_zero_or_pos n with h0 | h0
    · subst h0
      obtain rfl : xs = [] := List.eq_nil_of_length_eq_zero (by simpa using h.len)
      simp at hu
    · exact h0
  obtain ⟨hsp, hb, hc⟩ := h.at_ ad rfl hn
  obtain ⟨b, off, sp⟩ := ad
  simp only at hsp
  subst hsp
  rw [Addr.add_lit]
  exact hc j u hu
theorem SlAt.nonempty {w : World} {sz n cap : Nat} {a : Option Addr} {xs : List Value} (h : SlAt w sz a n cap xs) (hn : 0 < n) : ∃ b off, a = some ⟨b, off, none⟩ ∧ b < w.heap.size ∧ ∀ j u, xs[j]? = some u → w.cell? ⟨b, off + j, none⟩ = some u := by
  cases a with
  | none => have := h.nil rfl; have := h.le; omega
  | some ad =>
    obtain ⟨hsp, hb, hc⟩ := h.at_ ad rfl hn
    obtain ⟨b, off, sp⟩ := ad
    simp only at hsp
    subst hsp
    exact ⟨b, off, rfl, hb, hc⟩
theorem SlAt.form {w : World} {sz n cap : Nat} {a : Option Addr} {xs : List Value} (h : SlAt w sz a n cap xs) : (a = none ∧ n = 0 ∧ cap = 0 ∧ xs = []) ∨ ∃ ad, a = some ad := by
  cases a with
  | none =>
    have hc := h.nil rfl
    have hl := h.le
    have hn : n = 0 := by omega
    subst hn
    exact .inl ⟨rfl, rfl, hc, List.eq_nil_of_length_eq_zero (by simpa using h.len)⟩
  | some ad => exact .inr ⟨ad, rfl⟩

/-! ### rows of the program's own -/
/-- The slice lies in a row of type e that is not frozen. -/
structure RowAt (w : World) (e : TypeId) (sz : Nat) (a : Option Addr) (n cap : Nat) (xs : List Value) : Prop where
  len : xs.length = n * sz
  le : n ≤ cap
  max : cap ≤ maxLen
  nil : a = none → cap = 0
  one : ∀ u ∈ xs, u.oneCell' = true
  row : ∀ ad, a = some ad → ad.spot = none ∧ ∃ cur, w.heap[ad.block]? = some (.cells cur e (0, 0)) ∧ ad.off + cap * sz ≤ cur.size ∧ (cur.toList.drop ad.off).take (n * sz) = xs

theorem RowAt.null (w : World) (e : TypeId) (sz : Nat) : RowAt w e sz none 0 0 [] where
  len := by simp
  le := Nat.le_refl _
  max := Nat.zero_le _
  nil := fun _ => rfl
  one := by simp
  row := by simp
theorem RowAt.sl {w : World} {e : TypeId} {sz n cap : Nat} {a : Option Addr} {xs : List Value} (h : RowAt w e sz a n cap xs) : SlAt w sz a n cap xs where
  len := h.len
  le := h.le
  max := h.max
  nil := h.nil
  one := h.one
  at_ := fun ad he _ => by
    obtain ⟨hsp, cur, hg, hfit, htake⟩ := h.row ad he
    refine ⟨hsp, obj_lt hg, fun j u hu => ?_⟩
    rw [obj_cell hg]
    rw [← htake, List.getElem?_take] at hu
    split at hu
    · simpa [List.getElem?_drop] using hu
    · cases hu
theorem RowAt.upd {S : Nat → Prop} {w w' : World} {e : TypeId} {sz n cap : Nat} {a : Option Addr} {xs : List Value} (h : RowAt w e sz a n cap xs) (k : Upd S w w') (hs : ∀ ad, a = some ad → ¬ S ad.block) : RowAt w' e sz a n cap xs where
  len := h.len
  le := h.le
  max := h.max
  nil := h.nil
  one := h.one
  row := fun ad he => by
    obtain ⟨hsp, cur, hg, hfit, htake⟩ := h.row ad he
    exact ⟨hsp, cur, k.obj hg (hs ad he), hfit, htake⟩
theorem RowAt.below {B : Nat} {w w' : World} {e : TypeId} {sz n cap : Nat} {a : Option Addr} {xs : List Value} (h : RowAt w e sz a n cap xs) (k : Below B w w') (hB : ∀ ad, a = some ad → ad.block < B) : RowAt w' e sz a n cap xs where
  len := h.len
  le := h.le
  max := h.max
  nil := h.nil
  one := h.one
  row := fun ad he => by
    obtain ⟨hsp, cur, hg, hfit, htake⟩ := h.row ad he
    exact ⟨hsp, cur, below_obj k hg (hB ad he), hfit, htake⟩
theorem RowAt.lt {w : World} {e : TypeId} {sz n cap : Nat} {a : Option Addr} {xs : List Value} (h : RowAt w e sz a n cap xs) : ∀ ad, a = some ad → ad.block < w.heap.size := fun ad he => by
  obtain ⟨_, cur, hg, _⟩ := h.row ad he
  exact obj_lt hg
theorem RowAt.all {w w' : World} {e : TypeId} {sz n cap : Nat} {a : Option Addr} {xs : List Value} (h : RowAt w e sz a n cap xs) (k : Below w.heap.size w w') : RowAt w' e sz a n cap xs := h.below k h.lt
theorem RowAt.alloc {w : World} {e : TypeId} {sz n cap : Nat} {a : Option Addr} {xs : List Value} (h : RowAt w e sz a n cap xs) (o : Obj) : RowAt (w.alloc o) e sz a n cap xs :=
  h.all ((Below.refl _ _).alloc (Nat.le_refl _) o)
theorem RowAt.drew {w : World} {e : TypeId} {sz n cap : Nat} {a : Option Addr} {xs : List Value} (h : RowAt w e sz a n cap xs) : RowAt w.drew e sz a n cap xs :=
  h.all (Below.refl _ _).drew
theorem RowAt.setCell {w : World} {e : TypeId} {sz n cap : Nat} {a : Option Addr} {xs : List Value} (h : RowAt w e sz a n cap xs) (p : Addr) (hp : ∀ ad, a = some ad → ad.block ≠ p.block) (u : Value) : RowAt (w.setCell p u) e sz a n cap xs :=
  h.upd (S := fun k => k = p.block) ⟨rfl, rfl, rfl, by simp, fun k _ hn => heap_setCell_other w p k u hn⟩ hp
/-- A new row, full. -/
theorem RowAt.lit (w : World) (cs : Array Value) (e : TypeId) (sz n : Nat) (hm : n ≤ maxLen) (hs : cs.size = n * sz) (h1 : ∀ u ∈ cs.toList, u.oneCell' = true) : RowAt (w.alloc (.cells cs e)) e sz (some ⟨w.heap.size, 0, none⟩) n n cs.toList where
  len := by simpa using hs
  le := Nat.le_refl _
  max := hm
  nil := by simp
  one := h1
  row := fun ad he => by
    obtain rfl := Option.some.inj he
    exact ⟨rfl, cs, alloc_new w _, by simp [hs], by rw [List.drop_zero, ← hs, ← Array.length_toList]; exact List.take_length⟩
theorem RowAt.of_own {w : World} {base : Nat} {e : TypeId} {sz n : Nat} {v : Value} {xs : List Value} (h : w.ownsRow base e sz v n xs) (h1 : ∀ u ∈ xs, u.oneCell' = true) : ∃ a cap, v = .slice a n cap ∧ RowAt w e sz a n cap xs ∧ Fresh base a := by
  obtain ⟨hl, h⟩ := h
  rcases h with ⟨rfl, rfl⟩ | ⟨g, cap, cur, rfl, hbg, hg, hnc, hcm, hcs, htake⟩
  · obtain rfl : xs = [] := List.eq_nil_of_length_eq_zero (by simpa using hl)
    exact ⟨none, 0, rfl, RowAt.null _ _ _, fun ad he => by cases he⟩
  · refine ⟨some ⟨g, 0, none⟩, cap, rfl, ⟨hl, hnc, hcm, by simp, h1, fun ad he => ?_⟩, fun ad he => ?_⟩
    · obtain rfl := Option.some.inj he
      exact ⟨rfl, cur, hg, by simp [hcs], by simpa using htake⟩
    · obtain rfl := Option.some.inj he
      exact hbg

/-! ### append -/
theorem run_append_rs {P : Program} (w : World) (t ty e : TypeId) (z : Value) (size bytes : Nat) (ht : P.underlying t = some (.slice e))
    (hinf : (P.info? e).map (fun i => (i.zero, i.size, i.bytes)) = some (some z, size, bytes)) (hzs : z.cells.size = size) (hsz : 0 < size)
    (sa : Option Addr) (n scap : Nat) (xs : List Value) (hr : RowAt w e size sa n scap xs) (xa : Option Addr) (m c : Nat) (news : List Value) (hx : SlAt w size xa m c news)
    (h63 : n + m ≤ maxLen) (hbytes : (n + m) * bytes ≤ 140737488355328) :
    ∃ a' cap' w', (Builtin.append_ #[t, t] ty #[.slice sa n scap, .slice xa m c]).run P w = .ok (.slice a' (n + m) cap') w' ∧ RowAt w' e size a' (n + m) cap' (xs ++ news) ∧ Upd (blk sa) w w' ∧
      (∀ ad, a' = some ad → sa = some ad ∨ w.heap.size ≤ ad.block) ∧ (a' = none ↔ sa = none ∧ m = 0) := by
  obtain ⟨i, hi, hz, hsize, hby⟩ := info_parts hinf
  have hone : ∀ u ∈ xs ++ news, u.oneCell' = true := fun u hu => (List.mem_append.1 hu).elim (hr.one u) (hx.one u)
  by_cases hm : m = 0
  · subst hm
    obtain rfl : news = [] := List.eq_nil_of_length_eq_zero (by simpa using hx.len)
    refine ⟨sa, scap, w, ?_, by simpa using hr, Upd.refl _ _, fun ad he => .inl he, by simp⟩
    have hle := hr.le
    rcases hx.form with ⟨rfl, _, rfl, _⟩ | ⟨xd, rfl⟩
    · cases sa with
      | none => simp [Builtin.append_, run_underlying ht, sizeOf, typeInfo, hi, Builtin.lenOf, Builtin.firstCells, hle]
      | some ad => simp [Builtin.append_, run_underlying ht, sizeOf, typeInfo, hi, Builtin.lenOf, Builtin.firstCells, hle, storeCells]
    · have hld := run_loadCells_list (P := P) w xd [] (by simp)
      cases sa with
      | none => simp [Builtin.append_, run_underlying ht, sizeOf, typeInfo, hi, Builtin.lenOf, Builtin.firstCells, hle, loadCells, loadCellsFrom]
      | some ad => simp [Builtin.append_, run_underlying ht, sizeOf, typeInfo, hi, Builtin.lenOf, Builtin.firstCells, hle, storeCells, loadCells, loadCellsFrom]
  · obtain ⟨xb, xo, rfl, hxb, hxc⟩ := hx.nonempty (by omega)
    have hnews := hx.news
    by_cases hroom : n + m ≤ scap
    · cases sa with
      | none => have := hr.nil rfl; omega
      | some ad =>
        obtain ⟨hsp, cur, hg, hfit, htake⟩ := hr.row ad rfl
        obtain ⟨g, off, sp⟩ := ad
        simp only at hsp hg hfit htake
        subst hsp
        have hf := run_firstCells_some (P := P) w i.size m ⟨xb, xo, none⟩ m c news (by rw [hsize]; exact hx.len) hnews
        have hlen : n * size + news.length = (n + m) * size := by rw [hx.len, Nat.add_mul]
        have hle' : off + n * size + news.length ≤ cur.size := by
          have := Nat.mul_le_mul_right size hroom
          omega
        have hst := run_storeCells_at P g (off + n * i.size) e news 0 cur w hg (by rw [hsize]; simpa using hle') hx.one
        simp only [Nat.add_zero] at hst
        refine ⟨some ⟨g, off, none⟩, scap, w.setRow g (cur.toList.take (off + n * i.size) ++ news ++ cur.toList.drop (off + n * i.size + news.length)).toArray, ?_, ⟨by simp [hr.len, hx.len, Nat.add_mul], hroom, hr.max, by simp, hone, fun ad he => ?_⟩, ⟨rfl, rfl, rfl, by simp, fun k _ hk => setRow_other w g k _ (fun e => hk ⟨_, rfl, e.symm⟩)⟩, fun ad he => .inl he, by simp⟩
        · simp [Builtin.append_, run_underlying ht, sizeOf, typeInfo, hi, Builtin.lenOf, hroom, hf, Addr.add_lit, hst]
        · obtain rfl := Option.some.inj he
          refine ⟨rfl, _, setRow_heap w g cur _ e _ hg, ?_, ?_⟩
          · simp only [List.size_toArray, List.length_append, List.length_take, List.length_drop, Array.length_toList]
            rw [hsize]
            omega
          · simp only [hsize]
            have e1 : (cur.toList.take (off + n * size)).length = off + n * size := by
              rw [List.length_take, Array.length_toList]
              omega
            have hxs : (cur.toList.take (off + n * size)).drop off = xs := by
              rw [List.drop_take, ← htake]
              congr 1
              omega
            rw [List.append_assoc, List.drop_append_of_le_length (by rw [e1]; omega), hxs, ← List.append_assoc, List.take_append_of_le_length (by simp [hr.len, hx.len, Nat.add_mul]), List.take_of_length_le (by simp [hr.len, hx.len, Nat.add_mul])]
    · obtain ⟨v', w', hrun, hown, hgr⟩ : ∃ v' w', (Builtin.append_ #[t, t] ty #[.slice sa n scap, .slice (some ⟨xb, xo, none⟩) m c]).run P w = .ok v' w' ∧ w'.ownsRow w.heap.size e size v' (n + m) (xs ++ news) ∧ w.grownBy w' none := by
        cases sa with
        | some b => exact run_append_arg_grows (P := P) w t ty e i z size bytes ht hi hz hsize hby hzs hsz b n scap xs hr.len hr.sl.news ⟨xb, xo, none⟩ m c news hx.len hnews (by omega) h63 hbytes
        | none =>
          have hc0 := hr.nil rfl
          have hle := hr.le
          obtain rfl : scap = 0 := hc0
          obtain rfl : n = 0 := by omega
          obtain rfl : xs = [] := List.eq_nil_of_length_eq_zero (by simpa using hr.len)
          obtain ⟨v', w', h1, h2, h3, _⟩ := run_append_own (P := P) w w.heap.size t ty e i z size bytes ht hi hz hsize hby hzs hsz (.slice none 0 0) 0 [] (World.ownsRow_nil w _ e size) ⟨xb, xo, none⟩ m c news hx.len hnews hx.one h63 hbytes (Nat.le_refl _)
          exact ⟨v', w', h1, h2, h3⟩
      obtain ⟨a', cap', rfl, hrow, hfr⟩ := RowAt.of_own hown hone
      refine ⟨a', cap', w', hrun, hrow, (Upd.of_grown hgr).mono (fun _ _ h => by cases h), fun ad he => .inr (hfr ad he), ?_⟩
      constructor
      · intro hn
        have := hrow.nil hn
        have := hrow.le
        omega
      · rintro ⟨_, h0⟩
        exact absurd h0 hm

/-- The walk's law for 'append(s, x...)'. -/
theorem wp_append {P : Program} {w : World} {ops : Array Oper} {rest : List Oper} {o : Oper} {a : Act} {Q : Exit → Act → World → Prop} (hgd : o.guard = none) (s x : Operand) (t : TypeId)
    (ho : o.op = .call { callee := .builtin .append, args := #[s, x], argTypes := #[t, t] }) (e : TypeId) (z : Value) (size bytes : Nat) (ht : P.underlying t = some (.slice e))
    (hinf : (P.info? e).map (fun i => (i.zero, i.size, i.bytes)) = some (some z, size, bytes)) (hzs : z.cells.size = size) (hsz : 0 < size)
    {sa : Option Addr} {n scap : Nat} (hs : a.eval s = .slice sa n scap) {xa : Option Addr} {m c : Nat} (hx : a.eval x = .slice xa m c) {xs : List Value} (hr : RowAt w e size sa n scap xs) {news : List Value} (hxs : SlAt w size xa m c news)
    (h63 : n + m ≤ maxLen) (hbytes : (n + m) * bytes ≤ 140737488355328)
    (h : ∀ a' cap' w', RowAt w' e size a' (n + m) cap' (xs ++ news) → Upd (blk sa) w w' → (∀ ad, a' = some ad → sa = some ad ∨ w.heap.size ≤ ad.block) → (a' = none ↔ sa = none ∧ m = 0) → wpList P ops Q rest (a.put o.dst (.slice a' (n + m) cap')) w') : wpList P ops Q (o :: rest) a w := by
  refine wpList_plain hgd fun K hK => ?_
  obtain ⟨a', cap', w', hrun, h1, h2, h3, h4⟩ := run_append_rs (P := P) w t o.type e z size bytes ht hinf hzs hsz sa n scap xs hr xa m c news hxs h63 hbytes
  unfold Oper.wp
  simp [execOp, ho, resolve, invoke, builtin, hs, hx, hrun, Result.andThen]
  exact hK _ _ (h a' cap' w' h1 h2 h3 h4)

/-! ### what is fresh -/
theorem Fresh.step {B : Nat} {w : World} {ba ba' : Option Addr} (h : Fresh B ba) (hB : B ≤ w.heap.size) (hloc : ∀ ad, ba' = some ad → ba = some ad ∨ w.heap.size ≤ ad.block) : Fresh B ba' := fun ad he =>
  (hloc ad he).elim (fun h' => h ad h') (fun h' => Nat.le_trans hB h')
theorem Fresh.mono {B C : Nat} {ba : Option Addr} (h : Fresh B ba) (hC : C ≤ B) : Fresh C ba := fun ad he => Nat.le_trans hC (h ad he)
theorem fresh_new {B n : Nat} (h : B ≤ n) : Fresh B (some ⟨n, 0, none⟩) := fun ad he => by
  obtain rfl := Option.some.inj he
  exact h
theorem fresh_none {B : Nat} : Fresh B none := fun ad he => by cases he
theorem appendBelow {B : Nat} {w w' : World} {sa : Option Addr} (hf : Fresh B sa) (hB : B ≤ w.heap.size) (h : Upd (blk sa) w w') : Below B w w' :=
  h.below hB (fun k hk hb => by
    obtain ⟨ad, he, rfl⟩ := hb
    have := hf ad he
    omega)
end Go.Proofs.Ytpbocficffbcbaa
