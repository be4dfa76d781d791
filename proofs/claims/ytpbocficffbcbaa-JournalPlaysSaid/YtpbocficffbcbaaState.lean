import Derived.Test.YtpbocficffbcbaaRow
import Derived.Test.YtpbocficffbcbaaClone
import Derived.Test.YtpbocficffbcbaaInts
import Derived.Test.YtpbocficffbcbaaEvs
namespace Go.Proofs.Ytpbocficffbcbaa
open Go Go.RowKit
set_option linter.unusedVariables false

/-- A state: its objects (18 numbers each), its eleven lists, its players' and its game's 25 numbers. -/
structure St where
  o : List (List Int)
  l : List (List Int)
  p : List Int
structure StOk (s : St) : Prop where
  o : ∀ x ∈ s.o, x.length = 18
  l : s.l.length = 11
  p : s.p.length = 25
def objC (x : List Int) : List Value := x.map (.int .i64)
abbrev objs (l : List (List Int)) : List Value := l.flatMap objC

/-- The number of cells of an element, its type, the cells: of the twelve slices. -/
def szOf (i : Nat) : Nat := if i = 0 then 18 else 1
def tyOf (i : Nat) : TypeId := if i = 0 then 108 else 3
def lenOf (s : St) (i : Nat) : Nat := if i = 0 then s.o.length else (s.l.getD (i - 1) []).length
def rowOf (s : St) (i : Nat) : List Value := if i = 0 then objs s.o else (s.l.getD (i - 1) []).map (.int .i64)
theorem rowOf_len {s : St} (ok : StOk s) (i : Nat) : (rowOf s i).length = lenOf s i * szOf i := by
  unfold rowOf lenOf szOf
  split
  · have h : ∀ (l : List (List Int)), (∀ x ∈ l, x.length = 18) → (objs l).length = l.length * 18 := by
      intro l
      induction l with
      | nil => simp
      | cons a l ih =>
        intro h
        have h1 := ih (fun x hx => h x (by simp [hx]))
        have h2 := h a (by simp)
        simp only [objs, List.flatMap_cons, List.length_append] at h1 ⊢
        rw [h1]
        simp [objC, h2, Nat.add_mul, Nat.add_comm]
    exact h s.o ok.o
  · simp

/-- The 37 cells cs of a state s; its slices are read. -/
structure StC (w : World) (cs : Array Value) (s : St) : Prop where
  size : cs.size = 37
  sl : ∀ i, i < 12 → ∃ a c, cs[i]? = some (.slice a (lenOf s i) c) ∧ SlAt w (szOf i) a (lenOf s i) c (rowOf s i)
  num : ∀ j, j < 25 → cs[12 + j]? = some (.int .i64 (s.p.getD j 0))
theorem StC.upd {S : Nat → Prop} {w w' : World} {cs : Array Value} {s : St} (h : StC w cs s) (k : Upd S w w') (hs : ∀ i a c, i < 12 → cs[i]? = some (.slice a (lenOf s i) c) → ∀ ad, a = some ad → 0 < lenOf s i → ¬ S ad.block) : StC w' cs s :=
  ⟨h.size, fun i hi => by
    obtain ⟨a, c, h1, h2⟩ := h.sl i hi
    exact ⟨a, c, h1, h2.upd k (hs i a c hi h1)⟩, h.num⟩
theorem StC.all {w w' : World} {cs : Array Value} {s : St} (h : StC w cs s) (k : Below w.heap.size w w') : StC w' cs s :=
  ⟨h.size, fun i hi => by
    obtain ⟨a, c, h1, h2⟩ := h.sl i hi
    exact ⟨a, c, h1, h2.all k⟩, h.num⟩

/-- Its slices are the call's own, each in a row of its own. -/
structure StO (B : Nat) (w : World) (cs : Array Value) (s : St) : Prop where
  size : cs.size = 37
  sl : ∀ i, i < 12 → ∃ a c, cs[i]? = some (.slice a (lenOf s i) c) ∧ RowAt w (tyOf i) (szOf i) a (lenOf s i) c (rowOf s i) ∧ Fresh B a
  dis : ∀ i j a b n m c d, i < 12 → j < 12 → i ≠ j → cs[i]? = some (.slice a n c) → cs[j]? = some (.slice b m d) → ∀ x y, a = some x → b = some y → x.block ≠ y.block
  num : ∀ j, j < 25 → cs[12 + j]? = some (.int .i64 (s.p.getD j 0))
theorem StO.c {B : Nat} {w : World} {cs : Array Value} {s : St} (h : StO B w cs s) : StC w cs s :=
  ⟨h.size, fun i hi => by
    obtain ⟨a, c, h1, h2, _⟩ := h.sl i hi
    exact ⟨a, c, h1, h2.sl⟩, h.num⟩
theorem StO.all {B : Nat} {w w' : World} {cs : Array Value} {s : St} (h : StO B w cs s) (k : Below w.heap.size w w') : StO B w' cs s :=
  ⟨h.size, fun i hi => by
    obtain ⟨a, c, h1, h2, h3⟩ := h.sl i hi
    exact ⟨a, c, h1, h2.all k, h3⟩, h.dis, h.num⟩
theorem StC.one {w : World} {cs : Array Value} {s : St} (h : StC w cs s) : cs.all (·.oneCell') = true := by
  rw [Array.all_eq_true]
  intro i hi
  have h37 := h.size
  by_cases h12 : i < 12
  · obtain ⟨a, c, h1, _⟩ := h.sl i h12
    rw [Array.getElem?_eq_getElem hi] at h1
    rw [Option.some.inj h1]
    rfl
  · have := h.num (i - 12) (by omega)
    rw [show 12 + (i - 12) = i by omega, Array.getElem?_eq_getElem hi] at this
    rw [Option.some.inj this]
    rfl

theorem Try.infoObj : (Try.prog.info? 108).map (fun i => (i.zero, i.size, i.bytes)) = some (some (.agg #[.int .i64 0, .int .i64 0, .int .i64 0, .int .i64 0, .int .i64 0, .int .i64 0, .int .i64 0, .int .i64 0, .int .i64 0, .int .i64 0, .int .i64 0, .int .i64 0, .int .i64 0, .int .i64 0, .int .i64 0, .int .i64 0, .int .i64 0, .int .i64 0]), 18, 144) := by kernel_rfl
theorem Try.sizeSt : (Try.prog.info? 79).map (·.size) = some 37 := by kernel_rfl
abbrev zObj : Value := .agg #[.int .i64 0, .int .i64 0, .int .i64 0, .int .i64 0, .int .i64 0, .int .i64 0, .int .i64 0, .int .i64 0, .int .i64 0, .int .i64 0, .int .i64 0, .int .i64 0, .int .i64 0, .int .i64 0, .int .i64 0, .int .i64 0, .int .i64 0, .int .i64 0]

set_option maxHeartbeats 400000 in
theorem cloneObjs (w : World) (a : Option Addr) (n cap : Nat) (xs : List Value) (hx : SlAt w 18 a n cap xs) (hb : n * 144 ≤ 140737488355328) :
    Calls Try.prog 98 #[.slice a n cap] w (NewRow w 108 18 n (a = none) xs) := by
  have q : ∀ (w : World) (a : Option Addr) (n c n' c' : Nat), (binOp .eql 73 (.slice a n c) (.slice none n' c')).run Try.prog w = .ok (.bool a.isNone) w := fun w a n c n' c' => Lib.run_eql_slice_nil w _ _ a n c n' c' Try.underlying73
  rcases hx.form with ⟨rfl, rfl, rfl, rfl⟩ | ⟨ad, rfl⟩
  · go_enter Try.func98, Try.ntmps98
    go_wp2_with fail
    go_ret
    exact ⟨none, 0, rfl, RowAt.null _ _ _, (fun ad he => by cases he), Below.refl _ _, by simp⟩
  · go_enter Try.func98, Try.ntmps98
    go_wp2_with (at_builtin; refine wp_append rfl (.tmp 5) (.tmp 6) 73 rfl 108 zObj 18 144 Try.underlying73 Try.infoObj rfl (by decide) rfl rfl (RowAt.lit w #[] _ 18 0 (Nat.zero_le _) rfl (by simp)) (hx.alloc _) (by have := hx.le; have := hx.max; omega) (by omega) ?_; intro a' cap' w' hrow hupd hloc hnil; simp only [Nat.zero_add, List.nil_append] at hrow)
    go_ret
    refine ⟨a', cap', rfl, hrow, fun ad he => ?_, ?_, ?_⟩
    · rcases hloc ad he with h | h
      · obtain rfl := Option.some.inj h
        exact Nat.le_refl _
      · simp at h
        omega
    · exact ((Below.refl _ w).alloc (Nat.le_refl _) _).trans (hupd.below (by simp) (fun k hk => by rintro ⟨ad, he, rfl⟩; obtain rfl := Option.some.inj he; simp at hk))
    · rw [hnil]
      simp
end Go.Proofs.Ytpbocficffbcbaa
