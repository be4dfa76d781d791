import Derived.Test.YtfphjokijanahaaDoorLedger
namespace Go.Proofs.YtfphjokijanahaaDoor
open Go Go.RowKit
set_option linter.unusedVariables false

/-! ### the plain model -/
structure Ent where
  p : Int
  k : Int
  t : Int
  l : Int
deriving DecidableEq
def entC (e : Ent) : List Value := [.int .i64 e.p, .int .i64 e.k, .int .i64 e.t, .int .i64 e.l]
def cntk (es : List Ent) (p k : Int) : Int := (es.filter fun e => e.p == p && e.k == k).length
def worst (es : List Ent) (p : Int) : Int := es.foldl (fun a e => if e.p = p then max a e.l else a) (-1)
def base (k : Int) : Int := if k = 2 ∨ k = 3 then 1 else if k = 4 then 2 else if k = 5 then 3 else 0
def levOf (k c wp : Int) : Int :=
  if (if (k = 2 ∨ k = 3) ∧ c % 3 = 0 then 2 else base k) = 2 ∧ 2 ≤ wp then 3 else (if (k = 2 ∨ k = 3) ∧ c % 3 = 0 then 2 else base k)
def addLev (es : List Ent) (p k : Int) : Int := levOf k (cntk es p k + 1) (worst es p)
def addErr (es : List Ent) (p k t : Int) : Int := if (p ≠ 0 ∧ p ≠ 1) ∨ t < 0 then 1 else if k < 0 ∨ 6 ≤ k then 6 else if 1000 ≤ es.length then 5 else 0
def addNext (es : List Ent) (p k t : Int) : List Ent := if addErr es p k t = 0 then es ++ [⟨p, k, t, addLev es p k⟩] else es

/-! ### the table of kinds -/
def kname : Nat → List UInt8
  | 0 => [115, 108, 111, 112, 112, 121] | 1 => [116, 114, 105, 103, 103, 101, 114] | 2 => [114, 117, 108, 101] | 3 => [99, 97, 114, 100] | 4 => [108, 97, 116, 101] | 5 => [99, 104, 101, 97, 116] | _ => []
def kbase : Nat → Int
  | 2 => 1 | 3 => 1 | 4 => 2 | 5 => 3 | _ => 0
def kup : Nat → Bool
  | 2 => true | 3 => true | _ => false
structure KindsAt (w : World) : Prop where
  name : ∀ i, i < 6 → ∃ s : ByteArray, w.cell? ⟨0, i * 3, none⟩ = some (.string s) ∧ s.data.toList = kname i
  lev : ∀ i, i < 6 → w.cell? ⟨0, i * 3 + 1, none⟩ = some (.int .i64 (kbase i))
  up : ∀ i, i < 6 → w.cell? ⟨0, i * 3 + 2, none⟩ = some (.bool (kup i))
theorem KindsAt.upd {S : Nat → Prop} {w w' : World} (h : KindsAt w) (k : Upd S w w') (hs : ¬ S 0) : KindsAt w' := by
  have hlt : 0 < w.heap.size := World.block_lt_of_cell? w _ (h.lev 0 (by omega))
  refine ⟨fun i hi => ?_, fun i hi => ?_, fun i hi => ?_⟩
  · obtain ⟨s, h1, h2⟩ := h.name i hi
    exact ⟨s, (k.cell (p := ⟨0, i * 3, none⟩) hlt hs).trans h1, h2⟩
  · exact (k.cell (p := ⟨0, i * 3 + 1, none⟩) hlt hs).trans (h.lev i hi)
  · exact (k.cell (p := ⟨0, i * 3 + 2, none⟩) hlt hs).trans (h.up i hi)
theorem KindsAt.pos {w : World} (h : KindsAt w) : 0 < w.heap.size := World.block_lt_of_cell? w _ (h.lev 0 (by omega))
theorem KindsAt.below {w w' : World} {B : Nat} (h : KindsAt w) (k : Below B w w') (hB : 0 < B) : KindsAt w' :=
  h.upd (S := fun k => B ≤ k) ⟨k.os, k.tape, k.output, k.size, fun i _ hn => k.block i (by omega)⟩ (by omega)

theorem cells_at {α : Type} (f : α → List Value) (n : Nat) (hn : ∀ a, (f a).length = n) : ∀ (l : List α) (i j : Nat) (d : α), i < l.length → j < n → (l.flatMap f)[i * n + j]? = (f (l.getD i d))[j]?
  | [], i, j, d, hi, _ => by simp at hi
  | a :: l, 0, j, d, hi, hj => by
    simp only [List.flatMap_cons, Nat.zero_mul, Nat.zero_add]
    rw [List.getElem?_append_left (by rw [hn]; exact hj)]
    simp
  | a :: l, i + 1, j, d, hi, hj => by
    simp only [List.flatMap_cons]
    rw [List.getElem?_append_right (by rw [hn, Nat.add_mul]; omega), hn, show (i + 1) * n + j - n = i * n + j by rw [Nat.add_mul]; omega, cells_at f n hn l i j d (by simpa using hi) hj]
    simp
theorem cells_len {α : Type} (f : α → List Value) (n : Nat) (hn : ∀ a, (f a).length = n) (l : List α) : (l.flatMap f).length = l.length * n := by
  induction l with
  | nil => simp
  | cons a l ih => simp [hn, ih, Nat.add_mul, Nat.add_comm]

theorem look_run {w : World} {br : Nat} {m : List ((Int × Int) × Int)} {p k c : Int} (hm : MapIs w br kcv icv m) (hc : look m (p, k) 0 = c) :
    (Instr.lookup 53 (.map (some br)) (.agg #[.int .i64 p, .int .i64 k]) false).run Tryd.prog w = .ok (.int .i64 c) w := by
  have h := run_lookup_is keyLaw Tryd.underlying53 hm (z := .int .i64 0) (fun w => by kernel_rfl) (p, k)
  rw [show kcv (p, k) = .agg #[.int .i64 p, .int .i64 k] from rfl] at h
  rw [h]
  subst hc
  unfold look icv
  cases fnd (p, k) m 0 <;> rfl

set_option maxRecDepth 100000 in
set_option maxHeartbeats 1000000 in
theorem level_0_0 (w : World) (bl br : Nat) (v0 : Value) (w0 w1 : Int) (m : List ((Int × Int) × Int)) (c : Int) (hk : KindsAt w)
    (ho : w.heap[bl]? = some (.cells #[v0, .map (some br), .int .i64 w0, .int .i64 w1] 56 (0, 0))) (hm : MapIs w br kcv icv m) (hc : look m (0, 0) 0 = c) (hc0 : 0 ≤ c) (hc1 : c ≤ 2000) :
    Calls Tryd.prog 23 #[.pointer (some ⟨bl, 0, none⟩), .agg #[.int .i64 0, .int .i64 0]] w (fun e w' => e = .returned (.int .i64 (levOf 0 c w0)) ∧ Below w.heap.size w w') := by
  have hz := hk.pos
  have hzl := obj_lt ho
  have hzr := obj_lt hm
  have y1 := obj_cell ho 1
  have y2 := obj_cell ho 2
  have y3 := obj_cell ho 3
  simp at y1 y2 y3
  obtain ⟨s, n0, _⟩ := hk.name 0 (by omega)
  have n1 := hk.lev 0 (by omega)
  have n2 := hk.up 0 (by omega)
  simp [kbase, kup] at n0 n1 n2
  have hl := fun n => look_run (w := ((w.alloc (.cells #[.int .i64 0, .int .i64 0] 59)).alloc (.cells #[.string s, .int .i64 0, .bool false] 66)).drewN n) (show MapIs _ br kcv icv m from alloc_obj (alloc_obj hm)) hc
  clear hc
  have hr := Lib.hid (show levOf 0 c w0 = 0 by simp [levOf, base])
  go_enter Tryd.func23, Tryd.ntmps23
  go_wp2_with fail
  go_quiet (fail)
  go_wp2_with fail
  go_quiet (fail)
  go_wp2_with fail
  go_ret
  exact ⟨by rw [hr.out]; rfl, below_drewN (below_drewN (((Below.refl w.heap.size w).alloc (Nat.le_refl _) _).alloc (by simp) _) _) _⟩

set_option maxRecDepth 100000 in
set_option maxHeartbeats 1000000 in
theorem level_0_1 (w : World) (bl br : Nat) (v0 : Value) (w0 w1 : Int) (m : List ((Int × Int) × Int)) (c : Int) (hk : KindsAt w)
    (ho : w.heap[bl]? = some (.cells #[v0, .map (some br), .int .i64 w0, .int .i64 w1] 56 (0, 0))) (hm : MapIs w br kcv icv m) (hc : look m (0, 1) 0 = c) (hc0 : 0 ≤ c) (hc1 : c ≤ 2000) :
    Calls Tryd.prog 23 #[.pointer (some ⟨bl, 0, none⟩), .agg #[.int .i64 0, .int .i64 1]] w (fun e w' => e = .returned (.int .i64 (levOf 1 c w0)) ∧ Below w.heap.size w w') := by
  have hz := hk.pos
  have hzl := obj_lt ho
  have hzr := obj_lt hm
  have y1 := obj_cell ho 1
  have y2 := obj_cell ho 2
  have y3 := obj_cell ho 3
  simp at y1 y2 y3
  obtain ⟨s, n0, _⟩ := hk.name 1 (by omega)
  have n1 := hk.lev 1 (by omega)
  have n2 := hk.up 1 (by omega)
  simp [kbase, kup] at n0 n1 n2
  have hl := fun n => look_run (w := ((w.alloc (.cells #[.int .i64 0, .int .i64 1] 59)).alloc (.cells #[.string s, .int .i64 0, .bool false] 66)).drewN n) (show MapIs _ br kcv icv m from alloc_obj (alloc_obj hm)) hc
  clear hc
  have hr := Lib.hid (show levOf 1 c w0 = 0 by simp [levOf, base])
  go_enter Tryd.func23, Tryd.ntmps23
  go_wp2_with fail
  go_quiet (fail)
  go_wp2_with fail
  go_quiet (fail)
  go_wp2_with fail
  go_ret
  exact ⟨by rw [hr.out]; rfl, below_drewN (below_drewN (((Below.refl w.heap.size w).alloc (Nat.le_refl _) _).alloc (by simp) _) _) _⟩

set_option maxRecDepth 100000 in
set_option maxHeartbeats 1000000 in
theorem level_0_2 (w : World) (bl br : Nat) (v0 : Value) (w0 w1 : Int) (m : List ((Int × Int) × Int)) (c : Int) (hk : KindsAt w)
    (ho : w.heap[bl]? = some (.cells #[v0, .map (some br), .int .i64 w0, .int .i64 w1] 56 (0, 0))) (hm : MapIs w br kcv icv m) (hc : look m (0, 2) 0 = c) (hc0 : 0 ≤ c) (hc1 : c ≤ 2000) :
    Calls Tryd.prog 23 #[.pointer (some ⟨bl, 0, none⟩), .agg #[.int .i64 0, .int .i64 2]] w (fun e w' => e = .returned (.int .i64 (levOf 2 c w0)) ∧ Below w.heap.size w w') := by
  have hz := hk.pos
  have hzl := obj_lt ho
  have hzr := obj_lt hm
  have y1 := obj_cell ho 1
  have y2 := obj_cell ho 2
  have y3 := obj_cell ho 3
  simp at y1 y2 y3
  obtain ⟨s, n0, _⟩ := hk.name 2 (by omega)
  have n1 := hk.lev 2 (by omega)
  have n2 := hk.up 2 (by omega)
  simp [kbase, kup] at n0 n1 n2
  have hl := fun n => look_run (w := ((w.alloc (.cells #[.int .i64 0, .int .i64 2] 59)).alloc (.cells #[.string s, .int .i64 1, .bool true] 66)).drewN n) (show MapIs _ br kcv icv m from alloc_obj (alloc_obj hm)) hc
  clear hc
  by_cases h3 : c % 3 = 0
  · have hq : (c % 3 == 0) = true := by simp [h3]
    have H3 := Lib.hid h3
    clear h3
    by_cases hw : 2 ≤ w0
    · have hr := Lib.hid (show levOf 2 c w0 = 3 by simp [levOf, hw, H3.out])
      go_enter Tryd.func23, Tryd.ntmps23
      go_wp2_with fail
      go_quiet (fail)
      go_wp2_with fail
      go_quiet (fail)
      go_wp2_with fail
      go_ret
      exact ⟨by rw [hr.out]; rfl, below_drewN (below_drewN (((Below.refl w.heap.size w).alloc (Nat.le_refl _) _).alloc (by simp) _) _) _⟩
    · have hr := Lib.hid (show levOf 2 c w0 = 2 by simp [levOf, hw, H3.out])
      have hwd : decide (2 ≤ w0) = false := by simpa using hw
      go_enter Tryd.func23, Tryd.ntmps23
      go_wp2_with fail
      go_quiet (fail)
      go_wp2_with fail
      go_quiet (fail)
      go_wp2_with fail
      go_ret
      exact ⟨by rw [hr.out]; rfl, below_drewN (below_drewN (((Below.refl w.heap.size w).alloc (Nat.le_refl _) _).alloc (by simp) _) _) _⟩
  · have hq : (c % 3 == 0) = false := by simp [h3]
    have hr := Lib.hid (show levOf 2 c w0 = 1 by simp [levOf, base, h3])
    clear h3
    go_enter Tryd.func23, Tryd.ntmps23
    go_wp2_with fail
    go_quiet (fail)
    go_wp2_with fail
    go_quiet (fail)
    go_wp2_with fail
    go_ret
    exact ⟨by rw [hr.out]; rfl, below_drewN (below_drewN (((Below.refl w.heap.size w).alloc (Nat.le_refl _) _).alloc (by simp) _) _) _⟩

set_option maxRecDepth 100000 in
set_option maxHeartbeats 1000000 in
theorem level_0_3 (w : World) (bl br : Nat) (v0 : Value) (w0 w1 : Int) (m : List ((Int × Int) × Int)) (c : Int) (hk : KindsAt w)
    (ho : w.heap[bl]? = some (.cells #[v0, .map (some br), .int .i64 w0, .int .i64 w1] 56 (0, 0))) (hm : MapIs w br kcv icv m) (hc : look m (0, 3) 0 = c) (hc0 : 0 ≤ c) (hc1 : c ≤ 2000) :
    Calls Tryd.prog 23 #[.pointer (some ⟨bl, 0, none⟩), .agg #[.int .i64 0, .int .i64 3]] w (fun e w' => e = .returned (.int .i64 (levOf 3 c w0)) ∧ Below w.heap.size w w') := by
  have hz := hk.pos
  have hzl := obj_lt ho
  have hzr := obj_lt hm
  have y1 := obj_cell ho 1
  have y2 := obj_cell ho 2
  have y3 := obj_cell ho 3
  simp at y1 y2 y3
  obtain ⟨s, n0, _⟩ := hk.name 3 (by omega)
  have n1 := hk.lev 3 (by omega)
  have n2 := hk.up 3 (by omega)
  simp [kbase, kup] at n0 n1 n2
  have hl := fun n => look_run (w := ((w.alloc (.cells #[.int .i64 0, .int .i64 3] 59)).alloc (.cells #[.string s, .int .i64 1, .bool true] 66)).drewN n) (show MapIs _ br kcv icv m from alloc_obj (alloc_obj hm)) hc
  clear hc
  by_cases h3 : c % 3 = 0
  · have hq : (c % 3 == 0) = true := by simp [h3]
    have H3 := Lib.hid h3
    clear h3
    by_cases hw : 2 ≤ w0
    · have hr := Lib.hid (show levOf 3 c w0 = 3 by simp [levOf, hw, H3.out])
      go_enter Tryd.func23, Tryd.ntmps23
      go_wp2_with fail
      go_quiet (fail)
      go_wp2_with fail
      go_quiet (fail)
      go_wp2_with fail
      go_ret
      exact ⟨by rw [hr.out]; rfl, below_drewN (below_drewN (((Below.refl w.heap.size w).alloc (Nat.le_refl _) _).alloc (by simp) _) _) _⟩
    · have hr := Lib.hid (show levOf 3 c w0 = 2 by simp [levOf, hw, H3.out])
      have hwd : decide (2 ≤ w0) = false := by simpa using hw
      go_enter Tryd.func23, Tryd.ntmps23
      go_wp2_with fail
      go_quiet (fail)
      go_wp2_with fail
      go_quiet (fail)
      go_wp2_with fail
      go_ret
      exact ⟨by rw [hr.out]; rfl, below_drewN (below_drewN (((Below.refl w.heap.size w).alloc (Nat.le_refl _) _).alloc (by simp) _) _) _⟩
  · have hq : (c % 3 == 0) = false := by simp [h3]
    have hr := Lib.hid (show levOf 3 c w0 = 1 by simp [levOf, base, h3])
    clear h3
    go_enter Tryd.func23, Tryd.ntmps23
    go_wp2_with fail
    go_quiet (fail)
    go_wp2_with fail
    go_quiet (fail)
    go_wp2_with fail
    go_ret
    exact ⟨by rw [hr.out]; rfl, below_drewN (below_drewN (((Below.refl w.heap.size w).alloc (Nat.le_refl _) _).alloc (by simp) _) _) _⟩

set_option maxRecDepth 100000 in
set_option maxHeartbeats 1000000 in
theorem level_0_4 (w : World) (bl br : Nat) (v0 : Value) (w0 w1 : Int) (m : List ((Int × Int) × Int)) (c : Int) (hk : KindsAt w)
    (ho : w.heap[bl]? = some (.cells #[v0, .map (some br), .int .i64 w0, .int .i64 w1] 56 (0, 0))) (hm : MapIs w br kcv icv m) (hc : look m (0, 4) 0 = c) (hc0 : 0 ≤ c) (hc1 : c ≤ 2000) :
    Calls Tryd.prog 23 #[.pointer (some ⟨bl, 0, none⟩), .agg #[.int .i64 0, .int .i64 4]] w (fun e w' => e = .returned (.int .i64 (levOf 4 c w0)) ∧ Below w.heap.size w w') := by
  have hz := hk.pos
  have hzl := obj_lt ho
  have hzr := obj_lt hm
  have y1 := obj_cell ho 1
  have y2 := obj_cell ho 2
  have y3 := obj_cell ho 3
  simp at y1 y2 y3
  obtain ⟨s, n0, _⟩ := hk.name 4 (by omega)
  have n1 := hk.lev 4 (by omega)
  have n2 := hk.up 4 (by omega)
  simp [kbase, kup] at n0 n1 n2
  have hl := fun n => look_run (w := ((w.alloc (.cells #[.int .i64 0, .int .i64 4] 59)).alloc (.cells #[.string s, .int .i64 2, .bool false] 66)).drewN n) (show MapIs _ br kcv icv m from alloc_obj (alloc_obj hm)) hc
  clear hc
  by_cases hw : 2 ≤ w0
  · have hr := Lib.hid (show levOf 4 c w0 = 3 by simp [levOf, base, hw])
    go_enter Tryd.func23, Tryd.ntmps23
    go_wp2_with fail
    go_quiet (fail)
    go_wp2_with fail
    go_quiet (fail)
    go_wp2_with fail
    go_ret
    exact ⟨by rw [hr.out]; rfl, below_drewN (below_drewN (((Below.refl w.heap.size w).alloc (Nat.le_refl _) _).alloc (by simp) _) _) _⟩
  · have hr := Lib.hid (show levOf 4 c w0 = 2 by simp [levOf, base, hw])
    have hwd : decide (2 ≤ w0) = false := by simpa using hw
    go_enter Tryd.func23, Tryd.ntmps23
    go_wp2_with fail
    go_quiet (fail)
    go_wp2_with fail
    go_quiet (fail)
    go_wp2_with fail
    go_ret
    exact ⟨by rw [hr.out]; rfl, below_drewN (below_drewN (((Below.refl w.heap.size w).alloc (Nat.le_refl _) _).alloc (by simp) _) _) _⟩

set_option maxRecDepth 100000 in
set_option maxHeartbeats 1000000 in
theorem level_0_5 (w : World) (bl br : Nat) (v0 : Value) (w0 w1 : Int) (m : List ((Int × Int) × Int)) (c : Int) (hk : KindsAt w)
    (ho : w.heap[bl]? = some (.cells #[v0, .map (some br), .int .i64 w0, .int .i64 w1] 56 (0, 0))) (hm : MapIs w br kcv icv m) (hc : look m (0, 5) 0 = c) (hc0 : 0 ≤ c) (hc1 : c ≤ 2000) :
    Calls Tryd.prog 23 #[.pointer (some ⟨bl, 0, none⟩), .agg #[.int .i64 0, .int .i64 5]] w (fun e w' => e = .returned (.int .i64 (levOf 5 c w0)) ∧ Below w.heap.size w w') := by
  have hz := hk.pos
  have hzl := obj_lt ho
  have hzr := obj_lt hm
  have y1 := obj_cell ho 1
  have y2 := obj_cell ho 2
  have y3 := obj_cell ho 3
  simp at y1 y2 y3
  obtain ⟨s, n0, _⟩ := hk.name 5 (by omega)
  have n1 := hk.lev 5 (by omega)
  have n2 := hk.up 5 (by omega)
  simp [kbase, kup] at n0 n1 n2
  have hl := fun n => look_run (w := ((w.alloc (.cells #[.int .i64 0, .int .i64 5] 59)).alloc (.cells #[.string s, .int .i64 3, .bool false] 66)).drewN n) (show MapIs _ br kcv icv m from alloc_obj (alloc_obj hm)) hc
  clear hc
  have hr := Lib.hid (show levOf 5 c w0 = 3 by simp [levOf, base])
  go_enter Tryd.func23, Tryd.ntmps23
  go_wp2_with fail
  go_quiet (fail)
  go_wp2_with fail
  go_quiet (fail)
  go_wp2_with fail
  go_ret
  exact ⟨by rw [hr.out]; rfl, below_drewN (below_drewN (((Below.refl w.heap.size w).alloc (Nat.le_refl _) _).alloc (by simp) _) _) _⟩

set_option maxRecDepth 100000 in
set_option maxHeartbeats 1000000 in
theorem level_1_0 (w : World) (bl br : Nat) (v0 : Value) (w0 w1 : Int) (m : List ((Int × Int) × Int)) (c : Int) (hk : KindsAt w)
    (ho : w.heap[bl]? = some (.cells #[v0, .map (some br), .int .i64 w0, .int .i64 w1] 56 (0, 0))) (hm : MapIs w br kcv icv m) (hc : look m (1, 0) 0 = c) (hc0 : 0 ≤ c) (hc1 : c ≤ 2000) :
    Calls Tryd.prog 23 #[.pointer (some ⟨bl, 0, none⟩), .agg #[.int .i64 1, .int .i64 0]] w (fun e w' => e = .returned (.int .i64 (levOf 0 c w1)) ∧ Below w.heap.size w w') := by
  have hz := hk.pos
  have hzl := obj_lt ho
  have hzr := obj_lt hm
  have y1 := obj_cell ho 1
  have y2 := obj_cell ho 2
  have y3 := obj_cell ho 3
  simp at y1 y2 y3
  obtain ⟨s, n0, _⟩ := hk.name 0 (by omega)
  have n1 := hk.lev 0 (by omega)
  have n2 := hk.up 0 (by omega)
  simp [kbase, kup] at n0 n1 n2
  have hl := fun n => look_run (w := ((w.alloc (.cells #[.int .i64 1, .int .i64 0] 59)).alloc (.cells #[.string s, .int .i64 0, .bool false] 66)).drewN n) (show MapIs _ br kcv icv m from alloc_obj (alloc_obj hm)) hc
  clear hc
  have hr := Lib.hid (show levOf 0 c w1 = 0 by simp [levOf, base])
  go_enter Tryd.func23, Tryd.ntmps23
  go_wp2_with fail
  go_quiet (fail)
  go_wp2_with fail
  go_quiet (fail)
  go_wp2_with fail
  go_ret
  exact ⟨by rw [hr.out]; rfl, below_drewN (below_drewN (((Below.refl w.heap.size w).alloc (Nat.le_refl _) _).alloc (by simp) _) _) _⟩

set_option maxRecDepth 100000 in
set_option maxHeartbeats 1000000 in
theorem level_1_1 (w : World) (bl br : Nat) (v0 : Value) (w0 w1 : Int) (m : List ((Int × Int) × Int)) (c : Int) (hk : KindsAt w)
    (ho : w.heap[bl]? = some (.cells #[v0, .map (some br), .int .i64 w0, .int .i64 w1] 56 (0, 0))) (hm : MapIs w br kcv icv m) (hc : look m (1, 1) 0 = c) (hc0 : 0 ≤ c) (hc1 : c ≤ 2000) :
    Calls Tryd.prog 23 #[.pointer (some ⟨bl, 0, none⟩), .agg #[.int .i64 1, .int .i64 1]] w (fun e w' => e = .returned (.int .i64 (levOf 1 c w1)) ∧ Below w.heap.size w w') := by
  have hz := hk.pos
  have hzl := obj_lt ho
  have hzr := obj_lt hm
  have y1 := obj_cell ho 1
  have y2 := obj_cell ho 2
  have y3 := obj_cell ho 3
  simp at y1 y2 y3
  obtain ⟨s, n0, _⟩ := hk.name 1 (by omega)
  have n1 := hk.lev 1 (by omega)
  have n2 := hk.up 1 (by omega)
  simp [kbase, kup] at n0 n1 n2
  have hl := fun n => look_run (w := ((w.alloc (.cells #[.int .i64 1, .int .i64 1] 59)).alloc (.cells #[.string s, .int .i64 0, .bool false] 66)).drewN n) (show MapIs _ br kcv icv m from alloc_obj (alloc_obj hm)) hc
  clear hc
  have hr := Lib.hid (show levOf 1 c w1 = 0 by simp [levOf, base])
  go_enter Tryd.func23, Tryd.ntmps23
  go_wp2_with fail
  go_quiet (fail)
  go_wp2_with fail
  go_quiet (fail)
  go_wp2_with fail
  go_ret
  exact ⟨by rw [hr.out]; rfl, below_drewN (below_drewN (((Below.refl w.heap.size w).alloc (Nat.le_refl _) _).alloc (by simp) _) _) _⟩

set_option maxRecDepth 100000 in
set_option maxHeartbeats 1000000 in
theorem level_1_2 (w : World) (bl br : Nat) (v0 : Value) (w0 w1 : Int) (m : List ((Int × Int) × Int)) (c : Int) (hk : KindsAt w)
    (ho : w.heap[bl]? = some (.cells #[v0, .map (some br), .int .i64 w0, .int .i64 w1] 56 (0, 0))) (hm : MapIs w br kcv icv m) (hc : look m (1, 2) 0 = c) (hc0 : 0 ≤ c) (hc1 : c ≤ 2000) :
    Calls Tryd.prog 23 #[.pointer (some ⟨bl, 0, none⟩), .agg #[.int .i64 1, .int .i64 2]] w (fun e w' => e = .returned (.int .i64 (levOf 2 c w1)) ∧ Below w.heap.size w w') := by
  have hz := hk.pos
  have hzl := obj_lt ho
  have hzr := obj_lt hm
  have y1 := obj_cell ho 1
  have y2 := obj_cell ho 2
  have y3 := obj_cell ho 3
  simp at y1 y2 y3
  obtain ⟨s, n0, _⟩ := hk.name 2 (by omega)
  have n1 := hk.lev 2 (by omega)
  have n2 := hk.up 2 (by omega)
  simp [kbase, kup] at n0 n1 n2
  have hl := fun n => look_run (w := ((w.alloc (.cells #[.int .i64 1, .int .i64 2] 59)).alloc (.cells #[.string s, .int .i64 1, .bool true] 66)).drewN n) (show MapIs _ br kcv icv m from alloc_obj (alloc_obj hm)) hc
  clear hc
  by_cases h3 : c % 3 = 0
  · have hq : (c % 3 == 0) = true := by simp [h3]
    have H3 := Lib.hid h3
    clear h3
    by_cases hw : 2 ≤ w1
    · have hr := Lib.hid (show levOf 2 c w1 = 3 by simp [levOf, hw, H3.out])
      go_enter Tryd.func23, Tryd.ntmps23
      go_wp2_with fail
      go_quiet (fail)
      go_wp2_with fail
      go_quiet (fail)
      go_wp2_with fail
      go_ret
      exact ⟨by rw [hr.out]; rfl, below_drewN (below_drewN (((Below.refl w.heap.size w).alloc (Nat.le_refl _) _).alloc (by simp) _) _) _⟩
    · have hr := Lib.hid (show levOf 2 c w1 = 2 by simp [levOf, hw, H3.out])
      have hwd : decide (2 ≤ w1) = false := by simpa using hw
      go_enter Tryd.func23, Tryd.ntmps23
      go_wp2_with fail
      go_quiet (fail)
      go_wp2_with fail
      go_quiet (fail)
      go_wp2_with fail
      go_ret
      exact ⟨by rw [hr.out]; rfl, below_drewN (below_drewN (((Below.refl w.heap.size w).alloc (Nat.le_refl _) _).alloc (by simp) _) _) _⟩
  · have hq : (c % 3 == 0) = false := by simp [h3]
    have hr := Lib.hid (show levOf 2 c w1 = 1 by simp [levOf, base, h3])
    clear h3
    go_enter Tryd.func23, Tryd.ntmps23
    go_wp2_with fail
    go_quiet (fail)
    go_wp2_with fail
    go_quiet (fail)
    go_wp2_with fail
    go_ret
    exact ⟨by rw [hr.out]; rfl, below_drewN (below_drewN (((Below.refl w.heap.size w).alloc (Nat.le_refl _) _).alloc (by simp) _) _) _⟩

set_option maxRecDepth 100000 in
set_option maxHeartbeats 1000000 in
theorem level_1_3 (w : World) (bl br : Nat) (v0 : Value) (w0 w1 : Int) (m : List ((Int × Int) × Int)) (c : Int) (hk : KindsAt w)
    (ho : w.heap[bl]? = some (.cells #[v0, .map (some br), .int .i64 w0, .int .i64 w1] 56 (0, 0))) (hm : MapIs w br kcv icv m) (hc : look m (1, 3) 0 = c) (hc0 : 0 ≤ c) (hc1 : c ≤ 2000) :
    Calls Tryd.prog 23 #[.pointer (some ⟨bl, 0, none⟩), .agg #[.int .i64 1, .int .i64 3]] w (fun e w' => e = .returned (.int .i64 (levOf 3 c w1)) ∧ Below w.heap.size w w') := by
  have hz := hk.pos
  have hzl := obj_lt ho
  have hzr := obj_lt hm
  have y1 := obj_cell ho 1
  have y2 := obj_cell ho 2
  have y3 := obj_cell ho 3
  simp at y1 y2 y3
  obtain ⟨s, n0, _⟩ := hk.name 3 (by omega)
  have n1 := hk.lev 3 (by omega)
  have n2 := hk.up 3 (by omega)
  simp [kbase, kup] at n0 n1 n2
  have hl := fun n => look_run (w := ((w.alloc (.cells #[.int .i64 1, .int .i64 3] 59)).alloc (.cells #[.string s, .int .i64 1, .bool true] 66)).drewN n) (show MapIs _ br kcv icv m from alloc_obj (alloc_obj hm)) hc
  clear hc
  by_cases h3 : c % 3 = 0
  · have hq : (c % 3 == 0) = true := by simp [h3]
    have H3 := Lib.hid h3
    clear h3
    by_cases hw : 2 ≤ w1
    · have hr := Lib.hid (show levOf 3 c w1 = 3 by simp [levOf, hw, H3.out])
      go_enter Tryd.func23, Tryd.ntmps23
      go_wp2_with fail
      go_quiet (fail)
      go_wp2_with fail
      go_quiet (fail)
      go_wp2_with fail
      go_ret
      exact ⟨by rw [hr.out]; rfl, below_drewN (below_drewN (((Below.refl w.heap.size w).alloc (Nat.le_refl _) _).alloc (by simp) _) _) _⟩
    · have hr := Lib.hid (show levOf 3 c w1 = 2 by simp [levOf, hw, H3.out])
      have hwd : decide (2 ≤ w1) = false := by simpa using hw
      go_enter Tryd.func23, Tryd.ntmps23
      go_wp2_with fail
      go_quiet (fail)
      go_wp2_with fail
      go_quiet (fail)
      go_wp2_with fail
      go_ret
      exact ⟨by rw [hr.out]; rfl, below_drewN (below_drewN (((Below.refl w.heap.size w).alloc (Nat.le_refl _) _).alloc (by simp) _) _) _⟩
  · have hq : (c % 3 == 0) = false := by simp [h3]
    have hr := Lib.hid (show levOf 3 c w1 = 1 by simp [levOf, base, h3])
    clear h3
    go_enter Tryd.func23, Tryd.ntmps23
    go_wp2_with fail
    go_quiet (fail)
    go_wp2_with fail
    go_quiet (fail)
    go_wp2_with fail
    go_ret
    exact ⟨by rw [hr.out]; rfl, below_drewN (below_drewN (((Below.refl w.heap.size w).alloc (Nat.le_refl _) _).alloc (by simp) _) _) _⟩

set_option maxRecDepth 100000 in
set_option maxHeartbeats 1000000 in
theorem level_1_4 (w : World) (bl br : Nat) (v0 : Value) (w0 w1 : Int) (m : List ((Int × Int) × Int)) (c : Int) (hk : KindsAt w)
    (ho : w.heap[bl]? = some (.cells #[v0, .map (some br), .int .i64 w0, .int .i64 w1] 56 (0, 0))) (hm : MapIs w br kcv icv m) (hc : look m (1, 4) 0 = c) (hc0 : 0 ≤ c) (hc1 : c ≤ 2000) :
    Calls Tryd.prog 23 #[.pointer (some ⟨bl, 0, none⟩), .agg #[.int .i64 1, .int .i64 4]] w (fun e w' => e = .returned (.int .i64 (levOf 4 c w1)) ∧ Below w.heap.size w w') := by
  have hz := hk.pos
  have hzl := obj_lt ho
  have hzr := obj_lt hm
  have y1 := obj_cell ho 1
  have y2 := obj_cell ho 2
  have y3 := obj_cell ho 3
  simp at y1 y2 y3
  obtain ⟨s, n0, _⟩ := hk.name 4 (by omega)
  have n1 := hk.lev 4 (by omega)
  have n2 := hk.up 4 (by omega)
  simp [kbase, kup] at n0 n1 n2
  have hl := fun n => look_run (w := ((w.alloc (.cells #[.int .i64 1, .int .i64 4] 59)).alloc (.cells #[.string s, .int .i64 2, .bool false] 66)).drewN n) (show MapIs _ br kcv icv m from alloc_obj (alloc_obj hm)) hc
  clear hc
  by_cases hw : 2 ≤ w1
  · have hr := Lib.hid (show levOf 4 c w1 = 3 by simp [levOf, base, hw])
    go_enter Tryd.func23, Tryd.ntmps23
    go_wp2_with fail
    go_quiet (fail)
    go_wp2_with fail
    go_quiet (fail)
    go_wp2_with fail
    go_ret
    exact ⟨by rw [hr.out]; rfl, below_drewN (below_drewN (((Below.refl w.heap.size w).alloc (Nat.le_refl _) _).alloc (by simp) _) _) _⟩
  · have hr := Lib.hid (show levOf 4 c w1 = 2 by simp [levOf, base, hw])
    have hwd : decide (2 ≤ w1) = false := by simpa using hw
    go_enter Tryd.func23, Tryd.ntmps23
    go_wp2_with fail
    go_quiet (fail)
    go_wp2_with fail
    go_quiet (fail)
    go_wp2_with fail
    go_ret
    exact ⟨by rw [hr.out]; rfl, below_drewN (below_drewN (((Below.refl w.heap.size w).alloc (Nat.le_refl _) _).alloc (by simp) _) _) _⟩

set_option maxRecDepth 100000 in
set_option maxHeartbeats 1000000 in
theorem level_1_5 (w : World) (bl br : Nat) (v0 : Value) (w0 w1 : Int) (m : List ((Int × Int) × Int)) (c : Int) (hk : KindsAt w)
    (ho : w.heap[bl]? = some (.cells #[v0, .map (some br), .int .i64 w0, .int .i64 w1] 56 (0, 0))) (hm : MapIs w br kcv icv m) (hc : look m (1, 5) 0 = c) (hc0 : 0 ≤ c) (hc1 : c ≤ 2000) :
    Calls Tryd.prog 23 #[.pointer (some ⟨bl, 0, none⟩), .agg #[.int .i64 1, .int .i64 5]] w (fun e w' => e = .returned (.int .i64 (levOf 5 c w1)) ∧ Below w.heap.size w w') := by
  have hz := hk.pos
  have hzl := obj_lt ho
  have hzr := obj_lt hm
  have y1 := obj_cell ho 1
  have y2 := obj_cell ho 2
  have y3 := obj_cell ho 3
  simp at y1 y2 y3
  obtain ⟨s, n0, _⟩ := hk.name 5 (by omega)
  have n1 := hk.lev 5 (by omega)
  have n2 := hk.up 5 (by omega)
  simp [kbase, kup] at n0 n1 n2
  have hl := fun n => look_run (w := ((w.alloc (.cells #[.int .i64 1, .int .i64 5] 59)).alloc (.cells #[.string s, .int .i64 3, .bool false] 66)).drewN n) (show MapIs _ br kcv icv m from alloc_obj (alloc_obj hm)) hc
  clear hc
  have hr := Lib.hid (show levOf 5 c w1 = 3 by simp [levOf, base])
  go_enter Tryd.func23, Tryd.ntmps23
  go_wp2_with fail
  go_quiet (fail)
  go_wp2_with fail
  go_quiet (fail)
  go_wp2_with fail
  go_ret
  exact ⟨by rw [hr.out]; rfl, below_drewN (below_drewN (((Below.refl w.heap.size w).alloc (Nat.le_refl _) _).alloc (by simp) _) _) _⟩

theorem level (w : World) (bl br : Nat) (v0 : Value) (w0 w1 : Int) (m : List ((Int × Int) × Int)) (p k c : Int) (hk : KindsAt w)
    (ho : w.heap[bl]? = some (.cells #[v0, .map (some br), .int .i64 w0, .int .i64 w1] 56 (0, 0))) (hm : MapIs w br kcv icv m) (hc : look m (p, k) 0 = c) (hc0 : 0 ≤ c) (hc1 : c ≤ 2000)
    (hp : p = 0 ∨ p = 1) (hk0 : 0 ≤ k) (hk6 : k < 6) :
    Calls Tryd.prog 23 #[.pointer (some ⟨bl, 0, none⟩), .agg #[.int .i64 p, .int .i64 k]] w (fun e w' => e = .returned (.int .i64 (levOf k c (if p = 0 then w0 else w1))) ∧ Below w.heap.size w w') := by
  have hkk : k = 0 ∨ k = 1 ∨ k = 2 ∨ k = 3 ∨ k = 4 ∨ k = 5 := by omega
  rcases hp with rfl | rfl <;> rcases hkk with rfl | rfl | rfl | rfl | rfl | rfl
  · exact level_0_0 w bl br v0 w0 w1 m c hk ho hm hc hc0 hc1
  · exact level_0_1 w bl br v0 w0 w1 m c hk ho hm hc hc0 hc1
  · exact level_0_2 w bl br v0 w0 w1 m c hk ho hm hc hc0 hc1
  · exact level_0_3 w bl br v0 w0 w1 m c hk ho hm hc hc0 hc1
  · exact level_0_4 w bl br v0 w0 w1 m c hk ho hm hc hc0 hc1
  · exact level_0_5 w bl br v0 w0 w1 m c hk ho hm hc hc0 hc1
  · exact level_1_0 w bl br v0 w0 w1 m c hk ho hm hc hc0 hc1
  · exact level_1_1 w bl br v0 w0 w1 m c hk ho hm hc hc0 hc1
  · exact level_1_2 w bl br v0 w0 w1 m c hk ho hm hc hc0 hc1
  · exact level_1_3 w bl br v0 w0 w1 m c hk ho hm hc hc0 hc1
  · exact level_1_4 w bl br v0 w0 w1 m c hk ho hm hc hc0 hc1
  · exact level_1_5 w bl br v0 w0 w1 m c hk ho hm hc hc0 hc1

end Go.Proofs.YtfphjokijanahaaDoor
