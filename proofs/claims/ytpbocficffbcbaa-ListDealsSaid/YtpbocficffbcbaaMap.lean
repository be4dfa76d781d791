/-
  Maps whose keys are compared by value: a list of entries in the order in which they were put in; nothing is ever deleted. Holds over any program.
-/
import Derived.Test.YtpbocficffbcbaaBase
import Derived.Laws.StructEq
namespace Go.Proofs.Ytpbocficffbcbaa
open Go Go.RowKit
set_option linter.unusedVariables false

section
variable {κ ν : Type}
/-- The entries, as memory has them. -/
def ents (kc : κ → Value) (vc : ν → Value) : List (κ × ν) → Nat → List MapEntry
  | [], _ => []
  | (k, v) :: r, i => ⟨kc k, vc v, i⟩ :: ents kc vc r (i + 1)
theorem ents_length (kc : κ → Value) (vc : ν → Value) (m : List (κ × ν)) : ∀ i, (ents kc vc m i).length = m.length := by
  induction m with
  | nil => intro; rfl
  | cons x r ih => intro i; simp [ents, ih]
theorem ents_get (kc : κ → Value) (vc : ν → Value) (m : List (κ × ν)) : ∀ (i j : Nat), (ents kc vc m i)[j]? = (m[j]?).map (fun x => ({ key := kc x.1, val := vc x.2, born := i + j } : MapEntry)) := by
  induction m with
  | nil => intros; simp [ents]
  | cons x r ih =>
    intro i j
    cases j with
    | zero => simp [ents]
    | succ j => simp [ents, ih, Nat.add_assoc, Nat.add_comm 1 j]
theorem ents_append (kc : κ → Value) (vc : ν → Value) (m : List (κ × ν)) (k : κ) (v : ν) : ∀ i, ents kc vc (m ++ [(k, v)]) i = ents kc vc m i ++ [⟨kc k, vc v, i + m.length⟩] := by
  induction m with
  | nil => intro i; simp [ents]
  | cons x r ih => intro i; simp [ents, ih, Nat.add_assoc, Nat.add_comm 1 r.length]
theorem ents_set (kc : κ → Value) (vc : ν → Value) (m : List (κ × ν)) (k : κ) (v : ν) : ∀ i j, ents kc vc (m.set j (k, v)) i = (ents kc vc m i).set j ⟨kc k, vc v, i + j⟩ := by
  induction m with
  | nil => intros; simp [ents]
  | cons x r ih =>
    intro i j
    cases j with
    | zero => simp [ents]
    | succ j => simp [ents, ih, Nat.add_assoc, Nat.add_comm 1 j]

end

section
variable {κ ν : Type} [DecidableEq κ]

def fnd (k : κ) : List (κ × ν) → Nat → Option (Nat × ν)
  | [], _ => none
  | (k', v) :: r, i => if k = k' then some (i, v) else fnd k r (i + 1)
/-- The value at a key; d: none. -/
def look (m : List (κ × ν)) (k : κ) (d : ν) : ν := match fnd k m 0 with | some (_, v) => v | none => d
def has (m : List (κ × ν)) (k : κ) : Bool := (fnd k m 0).isSome
/-- A value stored. -/
def put (k : κ) (v : ν) : List (κ × ν) → List (κ × ν)
  | [] => [(k, v)]
  | (k', v') :: r => if k = k' then (k', v) :: r else (k', v') :: put k v r

theorem fnd_shift (k : κ) (m : List (κ × ν)) : ∀ i j, fnd k m (i + j) = (fnd k m i).map (fun x => (x.1 + j, x.2)) := by
  induction m with
  | nil => intros; rfl
  | cons x r ih =>
    intro i j
    obtain ⟨k', v⟩ := x
    simp only [fnd]
    split
    · rfl
    · rw [show i + j + 1 = (i + 1) + j by omega]; exact ih _ _
theorem fnd_lt {k : κ} {m : List (κ × ν)} : ∀ {i j : Nat} {v : ν}, fnd k m i = some (j, v) → i ≤ j ∧ j < i + m.length ∧ m[j - i]? = some (k, v) := by
  induction m with
  | nil => intro i j v h; cases h
  | cons x r ih =>
    intro i j v h
    obtain ⟨k', v'⟩ := x
    simp only [fnd] at h
    split at h
    · rename_i hk
      simp only [Option.some.injEq, Prod.mk.injEq] at h
      obtain ⟨rfl, rfl⟩ := h
      subst hk
      simp
    · obtain ⟨h1, h2, h3⟩ := ih h
      refine ⟨by omega, by simp; omega, ?_⟩
      rw [show j - i = (j - (i + 1)) + 1 by omega]
      simpa using h3
theorem look_put (m : List (κ × ν)) (k k' : κ) (v d : ν) : look (put k v m) k' d = if k' = k then v else look m k' d := by
  have gen : ∀ (m : List (κ × ν)) (i : Nat), (match fnd k' (put k v m) i with | some (_, v) => v | none => d) = if k' = k then v else (match fnd k' m i with | some (_, v) => v | none => d) := by
    intro m
    induction m with
    | nil =>
      intro i
      by_cases h : k' = k <;> simp [put, fnd, h]
    | cons x r ih =>
      intro i
      obtain ⟨k2, v2⟩ := x
      simp only [put]
      by_cases h : k = k2
      · rw [if_pos h]
        simp only [fnd]
        by_cases h2 : k' = k2
        · rw [if_pos h2, if_pos (h2.trans h.symm)]
        · rw [if_neg h2, if_neg (fun e => h2 (e.trans h)), if_neg h2]
      · rw [if_neg h]
        simp only [fnd]
        by_cases h2 : k' = k2
        · rw [if_pos h2, if_pos h2, if_neg (fun e => h (e.symm.trans h2))]
        · rw [if_neg h2, if_neg h2]
          exact ih _
  exact gen m 0
theorem has_put (m : List (κ × ν)) (k k' : κ) (v : ν) : has (put k v m) k' = (decide (k' = k) || has m k') := by
  have gen : ∀ (m : List (κ × ν)) (i : Nat), (fnd k' (put k v m) i).isSome = (decide (k' = k) || (fnd k' m i).isSome) := by
    intro m
    induction m with
    | nil =>
      intro i
      simp only [put, fnd]
      split <;> simp_all
    | cons x r ih =>
      intro i
      obtain ⟨k2, v2⟩ := x
      simp only [put]
      by_cases h : k = k2
      · rw [if_pos h]
        simp only [fnd]
        by_cases h2 : k' = k2
        · rw [if_pos h2]; simp [h2]
        · rw [if_neg h2, if_neg h2]; simp [show ¬ k' = k from fun e => h2 (e.trans h)]
      · rw [if_neg h]
        simp only [fnd]
        by_cases h2 : k' = k2
        · rw [if_pos h2]; simp [h2]
        · rw [if_neg h2, if_neg h2]
          exact ih _
  exact gen m 0
theorem put_new {k : κ} {v : ν} {m : List (κ × ν)} (h : ∀ i, fnd k m i = none) : put k v m = m ++ [(k, v)] := by
  induction m with
  | nil => rfl
  | cons x r ih =>
    obtain ⟨k', v'⟩ := x
    have h0 := h 0
    simp only [fnd] at h0
    split at h0
    · cases h0
    · rename_i hk
      simp only [put, if_neg hk, List.cons_append]
      rw [ih (fun i => by
        have := fnd_shift k r 1 i
        rw [show (1 : Nat) = 0 + 1 from rfl] at this
        rw [h0] at this
        have h2 := fnd_shift k r 0 1
        rw [h0] at h2
        have h3 : fnd k r 0 = none := by simpa using h2.symm
        have h4 := fnd_shift k r 0 i
        rw [h3] at h4
        simpa using h4)]
theorem put_old {k : κ} {v v0 : ν} {m : List (κ × ν)} : ∀ {i j : Nat}, fnd k m i = some (j, v0) → put k v m = m.set (j - i) (k, v) := by
  induction m with
  | nil => intro i j h; cases h
  | cons x r ih =>
    intro i j h
    obtain ⟨k', v'⟩ := x
    simp only [fnd] at h
    split at h
    · rename_i hk
      simp only [Option.some.injEq, Prod.mk.injEq] at h
      obtain ⟨rfl, rfl⟩ := h
      subst hk
      simp [put]
    · rename_i hk
      have := fnd_lt h
      simp only [put, if_neg hk]
      rw [ih h, show j - i = (j - (i + 1)) + 1 by omega]
      simp

/-- The block r is the map m. -/
def MapIs (w : World) (r : Nat) (kc : κ → Value) (vc : ν → Value) (m : List (κ × ν)) : Prop := w.heap[r]? = some (.map (ents kc vc m 0).toArray m.length)

/-- What is known of a type of keys. -/
structure KeyLaw (P : Program) (T : TypeId) (kc : κ → Value) : Prop where
  chk : ∀ (w : World) (b : Bool) (k : κ), (Instr.checkKey b 10000 T (kc k)).run P w = .ok () w
  find : ∀ (ν : Type) (vc : ν → Value) (w : World) (k : κ) (m : List (κ × ν)), (Instr.findKey T (kc k) (ents kc vc m 0)).run P w = .ok ((fnd k m 0).map (fun x => (x.1, vc x.2))) w
  bits : ∀ k : κ, Instr.sameBits 10000 (kc k) (kc k) = true

theorem run_findAsking {P : Program} {T : TypeId} {kc : κ → Value} (heq : ∀ (w : World) (k k' : κ), (Op.equal T (kc k) (kc k')).run P w = .ok (decide (k = k')) w) (vc : ν → Value) (w : World) (k : κ) (m : List (κ × ν)) :
    ∀ i, (Instr.findAsking T (kc k) (ents kc vc m i) i).run P w = .ok ((fnd k m i).map (fun x => (x.1, vc x.2))) w := by
  induction m with
  | nil => intro i; simp [ents, Instr.findAsking, fnd]
  | cons x r ih =>
    intro i
    obtain ⟨k', v⟩ := x
    simp only [ents, Instr.findAsking, fnd, Sem.run_bind, heq, Result.andThen_ok]
    by_cases h : k = k'
    · simp [h]
    · simp [h, ih]

/-- Keys that are asked one by one (structs, arrays). -/
theorem keyLaw_asked {P : Program} {T : TypeId} {d : TypeDesc} {kc : κ → Value} (hT : P.underlying T = some d) (hnow : ∀ k k', Instr.sameNow d (kc k) (kc k') = none)
    (heq : ∀ (w : World) (k k' : κ), (Op.equal T (kc k) (kc k')).run P w = .ok (decide (k = k')) w) (hchk : ∀ (w : World) (b : Bool) (k : κ), (Instr.checkKey b 10000 T (kc k)).run P w = .ok () w)
    (hbits : ∀ k : κ, Instr.sameBits 10000 (kc k) (kc k) = true) : KeyLaw P T kc where
  chk := hchk
  bits := hbits
  find := by
    intro ν vc w k m
    have ha := run_findAsking (P := P) (T := T) heq vc w k m 0
    cases m with
    | nil => simp [Instr.findKey, run_underlying hT, ents, Instr.findNow, fnd]
    | cons x r =>
      obtain ⟨k', v⟩ := x
      have : Instr.findNow d (kc k) (ents kc vc ((k', v) :: r) 0) 0 = none := by simp [ents, Instr.findNow, hnow]
      simp only [Instr.findKey, Sem.run_bind, run_underlying hT, Result.andThen_ok, this]
      exact ha

theorem findNow_int {d : TypeDesc} {ki : IntKind} (hd : d = .int ki) (vc : ν → Value) (k : Int) (m : List (Int × ν)) :
    ∀ i, Instr.findNow d (.int .i64 k) (ents (fun x => Value.int .i64 x) vc m i) i = some ((fnd k m i).map (fun x => (x.1, vc x.2))) := by
  subst hd
  induction m with
  | nil => intro i; rfl
  | cons x r ih =>
    intro i
    obtain ⟨k', v⟩ := x
    simp only [ents, Instr.findNow, Instr.sameNow, fnd, if_true]
    by_cases h : k = k'
    · simp [h]
    · have hb : (k == k') = false := by simp [h]
      rw [hb, if_neg h]
      exact ih _
theorem run_checkKey_int {P : Program} {T : TypeId} (hT : P.underlying T = some (.int .i64)) (n : Nat) (w : World) (b : Bool) (k : Int) : (Instr.checkKey b (n + 1) T (.int .i64 k)).run P w = .ok () w := by
  simp only [Instr.checkKey, Sem.run_bind, run_underlying hT, Result.andThen_ok, Sem.run_pure]
theorem sameBits_int (n : Nat) (k : Int) : Instr.sameBits n (.int .i64 k) (.int .i64 k) = true := by
  cases n <;> simp [Instr.sameBits]
/-- Keys that are ints. -/
theorem keyLaw_int {P : Program} {T : TypeId} (hT : P.underlying T = some (.int .i64)) : KeyLaw P T (fun x => Value.int .i64 x) where
  chk := by
    intro w b k
    exact run_checkKey_int hT 9999 w b k
  bits := fun k => sameBits_int 10000 k
  find := by
    intro ν vc w k m
    simp only [Instr.findKey, Sem.run_bind, run_underlying hT, Result.andThen_ok, findNow_int rfl vc k m 0, Sem.run_pure]

/-! ### the operations -/
theorem run_getObj_map {P : Program} {w : World} {r : Nat} {es : Array MapEntry} {c : Nat} (h : w.heap[r]? = some (.map es c)) : (getObj r).run P w = .ok (.map es c) w := by
  simp [getObj, Sem.run, h]
theorem run_setObj_map {P : Program} {w : World} {r : Nat} {es : Array MapEntry} {c : Nat} {o : Obj} (h : w.heap[r]? = some (.map es c)) : (setObj r o).run P w = .ok () { w with heap := w.heap.setIfInBounds r o } := by
  simp [setObj, Sem.run, h]

theorem run_lookup_is {P : Program} {M T E : TypeId} {kc : κ → Value} (K : KeyLaw P T kc) (hM : P.underlying M = some (.map T E)) {w : World} {r : Nat} {vc : ν → Value} {m : List (κ × ν)} (h : MapIs w r kc vc m)
    {z : Value} (hz : ∀ w : World, (zeroValue E).run P w = .ok z w) (k : κ) :
    (Instr.lookup M (.map (some r)) (kc k) false).run P w = .ok (match fnd k m 0 with | some (_, v) => vc v | none => z) w := by
  simp only [Instr.lookup, Sem.run_bind, run_underlying hM, Result.andThen_ok, run_getObj_map h, K.chk, K.find, Sem.run_pure]
  cases hf : fnd k m 0 with
  | none => simp [hz]
  | some x => simp
theorem run_lookup_ok_is {P : Program} {M T E : TypeId} {kc : κ → Value} (K : KeyLaw P T kc) (hM : P.underlying M = some (.map T E)) {w : World} {r : Nat} {vc : ν → Value} {m : List (κ × ν)} (h : MapIs w r kc vc m)
    {z : Value} (hz : ∀ w : World, (zeroValue E).run P w = .ok z w) (k : κ) :
    (Instr.lookup M (.map (some r)) (kc k) true).run P w = .ok (.tuple #[match fnd k m 0 with | some (_, v) => vc v | none => z, .bool (has m k)]) w := by
  simp only [Instr.lookup, Sem.run_bind, run_underlying hM, Result.andThen_ok, run_getObj_map h, K.chk, K.find, Sem.run_pure]
  unfold has
  cases hf : fnd k m 0 with
  | none => simp [hz]
  | some x => simp

def World.putObj (w : World) (r : Nat) (o : Obj) : World := { w with heap := w.heap.setIfInBounds r o }
theorem putObj_same {w : World} {r : Nat} {o : Obj} (h : w.heap[r]? = some o) : World.putObj w r o = w := by
  have hlt := obj_lt h
  have hv : w.heap[r] = o := (Array.getElem?_eq_some_iff.1 h).2
  unfold World.putObj
  cases w with
  | mk heap tape drawn os output =>
    congr 1
    apply Array.ext
    · simp
    · intro k h1 h2
      rw [Array.getElem_setIfInBounds h2]
      split
      · rename_i hk
        subst hk
        exact hv.symm
      · rfl
theorem putObj_upd (w : World) (r : Nat) (o : Obj) : Upd (fun k => k = r) w (World.putObj w r o) :=
  ⟨rfl, rfl, rfl, by simp [World.putObj], fun k _ hn => by simp [World.putObj, Ne.symm hn]⟩
theorem putObj_new {w : World} {r : Nat} {o x : Obj} (h : w.heap[r]? = some x) : (World.putObj w r o).heap[r]? = some o := by
  have hlt := obj_lt h
  simp [World.putObj, hlt]

theorem run_mapEntry_is {P : Program} {M T E : TypeId} {kc : κ → Value} (K : KeyLaw P T kc) (hM : P.underlying M = some (.map T E)) {w : World} {r : Nat} {vc : ν → Value} {m : List (κ × ν)} (h : MapIs w r kc vc m)
    {d : ν} (hz : ∀ w : World, (zeroValue E).run P w = .ok (vc d) w) (k : κ) :
    ∃ w' i, (Instr.mapEntry M (.map (some r)) (kc k)).run P w = .ok (.tuple #[vc (look m k d), .int .i64 (i : Nat)]) w' ∧ Upd (fun k => k = r) w w' ∧ w'.drawn = w.drawn ∧
      MapIs w' r kc vc (put k (look m k d) m) ∧ fnd k (put k (look m k d) m) 0 = some (i, look m k d) := by
  cases hf : fnd k m 0 with
  | some x =>
    obtain ⟨i, v⟩ := x
    have hl := fnd_lt hf
    have hlook : look m k d = v := by simp [look, hf]
    have hput : put k v m = m := by
      rw [put_old hf]
      have hg := hl.2.2
      simp only [Nat.sub_zero] at hg ⊢
      apply List.ext_getElem?
      intro j
      rw [List.getElem?_set]
      split
      · rename_i hij
        subst hij
        rw [hg, if_pos (List.getElem?_eq_some_iff.1 hg).1]
      · rfl
    rw [hlook, hput]
    refine ⟨w, i, ?_, Upd.refl _ _, rfl, h, hf⟩
    have hg : (ents kc vc m 0)[i]? = some ⟨kc k, vc v, i⟩ := by
      rw [ents_get]
      have := hl.2.2
      simp only [Nat.sub_zero] at this
      simp [this]
    have hmod : (ents kc vc m 0).toArray.modify i (fun e => { e with key := kc k }) = (ents kc vc m 0).toArray := by
      apply Array.ext_getElem?
      intro j
      rw [Array.getElem?_modify]
      split
      · rename_i hij
        subst hij
        simp [hg]
      · rfl
    simp only [Instr.mapEntry, Sem.run_bind, run_underlying hM, Result.andThen_ok, run_getObj_map h, K.chk, K.find, hf, Option.map_some, List.getElem?_toArray, hg, Option.getD_some, Instr.keyThatStays, K.bits, if_true, Sem.run_pure,
      hmod, run_setObj_map h]
    have := putObj_same h
    simp only [World.putObj] at this
    rw [this]
    rfl
  | none =>
    have hlook : look m k d = d := by simp [look, hf]
    have hput : put k d m = m ++ [(k, d)] := put_new (fun i => by
      have := fnd_shift k m 0 i
      rw [hf] at this
      simpa using this)
    rw [hlook, hput]
    refine ⟨World.putObj w r (.map ((ents kc vc m 0).toArray.push ⟨kc k, vc d, m.length⟩) (m.length + 1)), m.length, ?_, putObj_upd _ _ _, rfl, ?_, ?_⟩
    · simp only [Instr.mapEntry, Sem.run_bind, run_underlying hM, Result.andThen_ok, run_getObj_map h, K.chk, K.find, hf, Option.map_none, hz, run_setObj_map h, Sem.run_pure]
      rfl
    · unfold MapIs
      rw [putObj_new h, ents_append]
      simp
    · have gen : ∀ (m : List (κ × ν)) (i : Nat), fnd k m i = none → fnd k (m ++ [(k, d)]) i = some (i + m.length, d) := by
        intro m
        induction m with
        | nil => intro i _; simp [fnd]
        | cons x r ih =>
          intro i hn
          obtain ⟨k', v'⟩ := x
          simp only [fnd] at hn
          split at hn
          · cases hn
          · rename_i hk
            simp only [List.cons_append, fnd, if_neg hk]
            rw [ih _ hn]
            simp [Nat.add_assoc, Nat.add_comm 1]
      simpa using gen m 0 hf

theorem run_entryStore_is {P : Program} {M : TypeId} {kc : κ → Value} {w : World} {r : Nat} {vc : ν → Value} {m : List (κ × ν)} (h : MapIs w r kc vc m) {k : κ} {i : Nat} {v0 : ν} (hf : fnd k m 0 = some (i, v0)) (v : ν) :
    ∃ w', (Instr.entryStore M (.map (some r)) (.int .i64 (i : Nat)) (vc v)).run P w = .ok () w' ∧ Upd (fun k => k = r) w w' ∧ w'.drawn = w.drawn ∧ MapIs w' r kc vc (put k v m) := by
  have hl := fnd_lt hf
  simp only [Nat.sub_zero, Nat.zero_add] at hl
  have hfi : (ents kc vc m 0).toArray.findIdx? (fun e => (e.born : Int) == (i : Int)) = some i := by
    rw [List.findIdx?_toArray, List.findIdx?_eq_some_iff_getElem]
    have hg : (ents kc vc m 0)[i]? = some ⟨kc k, vc v0, i⟩ := by rw [ents_get]; simp [hl.2.2]
    obtain ⟨hlt, he⟩ := List.getElem?_eq_some_iff.1 hg
    refine ⟨hlt, by simp [he], fun j hj => ?_⟩
    have hgj : (ents kc vc m 0)[j]? = (m[j]?).map (fun x => ⟨kc x.1, vc x.2, 0 + j⟩) := ents_get kc vc m 0 j
    have hjl : j < m.length := by rw [ents_length] at hlt; omega
    rw [List.getElem?_eq_getElem (by rw [ents_length]; exact hjl), List.getElem?_eq_getElem hjl] at hgj
    simp only [Option.map_some, Option.some.injEq] at hgj
    rw [hgj]
    simp
    omega
  have hg : (ents kc vc m 0)[i]? = some ⟨kc k, vc v0, i⟩ := by rw [ents_get]; simp [hl.2.2]
  refine ⟨World.putObj w r (.map ((ents kc vc m 0).toArray.modify i (fun e => { e with val := vc v })) m.length), ?_, putObj_upd _ _ _, rfl, ?_⟩
  · simp only [Instr.entryStore, Sem.run_bind, run_getObj_map h, Result.andThen_ok, asInt, asIntOf, Sem.run_pure, hfi, run_setObj_map h]
    rfl
  · unfold MapIs
    rw [putObj_new h, put_old hf, ents_set, Nat.sub_zero, Nat.zero_add]
    simp only [Option.some.injEq, Obj.map.injEq, List.length_set, and_true]
    apply Array.ext_getElem?
    intro j
    rw [Array.getElem?_modify, List.getElem?_toArray, List.getElem?_toArray, List.getElem?_set]
    split
    · rename_i hij
      subst hij
      rw [hg, if_pos (by rw [ents_length]; omega)]
      rfl
    · rfl

theorem run_mapUpdate_is {P : Program} {M T E : TypeId} {kc : κ → Value} (K : KeyLaw P T kc) (hM : P.underlying M = some (.map T E)) {w : World} {r : Nat} {vc : ν → Value} {m : List (κ × ν)} (h : MapIs w r kc vc m) (k : κ) (v : ν) :
    ∃ w', (Instr.mapUpdate M (.map (some r)) (kc k) (vc v)).run P w = .ok () w' ∧ Upd (fun k => k = r) w w' ∧ w'.drawn = w.drawn ∧ MapIs w' r kc vc (put k v m) := by
  cases hf : fnd k m 0 with
  | some x =>
    obtain ⟨i, v0⟩ := x
    have hl := fnd_lt hf
    simp only [Nat.sub_zero, Nat.zero_add] at hl
    have hg : (ents kc vc m 0)[i]? = some ⟨kc k, vc v0, i⟩ := by rw [ents_get]; simp [hl.2.2]
    refine ⟨World.putObj w r (.map ((ents kc vc m 0).toArray.modify i (fun e => { e with key := kc k, val := vc v })) m.length), ?_, putObj_upd _ _ _, rfl, ?_⟩
    · simp only [Instr.mapUpdate, Sem.run_bind, run_underlying hM, Result.andThen_ok, run_getObj_map h, K.chk, K.find, hf, Option.map_some, List.getElem?_toArray, hg, Option.getD_some, Instr.keyThatStays, K.bits, if_true, Sem.run_pure,
        run_setObj_map h]
      rfl
    · unfold MapIs
      rw [putObj_new h, put_old hf, ents_set, Nat.sub_zero, Nat.zero_add]
      simp only [Option.some.injEq, Obj.map.injEq, List.length_set, and_true]
      apply Array.ext_getElem?
      intro j
      rw [Array.getElem?_modify, List.getElem?_toArray, List.getElem?_toArray, List.getElem?_set]
      split
      · rename_i hij
        subst hij
        rw [hg, if_pos (by rw [ents_length]; omega)]
        rfl
      · rfl
  | none =>
    have hput : put k v m = m ++ [(k, v)] := put_new (fun i => by
      have := fnd_shift k m 0 i
      rw [hf] at this
      simpa using this)
    refine ⟨World.putObj w r (.map ((ents kc vc m 0).toArray.push ⟨kc k, vc v, m.length⟩) (m.length + 1)), ?_, putObj_upd _ _ _, rfl, ?_⟩
    · simp only [Instr.mapUpdate, Sem.run_bind, run_underlying hM, Result.andThen_ok, run_getObj_map h, K.chk, K.find, hf, Option.map_none, run_setObj_map h]
      rfl
    · unfold MapIs
      rw [putObj_new h, hput, ents_append]
      simp
end
end Go.Proofs.Ytpbocficffbcbaa
