/-
  The document's net, span by span, in plain lists.
-/
import Derived.Test.YtpbocficffbcbaaJour7
import Derived.Test.YtpbocficffbcbaaRunP
import Derived.Test.YtpbocficffbcbaaEvs2
import Derived.Test.YtpbocficffbcbaaMap
import Derived.Test.YtpbocficffbcbaaEqI
import Derived.Test.YtpbocficffbcbaaHeldT
import Derived.Test.YtpbocficffbcbaaJour5
namespace Go.Proofs.Ytpbocficffbcbaa
open Go Go.RowKit
set_option linter.unusedVariables false

/-! ### a journal as the document has it: parts -/
abbrev Pt := Int × List Ev
def ptEvs (ps : List Pt) : List Ev := ps.flatMap Prod.snd
def ptMks : Nat → List Pt → List Mk
  | _, [] => []
  | n, p :: ps => (p.1, n) :: ptMks (n + p.2.length) ps
theorem ptEvs_append (a b : List Pt) : ptEvs (a ++ b) = ptEvs a ++ ptEvs b := List.flatMap_append
theorem ptEvs_cons (p : Pt) (b : List Pt) : ptEvs (p :: b) = p.2 ++ ptEvs b := List.flatMap_cons
theorem ptMks_append : ∀ (n : Nat) (a b : List Pt), ptMks n (a ++ b) = ptMks n a ++ ptMks (n + (ptEvs a).length) b
  | n, [], b => by simp [ptMks, ptEvs]
  | n, p :: a, b => by
    simp only [List.cons_append, ptMks, ptMks_append _ a b, ptEvs_cons, List.length_append]
    rw [Nat.add_assoc]
theorem ptMks_len : ∀ (n : Nat) (a : List Pt), (ptMks n a).length = a.length
  | n, [] => rfl
  | n, p :: a => by simp [ptMks, ptMks_len]
theorem ptMks_fst : ∀ (n : Nat) (a : List Pt), (ptMks n a).map Prod.fst = a.map Prod.fst
  | n, [] => rfl
  | n, p :: a => by simp [ptMks, ptMks_fst]
theorem ptMks_take : ∀ (n : Nat) (a : List Pt) (i : Nat), (ptMks n a).take i = ptMks n (a.take i)
  | n, [], i => by simp [ptMks]
  | n, p :: a, 0 => rfl
  | n, p :: a, i + 1 => by simp [ptMks, ptMks_take]
theorem ptMks_get : ∀ (n : Nat) (a : List Pt) (i : Nat) (p : Pt), a[i]? = some p → (ptMks n a)[i]? = some (p.1, n + (ptEvs (a.take i)).length)
  | n, [], i, p, h => by simp at h
  | n, q :: a, 0, p, h => by
    simp at h
    subst h
    simp [ptMks, ptEvs]
  | n, q :: a, i + 1, p, h => by
    have := ptMks_get (n + q.2.length) a i p (by simpa using h)
    simp only [ptMks, List.getElem?_cons_succ, this, List.take_succ_cons, ptEvs_cons, List.length_append]
    rw [Nat.add_assoc]
theorem place_mks (c : Int) : ∀ (n : Nat) (a : List Pt), place (ptMks n a) c = a.findIdx? (fun p => decide (p.1 = c))
  | n, [] => rfl
  | n, p :: a => by
    have := place_mks c (n + p.2.length) a
    unfold place at this ⊢
    simp only [ptMks, List.findIdx?_cons, this]

/-- The journal's events and marks are those of parts. -/
structure JR (es : List Ev) (ms : List Mk) (qs : List Pt) : Prop where
  ne : 0 < qs.length
  es : es = ptEvs qs
  ms : ms = ptMks (ptEvs (qs.take 1)).length (qs.drop 1)
theorem JR.new : JR [] [] [(0, [])] := ⟨by simp, rfl, rfl⟩
theorem JR.mlen {es : List Ev} {ms : List Mk} {qs : List Pt} (h : JR es ms qs) : qs.length = ms.length + 1 := by
  rw [h.ms, ptMks_len, List.length_drop]
  have := h.ne
  omega
theorem JR.mark {es : List Ev} {ms : List Mk} {qs : List Pt} (h : JR es ms qs) (n : Int) : JR es (ms ++ [(n, es.length)]) (qs ++ [(n, [])]) := by
  obtain ⟨q, ps, rfl⟩ := List.exists_cons_of_length_pos h.ne
  refine ⟨by simp, ?_, ?_⟩
  · rw [h.es, ptEvs_append]
    simp [ptEvs]
  · rw [h.ms, h.es]
    simp only [List.cons_append, List.drop_succ_cons, List.drop_zero, List.take_succ_cons, List.take_zero, ptMks_append]
    simp [ptMks, ptEvs]
/-- More events in the last part. -/
def addL (l : List Ev) : List Pt → List Pt
  | [] => []
  | [x] => [(x.1, x.2 ++ l)]
  | x :: y :: r => x :: addL l (y :: r)
theorem addL_snoc (l : List Ev) : ∀ (a : List Pt) (x : Pt), addL l (a ++ [x]) = a ++ [(x.1, x.2 ++ l)]
  | [], x => rfl
  | [y], x => rfl
  | y :: z :: a, x => by simpa [addL] using addL_snoc l (z :: a) x
theorem addL_len (l : List Ev) (a : List Pt) : (addL l a).length = a.length := by
  rcases List.eq_nil_or_concat a with rfl | ⟨b, x, rfl⟩
  · rfl
  · simp [addL_snoc]
theorem addL_get (l : List Ev) (a : List Pt) (i : Nat) (p : Pt) (h : a[i]? = some p) : (addL l a)[i]? = some (p.1, if i + 1 = a.length then p.2 ++ l else p.2) := by
  rcases List.eq_nil_or_concat a with rfl | ⟨b, x, rfl⟩
  · simp at h
  · simp only [List.concat_eq_append] at h ⊢
    rw [addL_snoc]
    rcases Nat.lt_or_ge i b.length with hlt | hge
    · rw [List.getElem?_append_left hlt] at h ⊢
      rw [if_neg (by simp; omega), h]
    · rw [List.getElem?_append_right hge] at h ⊢
      have h0 : i - b.length = 0 := by
        rcases Nat.eq_zero_or_pos (i - b.length) with h0 | h0
        · exact h0
        · rw [List.getElem?_eq_none (by simp; omega)] at h; cases h
      rw [h0] at h ⊢
      simp at h
      subst h
      rw [if_pos (by simp; omega)]
      simp
theorem JR.add {es : List Ev} {ms : List Mk} {qs : List Pt} (h : JR es ms qs) (l : List Ev) : JR (es ++ l) ms (addL l qs) := by
  have hne := h.ne
  rcases List.eq_nil_or_concat qs with rfl | ⟨b, x, rfl⟩
  · simp at hne
  · obtain ⟨_, he, hm⟩ := h
    simp only [List.concat_eq_append] at he hm ⊢
    rw [addL_snoc]
    refine ⟨by simp, ?_, ?_⟩
    · rw [he, ptEvs_append, ptEvs_append]
      simp [ptEvs]
    · rw [hm]
      cases b with
      | nil => simp [ptMks]
      | cons y b => simp only [List.cons_append, List.drop_succ_cons, List.drop_zero, List.take_succ_cons, List.take_zero, ptMks_append]; simp [ptMks]
/-- The part of a live checkpoint. -/
def findP (qs : List Pt) (c : Int) : Int := match (qs.drop 1).findIdx? (fun p => decide (p.1 = c)) with | some i => (i : Int) + 1 | none => -1
theorem JR.findN {es : List Ev} {ms : List Mk} {qs : List Pt} (h : JR es ms qs) {c : Int} (hp : place ms c = none) : findP qs c = -1 := by
  rw [h.ms, place_mks] at hp
  unfold findP
  rw [hp]
theorem JR.findS {es : List Ev} {ms : List Mk} {qs : List Pt} (h : JR es ms qs) {c : Int} {i : Nat} (hp : place ms c = some i) : findP qs c = (i : Int) + 1 := by
  rw [h.ms, place_mks] at hp
  unfold findP
  rw [hp]
/-- Behind a checkpoint stands just a list. -/
def backP (qs : List Pt) (i : Nat) (n : Int) (l : List Ev) : List Pt := qs.take i ++ [(n, l)]
theorem JR.at_ {es : List Ev} {ms : List Mk} {qs : List Pt} (h : JR es ms qs) {c : Int} {i : Nat} (hp : place ms c = some i) :
    ∃ p : Pt, qs[i + 1]? = some p ∧ p.1 = c ∧ ms[i]? = some (c, (ptEvs (qs.take (i + 1))).length) ∧ es.drop (ptEvs (qs.take (i + 1))).length = ptEvs (qs.drop (i + 1)) ∧ es.take (ptEvs (qs.take (i + 1))).length = ptEvs (qs.take (i + 1)) ∧
      (ptEvs (qs.take (i + 1))).length ≤ es.length ∧ i + 1 < qs.length := by
  obtain ⟨m, hm, hc⟩ := place_spec hp
  have hml := h.mlen
  have hil : i < ms.length := (List.getElem?_eq_some_iff.1 hm).1
  obtain ⟨q, ps, rfl⟩ := List.exists_cons_of_length_pos h.ne
  have hps : i < ps.length := by simp at hml; omega
  have hg := ptMks_get (ptEvs ((q :: ps).take 1)).length ps i ps[i] (List.getElem?_eq_getElem hps)
  have hms := h.ms
  simp only [List.drop_succ_cons, List.drop_zero] at hms
  rw [← hms, hm] at hg
  obtain rfl := Option.some.inj hg
  have hk : (ptEvs ((q :: ps).take 1)).length + (ptEvs (ps.take i)).length = (ptEvs ((q :: ps).take (i + 1))).length := by simp [ptEvs]
  have hes : es = ptEvs ((q :: ps).take (i + 1)) ++ ptEvs ((q :: ps).drop (i + 1)) := by rw [← ptEvs_append, List.take_append_drop]; exact h.es
  refine ⟨ps[i], by simp [List.getElem?_eq_getElem hps], hc, ?_, ?_, ?_, ?_, by simp; omega⟩
  · rw [hm, ← hk, ← hc]
  · rw [hes]; exact List.drop_left
  · rw [hes]; exact List.take_left
  · rw [hes]; simp
theorem JR.back {es : List Ev} {ms : List Mk} {qs : List Pt} (h : JR es ms qs) {c : Int} {i : Nat} (hp : place ms c = some i) (l : List Ev) : JR (es.take (ptEvs (qs.take (i + 1))).length ++ l) (ms.take (i + 1)) (backP qs (i + 1) c l) := by
  obtain ⟨p, hq, hpc, hm, hd, ht, hle, hlt⟩ := h.at_ hp
  have hms := h.ms
  rw [ht]
  unfold backP
  obtain ⟨q, ps, rfl⟩ := List.exists_cons_of_length_pos h.ne
  refine ⟨by simp, ?_, ?_⟩
  · rw [ptEvs_append]
    simp [ptEvs]
  · have hps : i < ps.length := by simpa using hlt
    have hpi : ps[i] = p := by
      simp at hq
      rw [List.getElem?_eq_getElem hps] at hq
      exact Option.some.inj hq
    simp only [List.drop_succ_cons, List.drop_zero] at hms
    rw [hms, ptMks_take]
    simp only [List.take_succ_cons, List.take_zero, List.cons_append, List.drop_succ_cons, List.drop_zero]
    rw [ptMks_append, List.take_succ_eq_append_getElem hps, ptMks_append, hpi]
    simp [ptMks, hpc]
theorem JR.marks {es : List Ev} {ms : List Mk} {qs : List Pt} (h : JR es ms qs) : ms.map Prod.fst = (qs.drop 1).map Prod.fst := by rw [h.ms, ptMks_fst]
end Go.Proofs.Ytpbocficffbcbaa
namespace Go.Proofs.Ytpbocficffbcbaa
open Go Go.RowKit
set_option linter.unusedVariables false

abbrev K3 := Int × Int × Int
def keyE (e : Ev) : K3 := (e.k, e.a, e.b)
def kcv3 (k : K3) : Value := .agg #[.int .i64 k.1, .int .i64 k.2.1, .int .i64 k.2.2]
def kcn (n : Int) : Value := .int .i64 n

/-- A field's event, taken into account. -/
def addS : List Ev → Ev → List Ev
  | [], e => [e]
  | x :: t, e => if keyE e = keyE x then { x with d := e.d } :: t else x :: addS t e
def addM (ms : List Ev) (e : Ev) : List Ev := if setsB e then ms else ms ++ [e]
def addT (ss : List Ev) (e : Ev) : List Ev := if setsB e then addS ss e else ss
def leftE (e : Ev) : Bool := decide (e.c ≠ e.d)
def endS (ms ss : List Ev) : List Ev := ms ++ ss.filter leftE
/-- The net, from what there is. -/
def netG (out ms ss : List Ev) : List Ev → List Ev
  | [] => out ++ endS ms ss
  | e :: t => if makesB e then netG (out ++ endS ms ss ++ [e]) [] [] t else netG out (addM ms e) (addT ss e) t
def netF (l : List Ev) : List Ev := netG [] [] [] l

/-- Where each field's event stands. -/
def kvs : List Ev → Int → List (K3 × Int)
  | [], _ => []
  | x :: t, i => (keyE x, i) :: kvs t (i + 1)
theorem kvs_append (ss : List Ev) (e : Ev) : ∀ i, kvs (ss ++ [e]) i = kvs ss i ++ [(keyE e, i + ss.length)] := by
  induction ss with
  | nil => intro i; simp [kvs]
  | cons x t ih =>
    intro i
    simp only [List.cons_append, kvs, ih, List.length_cons, List.cons.injEq, true_and, List.append_cancel_left_eq, Prod.mk.injEq, and_true]
    omega
theorem kvs_length (ss : List Ev) : ∀ i, (kvs ss i).length = ss.length := by
  induction ss with
  | nil => intro i; rfl
  | cons x t ih => intro i; simp [kvs, ih]
theorem addS_new {ss : List Ev} {e : Ev} : ∀ (i : Nat) (v : Int), fnd (keyE e) (kvs ss v) i = none → addS ss e = ss ++ [e] := by
  induction ss with
  | nil => intros; rfl
  | cons x t ih =>
    intro i v h
    simp only [kvs, fnd] at h
    split at h
    · cases h
    · rename_i hk
      simp only [addS, if_neg hk, List.cons_append]
      rw [ih _ _ h]
theorem fnd_none_all {ss : List Ev} {e : Ev} : ∀ (i j : Nat) (v u : Int), fnd (keyE e) (kvs ss v) i = none → fnd (keyE e) (kvs ss u) j = none := by
  induction ss with
  | nil => intros; rfl
  | cons x t ih =>
    intro i j v u h
    simp only [kvs, fnd] at h ⊢
    split at h
    · cases h
    · rename_i hk
      rw [if_neg hk]
      exact ih _ _ _ _ h
theorem put_kvs {ss : List Ev} {e : Ev} (h : fnd (keyE e) (kvs ss 0) 0 = none) : put (keyE e) (ss.length : Int) (kvs ss 0) = kvs (ss ++ [e]) 0 := by
  rw [put_new (fun i => fnd_none_all 0 i 0 0 h), kvs_append]
  simp
theorem addS_old {ss : List Ev} {e : Ev} : ∀ (i : Nat) (v : Int) (j : Nat) (u : Int), fnd (keyE e) (kvs ss v) i = some (j, u) → ∃ k x, j = i + k ∧ u = v + k ∧ ss[k]? = some x ∧ addS ss e = ss.set k { x with d := e.d } ∧ kvs (addS ss e) v = kvs ss v := by
  induction ss with
  | nil => intro i v j u h; cases h
  | cons x t ih =>
    intro i v j u h
    simp only [kvs, fnd] at h
    split at h
    · rename_i hk
      simp only [Option.some.injEq, Prod.mk.injEq] at h
      obtain ⟨rfl, rfl⟩ := h
      exact ⟨0, x, rfl, by simp, rfl, by rw [addS, if_pos hk]; rfl, by rw [addS, if_pos hk]; rfl⟩
    · rename_i hk
      obtain ⟨k, y, rfl, rfl, h1, h2, h3⟩ := ih _ _ _ _ h
      refine ⟨k + 1, y, by omega, by omega, by simpa using h1, by simp [addS, hk, h2], by simp only [addS, if_neg hk, kvs, h3]⟩

theorem key_equal (w : World) (x y : K3) : (Op.equal 164 (kcv3 x) (kcv3 y)).run Try.prog w = .ok (decide (x = y)) w := by
  obtain ⟨i, hi, _⟩ := info_parts Try.infoInt
  have h := equalIn_ints 9998 Try.underlying164 Try.underlying3 hi (by kernel_rfl) w [x.1, x.2.1, x.2.2] [y.1, y.2.1, y.2.2] rfl rfl
  rw [show decide (x = y) = decide ([x.1, x.2.1, x.2.2] = [y.1, y.2.1, y.2.2]) by
    obtain ⟨a, b, c⟩ := x
    obtain ⟨d, e, f⟩ := y
    simp [Prod.ext_iff]]
  exact h
theorem key_check (n : Nat) (w : World) (b : Bool) (k : K3) : (Instr.checkKey b (n + 2) 164 (kcv3 k)).run Try.prog w = .ok () w := by
  unfold kcv3
  obtain ⟨i, hi, _, hs, _⟩ := info_parts Try.infoInt
  simp [Instr.checkKey, part, isAgg, sizeOf, typeInfo, hi, hs, run_underlying Try.underlying164, run_underlying Try.underlying3, go_sem, List.range'_succ]
theorem keyLaw3 : KeyLaw Try.prog 164 kcv3 :=
  keyLaw_asked Try.underlying164 (fun _ _ => rfl) key_equal (fun w b k => key_check 9998 w b k) (fun k => by
    have gen : ∀ n, Instr.sameBits (n + 1) (kcv3 k) (kcv3 k) = true := by
      intro n
      simp [kcv3, Instr.sameBits, sameBits_int]
    exact gen 9999)

set_option maxRecDepth 100000 in
set_option maxHeartbeats 400000 in
theorem netKey (w : World) (e : Ev) : Calls Try.prog 122 #[evV e] w (fun x w' => x = .returned (kcv3 (keyE e)) ∧ Below w.heap.size w w') := by
  go_enter Try.func122, Try.ntmps122
  go_wp2_with fail
  have oz := alloc_new (w.alloc (.cells (evA e) 64)) (.cells #[.int .i64 e.k, .int .i64 e.a, .int .i64 e.b] 164)
  rw [World.size_alloc] at oz
  exact bodyPost_ret (results_cell_row rfl _ _ (w.heap.size + 1) 164 #[.int .i64 e.k, .int .i64 e.a, .int .i64 e.b] (0, 0) _ rfl oz Try.underlying164 rfl (by kernel_rfl)) rfl ⟨rfl, ((Below.refl _ w).alloc (Nat.le_refl _) _).alloc (by simp) _⟩

/-! ### in memory -/
structure SpanA where
  bs : Nat
  br : Nat
  ma : Option Addr
  mc : Nat
  sa : Option Addr
  sc : Nat
def SpanA.own (g : SpanA) (k : Nat) : Prop := k = g.bs ∨ k = g.br ∨ blk g.ma k ∨ blk g.sa k
structure SpanAt (w : World) (B : Nat) (g : SpanA) (ms ss : List Ev) : Prop where
  obj : w.heap[g.bs]? = some (.cells #[.slice g.ma ms.length g.mc, .slice g.sa ss.length g.sc, .map (some g.br)] 163 (0, 0))
  rm : RowAt w 64 6 g.ma ms.length g.mc (evs ms)
  rs : RowAt w 64 6 g.sa ss.length g.sc (evs ss)
  map : MapIs w g.br kcv3 kcn (kvs ss 0)
  dis : g.br ≠ g.bs ∧ ¬ blk g.ma g.bs ∧ ¬ blk g.sa g.bs ∧ ¬ blk g.ma g.br ∧ ¬ blk g.sa g.br ∧ ∀ k, blk g.ma k → ¬ blk g.sa k
  fr : ∀ k, g.own k → B ≤ k
theorem SpanAt.own_lt {w : World} {B : Nat} {g : SpanA} {ms ss : List Ev} (h : SpanAt w B g ms ss) : ∀ k, g.own k → k < w.heap.size := fun k hk => by
  rcases hk with rfl | rfl | ⟨ad, he, rfl⟩ | ⟨ad, he, rfl⟩
  · exact obj_lt h.obj
  · exact obj_lt h.map
  · exact h.rm.lt ad he
  · exact h.rs.lt ad he
theorem SpanAt.upd {S : Nat → Prop} {w w' : World} {B : Nat} {g : SpanA} {ms ss : List Ev} (h : SpanAt w B g ms ss) (k : Upd S w w') (hS : ∀ j, g.own j → ¬ S j) : SpanAt w' B g ms ss where
  obj := k.obj h.obj (hS _ (.inl rfl))
  rm := h.rm.upd k (fun ad he => hS _ (.inr (.inr (.inl ⟨ad, he, rfl⟩))))
  rs := h.rs.upd k (fun ad he => hS _ (.inr (.inr (.inr ⟨ad, he, rfl⟩))))
  map := k.obj h.map (hS _ (.inr (.inl rfl)))
  dis := h.dis
  fr := h.fr
theorem SpanAt.all {w w' : World} {B : Nat} {g : SpanA} {ms ss : List Ev} (h : SpanAt w B g ms ss) (k : Below w.heap.size w w') : SpanAt w' B g ms ss :=
  h.upd (Upd.of_below (S := fun _ => False) k) (fun _ _ f => f)

/-- Behind begin. -/
def NewSpan (w : World) (x : Ending) (w' : World) : Prop :=
  ∃ g : SpanA, x = .returned (.pointer (some ⟨g.bs, 0, none⟩)) ∧ SpanAt w' w.heap.size g [] [] ∧ Below w.heap.size w w'
set_option maxHeartbeats 400000 in
theorem netBegin (w : World) : Calls Try.prog 102 #[] w (NewSpan w) := by
  have hmm := @run_makeMap Try.prog
  go_enter Try.func102, Try.ntmps102
  go_wp2_with fail
  go_ret
  have oz := alloc_new (w.alloc (.map #[] 0)) (.cells #[.slice none 0 0, .slice none 0 0, .map (some w.heap.size)] 163)
  rw [World.size_alloc] at oz
  refine ⟨⟨w.heap.size + 1, w.heap.size, none, 0, none, 0⟩, by simp, ⟨oz, RowAt.null _ _ _, RowAt.null _ _ _, alloc_obj (alloc_new w _), ⟨by simp, ?_, ?_, ?_, ?_, ?_⟩, ?_⟩, ((Below.refl _ w).alloc (Nat.le_refl _) _).alloc (by simp) _⟩
  · rintro ⟨ad, he, _⟩; cases he
  · rintro ⟨ad, he, _⟩; cases he
  · rintro ⟨ad, he, _⟩; cases he
  · rintro ⟨ad, he, _⟩; cases he
  · rintro k ⟨ad, he, _⟩; cases he
  · rintro k (rfl | rfl | ⟨ad, he, _⟩ | ⟨ad, he, _⟩)
    · simp
    · simp
    · cases he
    · cases he
end Go.Proofs.Ytpbocficffbcbaa
namespace Go.Proofs.Ytpbocficffbcbaa
open Go Go.RowKit
set_option linter.unusedVariables false

/-- Behind add. -/
def AddTo (w : World) (B : Nat) (g : SpanA) (ms ss : List Ev) (x : Ending) (w' : World) : Prop :=
  x = .returned (.tuple #[]) ∧ ∃ g' : SpanA, g'.bs = g.bs ∧ SpanAt w' B g' ms ss ∧ Upd g.own w w' ∧ ∀ k, g'.own k → g.own k ∨ w.heap.size ≤ k

theorem evs_snoc (l : List Ev) (e : Ev) : evs (l ++ [e]) = evs l ++ evC e := by simp [evs]
theorem blk_loc {a a' : Option Addr} {n : Nat} (h : ∀ ad, a' = some ad → a = some ad ∨ n ≤ ad.block) {k : Nat} (hk : blk a' k) : blk a k ∨ n ≤ k := by
  obtain ⟨ad, he, rfl⟩ := hk
  rcases h ad he with h1 | h1
  · exact .inl ⟨ad, h1, rfl⟩
  · exact .inr h1

theorem SpanAt.pushM {w1 w2 : World} {B : Nat} {g : SpanA} {ms ss : List Ev} (h : SpanAt w1 B g ms ss) (hx : Upd (blk g.ma) w1 w2) {a' : Option Addr} {c' : Nat} {e : Ev} (hrow : RowAt w2 64 6 a' (ms.length + 1) c' (evs ms ++ evC e))
    (hloc : ∀ ad, a' = some ad → g.ma = some ad ∨ w1.heap.size ≤ ad.block) (hB : B ≤ w1.heap.size) :
    SpanAt (w2.setCell ⟨g.bs, 0, none⟩ (.slice a' (ms.length + 1) c')) B { g with ma := a', mc := c' } (ms ++ [e]) ss ∧ Upd g.own w1 (w2.setCell ⟨g.bs, 0, none⟩ (.slice a' (ms.length + 1) c')) ∧ ∀ k, SpanA.own { g with ma := a', mc := c' } k → g.own k ∨ w1.heap.size ≤ k := by
  obtain ⟨d1, d2, d3, d4, d5, d6⟩ := h.dis
  have hlt := h.own_lt
  have hbs := hlt g.bs (.inl rfl)
  have hbr := hlt g.br (.inr (.inl rfl))
  have hown : ∀ k, SpanA.own { g with ma := a', mc := c' } k → g.own k ∨ w1.heap.size ≤ k := fun k hk => by
    rcases hk with rfl | rfl | hk | hk
    · exact .inl (.inl rfl)
    · exact .inl (.inr (.inl rfl))
    · rcases blk_loc hloc hk with h1 | h1
      · exact .inl (.inr (.inr (.inl h1)))
      · exact .inr h1
    · exact .inl (.inr (.inr (.inr hk)))
  have hnew : ∀ k, blk a' k → k ≠ g.bs ∧ k ≠ g.br ∧ ¬ blk g.sa k := fun k hk => by
    rcases blk_loc hloc hk with h1 | h1
    · exact ⟨fun hq => d2 (hq ▸ h1), fun hq => d4 (hq ▸ h1), d6 k h1⟩
    · exact ⟨by omega, by omega, fun hq => by have := hlt k (.inr (.inr (.inr hq))); omega⟩
  refine ⟨⟨?_, ?_, ?_, ?_, ⟨d1, fun hq => (hnew _ hq).1 rfl, d3, fun hq => (hnew _ hq).2.1 rfl, d5, fun k hk => (hnew k hk).2.2⟩, fun k hk => ?_⟩, ?_, hown⟩
  · have := obj_set (hx.obj h.obj d2) 0 (.slice a' (ms.length + 1) c')
    simpa using this
  · rw [evs_snoc, List.length_append]
    exact hrow.setCell ⟨g.bs, 0, none⟩ (fun ad he hq => (hnew _ ⟨ad, he, rfl⟩).1 hq) _
  · exact (h.rs.upd hx (fun ad he hq => d6 _ hq ⟨ad, he, rfl⟩)).setCell ⟨g.bs, 0, none⟩ (fun ad he hq => d3 ⟨ad, he, hq⟩) _
  · exact setCell_obj (hx.obj h.map d4) d1
  · rcases hown k hk with h1 | h1
    · exact h.fr k h1
    · omega
  · exact (hx.mono (fun k _ hk => .inr (.inr (.inl hk)))).setCell ⟨g.bs, 0, none⟩ (fun _ => .inl rfl) _

theorem SpanAt.pushS {w1 wm w2 : World} {B : Nat} {g : SpanA} {ms ss : List Ev} (h : SpanAt w1 B g ms ss) {e : Ev} (hm : Upd (fun k => k = g.br) w1 wm) (hmap : MapIs wm g.br kcv3 kcn (kvs (ss ++ [e]) 0)) (hx : Upd (blk g.sa) wm w2) {a' : Option Addr} {c' : Nat}
    (hrow : RowAt w2 64 6 a' (ss.length + 1) c' (evs ss ++ evC e)) (hloc : ∀ ad, a' = some ad → g.sa = some ad ∨ w1.heap.size ≤ ad.block) (hB : B ≤ w1.heap.size) :
    SpanAt (w2.setCell ⟨g.bs, 1, none⟩ (.slice a' (ss.length + 1) c')) B { g with sa := a', sc := c' } ms (ss ++ [e]) ∧ Upd g.own w1 (w2.setCell ⟨g.bs, 1, none⟩ (.slice a' (ss.length + 1) c')) ∧ ∀ k, SpanA.own { g with sa := a', sc := c' } k → g.own k ∨ w1.heap.size ≤ k := by
  obtain ⟨d1, d2, d3, d4, d5, d6⟩ := h.dis
  have hlt := h.own_lt
  have hbs := hlt g.bs (.inl rfl)
  have hbr := hlt g.br (.inr (.inl rfl))
  have hown : ∀ k, SpanA.own { g with sa := a', sc := c' } k → g.own k ∨ w1.heap.size ≤ k := fun k hk => by
    rcases hk with rfl | rfl | hk | hk
    · exact .inl (.inl rfl)
    · exact .inl (.inr (.inl rfl))
    · exact .inl (.inr (.inr (.inl hk)))
    · rcases blk_loc hloc hk with h1 | h1
      · exact .inl (.inr (.inr (.inr h1)))
      · exact .inr h1
  have hnew : ∀ k, blk a' k → k ≠ g.bs ∧ k ≠ g.br ∧ ¬ blk g.ma k := fun k hk => by
    rcases blk_loc hloc hk with h1 | h1
    · exact ⟨fun hq => d3 (hq ▸ h1), fun hq => d5 (hq ▸ h1), fun hq => d6 k hq h1⟩
    · exact ⟨by omega, by omega, fun hq => by have := hlt k (.inr (.inr (.inl hq))); omega⟩
  refine ⟨⟨?_, ?_, ?_, ?_, ⟨d1, d2, fun hq => (hnew _ hq).1 rfl, d4, fun hq => (hnew _ hq).2.1 rfl, fun k hk hq => (hnew k hq).2.2 hk⟩, fun k hk => ?_⟩, ?_, hown⟩
  · have := obj_set (hx.obj (hm.obj h.obj (Ne.symm d1)) d3) 1 (.slice a' (ss.length + 1) c')
    simpa using this
  · exact ((h.rm.upd hm (fun ad he hq => d4 ⟨ad, he, hq⟩)).upd hx (fun ad he hq => d6 _ ⟨ad, he, rfl⟩ hq)).setCell ⟨g.bs, 1, none⟩ (fun ad he hq => d2 ⟨ad, he, hq⟩) _
  · rw [evs_snoc, List.length_append]
    exact hrow.setCell ⟨g.bs, 1, none⟩ (fun ad he hq => (hnew _ ⟨ad, he, rfl⟩).1 hq) _
  · exact setCell_obj (hx.obj hmap d5) d1
  · rcases hown k hk with h1 | h1
    · exact h.fr k h1
    · omega
  · exact ((hm.mono (fun k _ hk => .inr (.inl hk))).trans (hx.mono (T := g.own) (fun k _ hk => .inr (.inr (.inr hk)))) (fun _ _ h => h)).setCell ⟨g.bs, 1, none⟩ (fun _ => .inl rfl) _

theorem evs_set : ∀ (l : List Ev) (k : Nat) (x : Ev) (d : Int), l[k]? = some x → (evs l).set (k * 6 + 4) (.int .i64 d) = evs (l.set k { x with d := d })
  | [], k, x, d, h => by simp at h
  | y :: l, 0, x, d, h => by
    simp at h
    subst h
    rfl
  | y :: l, k + 1, x, d, h => by
    simp only [List.getElem?_cons_succ] at h
    have ih := evs_set l k x d h
    simp only [evs, List.flatMap_cons, List.set_cons_succ] at ih ⊢
    rw [List.set_append_right _ _ (by simp [evC]; omega), ← ih]
    congr 2
    simp [evC]
    omega
theorem SpanAt.setD {w1 : World} {B : Nat} {g : SpanA} {ms ss : List Ev} (h : SpanAt w1 B g ms ss) {b off k : Nat} {x : Ev} (d : Int) (hs : g.sa = some ⟨b, off, none⟩) (hx : ss[k]? = some x) (hkv : kvs (ss.set k { x with d := d }) 0 = kvs ss 0) :
    SpanAt (w1.setCell ⟨b, off + k * 6 + 4, none⟩ (.int .i64 d)) B g ms (ss.set k { x with d := d }) ∧ Upd g.own w1 (w1.setCell ⟨b, off + k * 6 + 4, none⟩ (.int .i64 d)) := by
  obtain ⟨d1, d2, d3, d4, d5, d6⟩ := h.dis
  have hb : blk g.sa b := ⟨_, hs, rfl⟩
  have hk := (List.getElem?_eq_some_iff.1 hx).1
  refine ⟨⟨?_, ?_, ?_, ?_, h.dis, h.fr⟩, (Upd.refl _ _).setCell ⟨b, off + k * 6 + 4, none⟩ (fun _ => .inr (.inr (.inr hb))) _⟩
  · rw [List.length_set]
    exact setCell_obj (p := ⟨b, off + k * 6 + 4, none⟩) h.obj (fun hq => d3 (by rw [hq]; exact hb))
  · exact h.rm.setCell ⟨b, off + k * 6 + 4, none⟩ (fun ad he hq => d6 _ ⟨ad, he, hq⟩ hb) _
  · have hr := h.rs
    rw [hs] at hr ⊢
    have := hr.setAt (k * 6 + 4) (by omega) (.int .i64 d) rfl
    rw [evs_set ss k x d hx, ← Nat.add_assoc] at this
    rw [List.length_set]
    exact this
  · rw [hkv]
    exact setCell_obj (p := ⟨b, off + k * 6 + 4, none⟩) h.map (fun hq => d5 (by rw [hq]; exact hb))
end Go.Proofs.Ytpbocficffbcbaa
namespace Go.Proofs.Ytpbocficffbcbaa
open Go Go.RowKit
set_option linter.unusedVariables false

theorem GrE.app {B : Nat} {w wr w' : World} {m : Value} {n : Nat} {ys zs : List Ev} {a a' : Option Addr} {c c' k : Nat} (h : GrE B w wr m n ys a c) (hu : Upd (blk a) wr w') (hl : ∀ ad, a' = some ad → a = some ad ∨ wr.heap.size ≤ ad.block) (hk : zs.length = k)
    (hr : RowAt w' 64 6 a' (n + k) c' (evs ys ++ evs zs)) : GrE B w w' (.slice a' (n + k) c') (n + k) (ys ++ zs) a' c' where
  len := by rw [List.length_append, h.len, hk]
  m := rfl
  row := by simpa [evs] using hr
  fr := h.fr.step h.le hl
  bel := h.bel.trans (appendBelow h.fr h.le hu)
  le := Nat.le_trans h.le hu.size
theorem GrE.other {S : Nat → Prop} {B : Nat} {w wr w' : World} {m : Value} {n : Nat} {ys : List Ev} {a : Option Addr} {c : Nat} (h : GrE B w wr m n ys a c) (hu : Upd S wr w') (hd : ∀ k, blk a k → ¬ S k) (hB : ∀ k, S k → B ≤ k) : GrE B w w' m n ys a c where
  len := h.len
  m := h.m
  row := h.row.upd hu (fun ad he => hd _ ⟨ad, he, rfl⟩)
  fr := h.fr
  bel := h.bel.trans (hu.below h.le (fun k hk hs => by have := hB k hs; omega))
  le := Nat.le_trans h.le hu.size
theorem SpanAt.mono {w : World} {B C : Nat} {g : SpanA} {ms ss : List Ev} (h : SpanAt w B g ms ss) (hC : C ≤ B) : SpanAt w C g ms ss := ⟨h.obj, h.rm, h.rs, h.map, h.dis, fun k hk => Nat.le_trans hC (h.fr k hk)⟩
theorem addM_len (ms : List Ev) (e : Ev) : (addM ms e).length + (if setsB e then 1 else 0) = ms.length + 1 := by unfold addM; split <;> simp
theorem addS_len (ss : List Ev) (e : Ev) : (addS ss e).length ≤ ss.length + 1 := by
  induction ss with
  | nil => simp [addS]
  | cons x t ih => simp only [addS]; split <;> simp; omega
theorem add_len (ms ss : List Ev) (e : Ev) : (addM ms e).length + (addT ss e).length ≤ ms.length + ss.length + 1 := by
  have := addS_len ss e
  unfold addM addT
  split
  · omega
  · simp; omega
theorem endS_len (ms ss : List Ev) : (endS ms ss).length ≤ ms.length + ss.length := by
  have := List.length_filter_le leftE ss
  simp [endS]; omega

set_option maxRecDepth 100000 in
set_option maxHeartbeats 800000 in
theorem netEnd (w : World) (B : Nat) (g : SpanA) (ms ss : List Ev) (h : SpanAt w B g ms ss) (hm : ms.length ≤ 1000) (hs : ss.length ≤ 1000) :
    Calls Try.prog 104 #[.pointer (some ⟨g.bs, 0, none⟩)] w (NewEvs w (endS ms ss)) := by
  have y0 : w.cell? ⟨g.bs, 0, none⟩ = some (.slice g.ma ms.length g.mc) := (obj_cell h.obj 0).trans rfl
  have hob := Lib.hid h.obj
  have Hrs := Lib.hid h.rs
  have hrm := h.rm.sl
  obtain ⟨mn, hmn⟩ : ∃ mn, mn = ms.length := ⟨_, rfl⟩
  obtain ⟨sn, hsn⟩ : ∃ sn, sn = ss.length := ⟨_, rfl⟩
  rw [← hmn] at y0 hob hrm hm
  rw [← hsn] at hob Hrs hs
  have Hmn := Lib.hid hmn
  have Hsn := Lib.hid hsn
  clear h hmn hsn
  go_enter Try.func104, Try.ntmps104
  go_wp2_with fail
  refine (cloneEvs _ _ _ _ _ hrm (by omega)).mono ?_
  rintro x w1 ⟨a1, c1, rfl, hr1, hf1, hb1, hn1⟩
  have y1 : w1.cell? ⟨g.bs, 1, none⟩ = some (.slice g.sa sn g.sc) := (obj_cell (below_obj hb1 hob.out (obj_lt hob.out)) 1).trans rfl
  have Hg := Lib.hid (show GrE w.heap.size w w1 (.slice a1 mn c1) mn ms a1 c1 from ⟨Hmn.out.symm, rfl, hr1, hf1, hb1, hb1.size⟩)
  clear hr1 hf1 hb1 hn1 hrm y0
  go_wp2_with fail
  clear y1
  go_loopw [3, 16] (fun m v wr => ∃ j : Nat, v = .int .i64 j ∧ j ≤ sn ∧ ∃ ys a' c', ys = ms ++ (ss.take j).filter leftE ∧ ys.length ≤ mn + j ∧ GrE w.heap.size w wr m ys.length ys a' c') (fun _ v _ => sn - (intOf v).toNat)
  case atStart => exact ⟨0, rfl, by omega, ms, a1, c1, by simp, by rw [← Hmn.out]; omega, by rw [← Hmn.out]; exact Hg.out⟩
  case round =>
    obtain ⟨j, rfl, hj, ys, a', c', hys, hyl, hg⟩ := hrel
    have Hys := Lib.hid hys
    clear hys
    by_cases hlt : j < sn
    · obtain ⟨b1, o1, x, hsa, hx, hb1, hev⟩ := ev_at (Hrs.out.sl.all hg.bel) hlt
      obtain ⟨xk, xa, xb, xc, xd, xe⟩ := hev
      have hsa1 := hsa
      have Htk := Lib.hid (ev_take hx)
      clear hx
      obtain rfl := hg.m
      have g2 := hg.step ((Below.refl _ wr).alloc (Nat.le_refl _) (.cells (evA x) 64))
      obtain ⟨yn, hyn⟩ : ∃ yn, yn = ys.length := ⟨_, rfl⟩
      rw [← hyn] at hyl g2 hg ⊢
      have Hyn := Lib.hid hyn
      have hxe := EvCells.of (alloc_new wr (.cells (evA x) 64))
      obtain ⟨z0, z1, z2, z3, z4, z5⟩ := hxe
      have Hg2 := Lib.hid g2
      clear hyn g2 hg
      rw [hsa1]
      by_cases hcd : x.c = x.d
      · have hne : (x.c != x.d) = false := by simp [hcd]
        have Hf := Lib.hid (show leftE x = false by simp [leftE, hcd])
        clear hcd
        go_wp2_with fail
        go_roundw
        case rel => exact ⟨j + 1, rfl, by omega, ys, a', c', by rw [Htk.out, List.filter_append, Hys.out]; simp [Hf.out], by rw [← Hyn.out]; omega, by rw [← Hyn.out]; exact Hg2.out⟩
        case measure => first | (simp [intOf]; done) | (simp [intOf]; omega)
      · have hne : (x.c != x.d) = true := by simp [hcd]
        have Hf := Lib.hid (show leftE x = true by simp [leftE, hcd])
        clear hcd
        have hlit := (RowAt.lit (wr.alloc (.cells (evA x) 64)) (evA x) 64 6 1 (by decide) rfl (by simp [Value.oneCell'])).sl
        rw [World.size_alloc] at hlit
        have Hlit := Lib.hid hlit
        clear hlit
        go_wp2_with (at_builtin; refine wp_append rfl (.tmp 25) (.tmp 27) 40 rfl 64 (.agg #[.int .i64 0, .int .i64 0, .int .i64 0, .int .i64 0, .int .i64 0, .int .i64 0]) 6 48 Try.underlying40 Try.infoEv rfl (by decide) rfl rfl (Hg2.out.row.alloc _) Hlit.out (by unfold maxLen; omega) (by omega) ?_; intro a3 c3 W3 hrow3 hupd3 hloc3 hnil3; have g3 := Lib.hid (Hg2.out.snoc (x := x) hupd3 hloc3 hrow3))
        go_roundw
        case rel => exact ⟨j + 1, rfl, by omega, ys ++ [x], a3, c3, by rw [Htk.out, List.filter_append, Hys.out]; simp [Hf.out], by simp; rw [← Hyn.out]; omega, by simp; rw [← Hyn.out]; exact g3.out⟩
        case measure => first | (simp [intOf]; done) | (simp [intOf]; omega)
    · obtain rfl : j = sn := by omega
      have hfin : ys = endS ms ss := by rw [Hys.out, List.take_of_length_le (by rw [← Hsn.out]; omega)]; rfl
      subst hfin
      obtain rfl := hg.m
      have Hg := Lib.hid hg
      clear hg
      go_wp2_with fail
      go_ret
      exact ⟨a', c', rfl, Hg.out.row, Hg.out.fr, Hg.out.bel⟩
end Go.Proofs.Ytpbocficffbcbaa
namespace Go.Proofs.Ytpbocficffbcbaa
open Go Go.RowKit
set_option linter.unusedVariables false

/-! ### the document's journal in memory -/
structure Pr where
  n : Int
  l : List Ev
  a : Option Addr
  c : Nat
def prC (p : Pr) : List Value := [.int .i64 p.n, .slice p.a p.l.length p.c]
def prP (p : Pr) : Pt := (p.n, p.l)
abbrev prs (rs : List Pr) : List Value := rs.flatMap prC
theorem one_pr (p : Pr) : ∀ u ∈ prC p, u.oneCell' = true := by simp [prC, Value.oneCell']
/-- The parts, in blocks of M. -/
structure PtAt (w : World) (M : Nat → Prop) (a : Option Addr) (n cap : Nat) (rs : List Pr) : Prop where
  sl : SlAt w 2 a n cap (prs rs)
  ev : ∀ p ∈ rs, SlAt w 6 p.a p.l.length p.c (evs p.l)
  ownE : ∀ p ∈ rs, ∀ ad, p.a = some ad → M ad.block
  own : ∀ ad, a = some ad → M ad.block
theorem PtAt.len {w : World} {M : Nat → Prop} {a : Option Addr} {n cap : Nat} {rs : List Pr} (h : PtAt w M a n cap rs) : rs.length = n := by
  have := h.sl.len
  rw [cells_len prC 2 (fun _ => rfl)] at this
  omega
theorem PtAt.upd {S M : Nat → Prop} {w w' : World} {a : Option Addr} {n cap : Nat} {rs : List Pr} (h : PtAt w M a n cap rs) (k : Upd S w w') (hs : ∀ i, M i → ¬ S i) : PtAt w' M a n cap rs :=
  ⟨h.sl.upd k (fun ad he _ => hs _ (h.own ad he)), fun p hp => (h.ev p hp).upd k (fun ad he _ => hs _ (h.ownE p hp ad he)), h.ownE, h.own⟩
theorem PtAt.all {M : Nat → Prop} {w w' : World} {a : Option Addr} {n cap : Nat} {rs : List Pr} (h : PtAt w M a n cap rs) (k : Below w.heap.size w w') : PtAt w' M a n cap rs :=
  ⟨h.sl.all k, fun p hp => (h.ev p hp).all k, h.ownE, h.own⟩
theorem PtAt.more {M M' : Nat → Prop} {w : World} {a : Option Addr} {n cap : Nat} {rs : List Pr} (h : PtAt w M a n cap rs) (k : ∀ i, M i → M' i) : PtAt w M' a n cap rs :=
  ⟨h.sl, h.ev, fun p hp ad he => k _ (h.ownE p hp ad he), fun ad he => k _ (h.own ad he)⟩
theorem pr_at {w : World} {M : Nat → Prop} {a : Option Addr} {n cap k : Nat} {rs : List Pr} (h : PtAt w M a n cap rs) (hk : k < n) :
    ∃ b off p, a = some ⟨b, off, none⟩ ∧ rs[k]? = some p ∧ b < w.heap.size ∧ w.cell? ⟨b, off + k * 2, none⟩ = some (.int .i64 p.n) ∧ w.cell? ⟨b, off + k * 2 + 1, none⟩ = some (.slice p.a p.l.length p.c) ∧ SlAt w 6 p.a p.l.length p.c (evs p.l) := by
  have hl := h.len
  obtain ⟨b, off, rfl, hb, hc⟩ := h.sl.nonempty (by omega)
  have hk' : k < rs.length := by omega
  have key := fun j hj => cells_at prC 2 (fun _ => rfl) rs k j (rs[k]) hk' hj
  have e : rs.getD k rs[k] = rs[k] := by simp [List.getD, List.getElem?_eq_getElem hk']
  rw [e] at key
  refine ⟨b, off, rs[k], rfl, List.getElem?_eq_getElem hk', hb, ?_, ?_, h.ev _ (List.getElem_mem hk')⟩
  · exact hc (k * 2) _ (by rw [show k * 2 = k * 2 + 0 from rfl, key 0 (by decide)]; rfl)
  · exact hc (k * 2 + 1) _ (by rw [key 1 (by decide)]; rfl)

theorem GrE.base {B B' : Nat} {w0 w wr : World} {m : Value} {n : Nat} {ys : List Ev} {a : Option Addr} {c : Nat} (h : GrE B w0 wr m n ys a c) (hb : Below B' w w0) (hB : B' ≤ B) : GrE B' w wr m n ys a c :=
  ⟨h.len, h.m, h.row, h.fr.mono hB, hb.trans (h.bel.mono hB), Nat.le_trans hB h.le⟩
theorem ptEvs_sub (qs : List Pt) (i j : Nat) : (ptEvs ((qs.drop i).take j)).length ≤ (ptEvs qs).length := by
  have h1 : ptEvs qs = ptEvs (qs.take i) ++ (ptEvs ((qs.drop i).take j) ++ ptEvs ((qs.drop i).drop j)) := by rw [← ptEvs_append, List.take_append_drop, ← ptEvs_append, List.take_append_drop]
  rw [h1]
  simp
  omega

set_option maxRecDepth 100000 in
set_option maxHeartbeats 800000 in
theorem refAll (w : World) (M : Nat → Prop) (a : Option Addr) (n cap : Nat) (rs : List Pr) (h : PtAt w M a n cap rs) (last : Int) (i0 : Nat) (hi : i0 ≤ n) (hn : n ≤ 1000) (hlen : (ptEvs (rs.map prP)).length ≤ 2000) :
    Calls Try.prog 48 #[.agg #[.slice a n cap, .int .i64 last], .int .i64 i0] w (NewEvs w (ptEvs ((rs.map prP).drop i0))) := by
  have hl := h.len
  have ob := alloc_new w (.cells #[.slice a n cap, .int .i64 last] 56)
  have hb0 := (Below.refl _ w).alloc (Nat.le_refl _) (.cells #[.slice a n cap, .int .i64 last] 56)
  have hz0 : (w.alloc (.cells #[.slice a n cap, .int .i64 last] 56)).heap.size = w.heap.size + 1 := by simp
  have Hp := Lib.hid (h.all hb0)
  have Hl := Lib.hid hl
  have Hst := Lib.hid (GrE.nil (w.alloc (.cells #[.slice a n cap, .int .i64 last] 56)))
  have Ob := Lib.hid ob
  have Hb0 := Lib.hid hb0
  have Hz0 := Lib.hid hz0
  clear h hl ob hb0 hz0
  go_enter Try.func48, Try.ntmps48
  go_wp2_with fail
  generalize (w.alloc (.cells #[.slice a n cap, .int .i64 last] 56)) = w0 at *
  go_loopw [5, 6] (fun m v wr => ∃ j : Nat, i0 + j ≤ n ∧ v = .int .i64 ((i0 + j : Nat) : Int) ∧ ∃ a' c', GrE w0.heap.size w0 wr m (ptEvs (((rs.map prP).drop i0).take j)).length (ptEvs (((rs.map prP).drop i0).take j)) a' c') (fun _ v _ => n - (intOf v).toNat)
  case atStart => exact ⟨0, by omega, rfl, _, _, by have := Hst.out; simpa [Hz0.out, ptEvs] using this⟩
  case round =>
    obtain ⟨j, hj, rfl, a1, c1, hg⟩ := hrel
    have ob1 := below_obj hg.bel Ob.out (obj_lt Ob.out)
    have cb0 := obj_cell ob1 0
    simp at cb0
    have hsub := ptEvs_sub (rs.map prP) i0 j
    obtain ⟨ys, hys⟩ : ∃ ys, ys = ptEvs (((rs.map prP).drop i0).take j) := ⟨_, rfl⟩
    rw [← hys] at hg hsub
    have Hys := Lib.hid hys
    obtain ⟨yn, hyn⟩ : ∃ yn, yn = ys.length := ⟨_, rfl⟩
    rw [← hyn] at hg hsub
    have Hyn := Lib.hid hyn
    obtain rfl := hg.m
    have HG := Lib.hid hg
    clear hg ob1 hys hyn
    by_cases hlt : i0 + j < n
    · obtain ⟨b, off, p, rfl, hp, hbb, d0, d1, hs⟩ := pr_at (Hp.out.all (HG.out.bel)) hlt
      have hpl : (ptEvs (((rs.map prP).drop i0).take (j + 1))) = ys ++ p.l := by
        have h1 : ((rs.map prP).drop i0)[j]? = some (prP p) := by rw [List.getElem?_drop, List.getElem?_map, hp]; rfl
        obtain ⟨hk, h2⟩ := List.getElem?_eq_some_iff.1 h1
        rw [List.take_succ_eq_append_getElem hk, h2, ptEvs_append, Hys.out]
        simp [ptEvs, prP]
      have hsub2 := ptEvs_sub (rs.map prP) i0 (j + 1)
      rw [hpl, List.length_append] at hsub2
      obtain ⟨pn, hpn⟩ : ∃ pn, pn = p.l.length := ⟨_, rfl⟩
      rw [← hpn] at d1 hs hsub2
      have Hpl := Lib.hid hpl
      have Hpn := Lib.hid hpn
      have Hs := Lib.hid hs
      rw [← Hyn.out] at hsub2
      clear hp hpl hpn hs d0
      go_wp2_with (at_builtin; refine wp_append rfl (.tmp 16) (.tmp 22) 40 rfl 64 (.agg #[.int .i64 0, .int .i64 0, .int .i64 0, .int .i64 0, .int .i64 0, .int .i64 0]) 6 48 Try.underlying40 Try.infoEv rfl (by decide) rfl rfl HG.out.row Hs.out (by unfold maxLen; omega) (by omega) ?_; intro a3 c3 W3 hrow3 hupd3 hloc3 hnil3; have g3 := HG.out.app hupd3 hloc3 Hpn.out.symm hrow3; clear hrow3 hupd3 hloc3 hnil3)
      go_roundw
      case rel => exact ⟨j + 1, by omega, by go_num, _, _, g3.to _ _ (by rw [Hpl.out, List.length_append, ← Hyn.out, ← Hpn.out]) Hpl.out.symm⟩
      case measure => simp [intOf]; omega
    · obtain rfl : j = n - i0 := by omega
      have hfin : ys = ptEvs ((rs.map prP).drop i0) := by rw [Hys.out, List.take_of_length_le (by have := Hl.out; simp; omega)]
      have Hfin := Lib.hid hfin
      clear hfin
      go_wp2_with fail
      go_ret
      rw [← Hfin.out]
      refine ⟨a1, c1, by rw [← Hyn.out]; rfl, by rw [← Hyn.out]; exact HG.out.row, HG.out.fr.mono (by have := Hz0.out; omega), (HG.out.base Hb0.out (by have := Hz0.out; omega)).bel⟩

set_option maxRecDepth 100000 in
set_option maxHeartbeats 800000 in
theorem refFind (w : World) (M : Nat → Prop) (a : Option Addr) (n cap : Nat) (rs : List Pr) (h : PtAt w M a n cap rs) (last : Int) (hn : n ≤ 1000) (h1 : 1 ≤ n) (c : Int) :
    Calls Try.prog 46 #[.agg #[.slice a n cap, .int .i64 last], .int .i64 c] w (fun e w' => e = .returned (.int .i64 (findP (rs.map prP) c)) ∧ Below w.heap.size w w') := by
  have hl := h.len
  have ob := alloc_new w (.cells #[.slice a n cap, .int .i64 last] 56)
  have hb0 := (Below.refl _ w).alloc (Nat.le_refl _) (.cells #[.slice a n cap, .int .i64 last] 56)
  have Hp := Lib.hid (h.all hb0)
  have Hl := Lib.hid hl
  have Hb0 := Lib.hid hb0
  have Ob := Lib.hid ob
  clear h hl ob hb0
  go_enter Try.func46, Try.ntmps46
  go_wp2_with fail
  generalize (w.alloc (.cells #[.slice a n cap, .int .i64 last] 56)) = w0 at *
  have cb0 := obj_cell Ob.out 0
  simp at cb0
  go_loopw [5] (fun v wr => ∃ j : Nat, 1 + j ≤ n ∧ v = .int .i64 ((1 + j : Nat) : Int) ∧ wr = w0 ∧ ∀ p ∈ ((rs.map prP).drop 1).take j, p.1 ≠ c) (fun v _ => n - (intOf v).toNat)
  case atStart => exact ⟨0, by omega, rfl, rfl, by simp⟩
  case round =>
    obtain ⟨j, hj, rfl, rfl, hno⟩ := hrel
    have Hno := Lib.hid hno
    clear hno
    by_cases hlt : 1 + j < n
    · obtain ⟨b, off, p, rfl, hp, hbb, d0, d1, hs⟩ := pr_at Hp.out hlt
      have hq : ((rs.map prP).drop 1)[j]? = some (prP p) := by rw [List.getElem?_drop, List.getElem?_map, hp]; rfl
      have Hq := Lib.hid hq
      clear hp hq hs d1
      by_cases hc : p.n = c
      · have hr : findP (rs.map prP) c = ((1 + j : Nat) : Int) := by
          unfold findP
          obtain ⟨hk, h2⟩ := List.getElem?_eq_some_iff.1 Hq.out
          have : ((rs.map prP).drop 1).findIdx? (fun p => decide (p.1 = c)) = some j := by
            rw [List.findIdx?_eq_some_iff_getElem]
            refine ⟨hk, by rw [h2]; simp [prP, hc], fun i hi => ?_⟩
            have := Hno.out (((rs.map prP).drop 1)[i]) (List.mem_take_iff_getElem.2 ⟨i, by omega, rfl⟩)
            simpa using this
          rw [this]
          simp
          omega
        have Hr := Lib.hid hr
        have hcb : (p.n == c) = true := by simp [hc]
        clear hr hc
        go_wp2_with fail
        go_ret
        exact ⟨ret_int Hr.out.symm, Hb0.out⟩
      · have hcb : (p.n == c) = false := by simp [hc]
        have hno2 : ∀ q ∈ ((rs.map prP).drop 1).take (j + 1), q.1 ≠ c := by
          obtain ⟨hk, h2⟩ := List.getElem?_eq_some_iff.1 Hq.out
          rw [List.take_succ_eq_append_getElem hk, h2]
          intro q hq
          rcases List.mem_append.1 hq with hq | hq
          · exact Hno.out q hq
          · simp at hq
            subst hq
            exact hc
        have Hno2 := Lib.hid hno2
        clear hno2 hc
        go_wp2_with fail
        go_roundw
        case rel => exact ⟨j + 1, by omega, by go_num, by trivial, Hno2.out⟩
        case measure => simp [intOf]; omega
    · obtain rfl : j = n - 1 := by omega
      have hr : findP (rs.map prP) c = -1 := by
        unfold findP
        have h2 := Hno.out
        rw [List.take_of_length_le (by have := Hl.out; simp; omega)] at h2
        have : ((rs.map prP).drop 1).findIdx? (fun p => decide (p.1 = c)) = none := by
          rw [List.findIdx?_eq_none_iff]
          intro q hq
          simpa using h2 q hq
        rw [this]
      have Hr := Lib.hid hr
      clear hr
      go_wp2_with fail
      go_ret
      exact ⟨ret_int Hr.out.symm, Hb0.out⟩

set_option maxRecDepth 100000 in
set_option maxHeartbeats 1600000 in
theorem refMarks (w : World) (M : Nat → Prop) (a : Option Addr) (n cap : Nat) (rs : List Pr) (h : PtAt w M a n cap rs) (last : Int) (hn : n ≤ 1000) (h1 : 1 ≤ n) :
    Calls Try.prog 90 #[.agg #[.slice a n cap, .int .i64 last]] w (fun e w' => ∃ a' c', e = .returned (.slice a' (n - 1) c') ∧ RowAt w' 3 1 a' (n - 1) c' ((((rs.map prP).drop 1).map Prod.fst).map (.int .i64)) ∧ Fresh w.heap.size a' ∧ Below w.heap.size w w') := by
  have hl := h.len
  have ob := alloc_new w (.cells #[.slice a n cap, .int .i64 last] 56)
  have hb0 := (Below.refl _ w).alloc (Nat.le_refl _) (.cells #[.slice a n cap, .int .i64 last] 56)
  have hz0 : (w.alloc (.cells #[.slice a n cap, .int .i64 last] 56)).heap.size = w.heap.size + 1 := by simp
  have Hp := Lib.hid (h.all hb0)
  have Hl := Lib.hid hl
  have Ob := Lib.hid ob
  have Hb0 := Lib.hid hb0
  have Hz0 := Lib.hid hz0
  clear h hl ob hb0 hz0
  go_enter Try.func90, Try.ntmps90
  go_wp2_with fail
  generalize (w.alloc (.cells #[.slice a n cap, .int .i64 last] 56)) = w0 at *
  have Hst := Lib.hid (⟨rfl, rfl, RowAt.lit w0 #[] 3 1 0 (Nat.zero_le _) rfl (by simp), fresh_new (Nat.le_refl _), (Below.refl _ _).alloc (Nat.le_refl _) _⟩ : Gr w0 (w0.alloc (.cells #[] 3)) (.slice (some ⟨w0.heap.size, 0, none⟩) 0 0) 0 [] (some ⟨w0.heap.size, 0, none⟩) 0)
  go_loopw [3, 4] (fun m v wr => ∃ j : Nat, 1 + j ≤ n ∧ v = .int .i64 ((1 + j : Nat) : Int) ∧ ∃ a' c', Gr w0 wr m j ((((rs.map prP).drop 1).take j).map Prod.fst) a' c') (fun _ v _ => n - (intOf v).toNat)
  case atStart => exact ⟨0, by omega, rfl, _, _, by have := Hst.out; simpa [Hz0.out] using this⟩
  case round =>
    obtain ⟨j, hj, rfl, a1, c1, hg⟩ := hrel
    have ob1 := below_obj hg.bel Ob.out (obj_lt Ob.out)
    have cb0 := obj_cell ob1 0
    simp at cb0
    obtain ⟨ys, hys⟩ : ∃ ys, ys = (((rs.map prP).drop 1).take j).map Prod.fst := ⟨_, rfl⟩
    rw [← hys] at hg
    have Hys := Lib.hid hys
    obtain rfl := hg.m
    have HG := Lib.hid hg
    clear hg ob1 hys
    by_cases hlt : 1 + j < n
    · obtain ⟨b, off, p, rfl, hp, hbb, d0, d1, hs⟩ := pr_at (Hp.out.all (HG.out.bel)) hlt
      have hpl : (((rs.map prP).drop 1).take (j + 1)).map Prod.fst = ys ++ [p.n] := by
        have h1 : ((rs.map prP).drop 1)[j]? = some (prP p) := by rw [List.getElem?_drop, List.getElem?_map, hp]; rfl
        obtain ⟨hk, h2⟩ := List.getElem?_eq_some_iff.1 h1
        rw [List.take_succ_eq_append_getElem hk, h2, List.map_append, Hys.out]
        simp [prP]
      have Hpl := Lib.hid hpl
      have hlit := (RowAt.lit wr #[.int .i64 p.n] 3 1 1 (by decide) rfl (by simp [Value.oneCell'])).sl
      have Hlit := Lib.hid hlit
      clear hp hpl hs d1 hlit
      go_wp2_with (at_builtin; refine wp_append rfl (.tmp 13) (.tmp 20) 22 rfl 3 (.int .i64 0) 1 8 Try.underlying22 Try.infoInt rfl (by decide) rfl rfl (HG.out.row.alloc _) Hlit.out (by unfold maxLen; omega) (by omega) ?_; intro a3 c3 W3 hrow3 hupd3 hloc3 hnil3; have g3 := HG.out.snoc hupd3 hloc3 hrow3; clear hrow3 hupd3 hloc3 hnil3)
      go_roundw
      case rel => exact ⟨j + 1, by omega, by go_num, _, _, by rw [Hpl.out]; exact g3⟩
      case measure => simp [intOf]; omega
    · obtain ⟨m, rfl⟩ : ∃ m, n = m + 1 := ⟨n - 1, by omega⟩
      obtain rfl : j = m := by omega
      have hfin : ys = ((rs.map prP).drop 1).map Prod.fst := by rw [Hys.out, List.take_of_length_le (by have := Hl.out; simp; omega)]
      have Hfin := Lib.hid hfin
      clear hfin
      go_wp2_with fail
      go_ret
      rw [← Hfin.out, Nat.add_sub_cancel]
      exact ⟨a1, c1, rfl, HG.out.row, HG.out.fr.mono (by have := Hz0.out; omega), Hb0.out.trans (HG.out.bel.mono (by have := Hz0.out; omega))⟩
end Go.Proofs.Ytpbocficffbcbaa
namespace Go.Proofs.Ytpbocficffbcbaa
open Go Go.RowKit
set_option linter.unusedVariables false
set_option linter.unusedSimpArgs false

set_option maxRecDepth 100000 in
set_option maxHeartbeats 1600000 in
theorem addMove (w : World) (B : Nat) (g : SpanA) (ms ss : List Ev) (h : SpanAt w B g ms ss) (hm : ms.length ≤ 1000) (hs : ss.length ≤ 1000) (e : Ev) (he : setsB e = false) :
    Calls Try.prog 105 #[.pointer (some ⟨g.bs, 0, none⟩), evV e] w (AddTo w B g (ms ++ [e]) ss) := by
  have hB : B ≤ w.heap.size := by have := h.fr g.bs (.inl rfl); have := obj_lt h.obj; omega
  have b0 : Below w.heap.size w (w.alloc (.cells (evA e) 64)) := (Below.refl _ w).alloc (Nat.le_refl _) _
  have Oe := Lib.hid (alloc_new w (.cells (evA e) 64))
  have H0 := Lib.hid (h.all b0)
  have B0 := Lib.hid b0
  have hbw := h.own_lt
  have Hbw := Lib.hid hbw
  have hz0 : (w.alloc (.cells (evA e) 64)).heap.size = w.heap.size + 1 := by simp
  have hgb := hbw g.bs (.inl rfl)
  obtain ⟨x0, x1, x2, x3, x4, x5⟩ := EvCells.of Oe.out
  have He := Lib.hid he
  clear h b0 hbw he
  go_enter Try.func105, Try.ntmps105
  go_wp2_with fail
  clear x0 x1 x2 x3 x4 x5
  generalize (w.alloc (.cells (evA e) 64)) = w0 at *
  refine (sets _ e).mono ?_
  rintro x w1 ⟨rfl, hb1⟩
  rw [He.out]
  have Oe1 := Lib.hid (below_obj hb1 Oe.out (obj_lt Oe.out))
  have H1 := Lib.hid (H0.out.all hb1)
  have B1 := Lib.hid (B0.out.trans (hb1.mono (by omega)))
  have hw1 := hb1.size
  clear hb1
  have Hrow := Lib.hid H1.out.rm
  have Hobj := Lib.hid H1.out.obj
  have Hnb := Lib.hid H1.out.dis.2.1
  have HOe := Lib.hid Oe1.out
  have Hne := Lib.hid (show ¬ blk g.ma w.heap.size from fun hq => by have := Hbw.out _ (.inr (.inr (.inl hq))); omega)
  obtain ⟨mn, hmn⟩ : ∃ mn, mn = ms.length := ⟨_, rfl⟩
  rw [← hmn] at Hrow Hobj hm
  have Hmn := Lib.hid hmn
  clear hmn
  have hx : Upd (blk g.ma) w1 w1.drew := (Upd.refl _ _).drew
  have HT := Lib.hid (fun (x : World) (hu : Upd (blk g.ma) w1 x) => (⟨(hu.cell (p := ⟨g.bs, 0, none⟩) (obj_lt Hobj.out) Hnb.out).trans ((obj_cell Hobj.out 0).trans rfl), EvCells.of (hu.obj HOe.out Hne.out)⟩ : x.cell? ⟨g.bs, 0, none⟩ = some (.slice g.ma mn g.mc) ∧ EvCells x w.heap.size e))
  have HF := Lib.hid (fun (x : World) (hu : Upd (blk g.ma) w1 x) => obj_free (hu.obj Hobj.out Hnb.out) 0)
  go_wp2_with fail
  refine wp_region_T 10 (fun x => x.cell? ⟨g.bs, 0, none⟩ = some (.slice g.ma mn g.mc) ∧ x.cell? ⟨w.heap.size, 0, none⟩ = some (.int .i64 e.k) ∧ x.cell? ⟨w.heap.size, 1, none⟩ = some (.int .i64 e.a) ∧ x.cell? ⟨w.heap.size, 2, none⟩ = some (.int .i64 e.b) ∧ x.cell? ⟨w.heap.size, 3, none⟩ = some (.int .i64 e.c) ∧ x.cell? ⟨w.heap.size, 4, none⟩ = some (.int .i64 e.d) ∧ x.cell? ⟨w.heap.size, 5, none⟩ = some (.int .i64 e.e)) (by kernel_rfl) (HT.out _ hx) (fun hHeld => ?_)
  refine wpAnyT_takeU (i := 0) (oi := ⟨some 9, _, _, _, _, _⟩) (v := ?_) rfl (by kernel_rfl) (by kernel_rfl) (by kernel_rfl) (by kernel_rfl) (fun _ _ _ h => h) (Or.inl ⟨by rfl, ?_⟩) (fun _ => hHeld) ?_
  rotate_left
  · intro w' hS'
    (try dsimp only at hS')
    go_simp
    try with_reducible rfl
  try simp only [Act.put, List.setIfInBounds_toArray, List.set_cons_zero, List.set_cons_succ]
  refine wpAnyT_takeU (i := 1) (oi := ⟨some 10, _, _, _, _, _⟩) (v := ?_) rfl (by kernel_rfl) (by kernel_rfl) (by kernel_rfl) (by kernel_rfl) (fun _ _ _ h => h) (Or.inl ⟨by rfl, ?_⟩) (fun _ => hHeld) ?_
  rotate_left
  · intro w' hS'
    (try dsimp only at hS')
    go_simp
    try with_reducible rfl
  try simp only [Act.put, List.setIfInBounds_toArray, List.set_cons_zero, List.set_cons_succ]
  refine wpAnyT_takeU (i := 2) (oi := ⟨some 11, _, _, _, _, _⟩) (v := ?_) rfl (by kernel_rfl) (by kernel_rfl) (by kernel_rfl) (by kernel_rfl) (fun _ _ _ h => h) (Or.inl ⟨by rfl, ?_⟩) (fun _ => hHeld) ?_
  rotate_left
  · intro w' hS'
    (try dsimp only at hS')
    go_simp
    try with_reducible rfl
  try simp only [Act.put, List.setIfInBounds_toArray, List.set_cons_zero, List.set_cons_succ]
  refine wpAnyT_takeU (i := 3) (oi := ⟨some 12, _, _, _, _, _⟩) (v := ?_) rfl (by kernel_rfl) (by kernel_rfl) (by kernel_rfl) (by kernel_rfl) (fun _ _ _ h => h) (Or.inl ⟨by rfl, ?_⟩) (fun _ => hHeld) ?_
  rotate_left
  · intro w' hS'
    (try dsimp only at hS')
    go_simp
    try with_reducible rfl
  try simp only [Act.put, List.setIfInBounds_toArray, List.set_cons_zero, List.set_cons_succ]
  refine wpAnyT_take (i := 4) (oi := ⟨some 13, _, _, _, _, _⟩) (v := ?_) rfl (by kernel_rfl) (by kernel_rfl) (by kernel_rfl) (by kernel_rfl) (fun _ _ _ h => h) (Or.inl ⟨by rfl, ?_⟩) hHeld ?_
  rotate_left
  · intro w' hS'
    (try dsimp only at hS')
    go_simp
    try with_reducible rfl
  try simp only [Act.put, List.setIfInBounds_toArray, List.set_cons_zero, List.set_cons_succ]
  refine wpAnyT_take (i := 5) (oi := ⟨some 14, _, _, _, _, _⟩) (v := ?_) rfl (by kernel_rfl) (by kernel_rfl) (by kernel_rfl) (by kernel_rfl) (fun _ _ _ h => h) (Or.inl ⟨by rfl, ?_⟩) hHeld ?_
  rotate_left
  · intro w' hS'
    (try dsimp only at hS')
    go_simp
    try with_reducible rfl
  try simp only [Act.put, List.setIfInBounds_toArray, List.set_cons_zero, List.set_cons_succ]
  refine wpAnyT_all (rs := [6]) (by kernel_rfl) (by simp) ?_
  intro ix hix
  obtain rfl : ix = 6 := by simpa using hix
  clear hix
  refine wpOp_step (o := ⟨some 15, _, _, _, _, _⟩) rfl (fun K hK => ?_)
  have HK := Lib.hid hK
  clear hK
  go_simp
  replace hx : Upd (blk g.ma) w1 (w1.alloc (.cells (evA e) 64)).drew := ((Upd.refl _ _).alloc _).drew
  have Hlit := Lib.hid (((RowAt.lit w1 (evA e) 64 6 1 (by decide) rfl (by simp [Value.oneCell'])).sl).drew)
  have Hr := Lib.hid ((Hrow.out.alloc (.cells (evA e) 64)).drew)
  go_wp2_with fail
  refine HK.out _ _ ⟨fun _ => (HT.out _ hx), ?_⟩
  clear HK
  try clear hHeld
  have hHeld := (HT.out _ hx)
  try simp only [Act.put, List.setIfInBounds_toArray, List.set_cons_zero, List.set_cons_succ]
  refine wpAnyT_all (rs := [7]) (by kernel_rfl) (by simp) ?_
  intro ix hix
  obtain rfl : ix = 7 := by simpa using hix
  clear hix
  refine wpOp_step (o := ⟨some 16, _, _, _, _, _⟩) rfl (fun K hK => ?_)
  have HK := Lib.hid hK
  clear hK
  refine step_append_row rfl (.tmp 13) (.tmp 15) 40 rfl 64 (.agg #[.int .i64 0, .int .i64 0, .int .i64 0, .int .i64 0, .int .i64 0, .int .i64 0]) 6 48 Try.underlying40 Try.infoEv rfl (by decide) rfl rfl Hr.out Hlit.out (by unfold maxLen; omega) (by omega) ?_
  intro a' cap' w2 hrow hupd hloc hnil
  replace hx := hx.trans hupd (fun _ _ h => h)
  have Hrow2 := Lib.hid hrow
  have Hloc := Lib.hid hloc
  clear hrow hupd hloc hnil
  refine HK.out _ _ ⟨fun _ => (HT.out _ hx), ?_⟩
  clear HK
  try clear hHeld
  have hHeld := (HT.out _ hx)
  try simp only [Act.put, List.setIfInBounds_toArray, List.set_cons_zero, List.set_cons_succ]
  refine wpAnyT_takeU (i := 8) (oi := ⟨some 17, _, _, _, _, _⟩) (v := ?_) rfl (by kernel_rfl) (by kernel_rfl) (by kernel_rfl) (by kernel_rfl) (fun _ _ _ h => h) (Or.inl ⟨by rfl, ?_⟩) (fun _ => hHeld) ?_
  rotate_left
  · intro w' hS'
    (try dsimp only at hS')
    go_simp
    try with_reducible rfl
  try simp only [Act.put, List.setIfInBounds_toArray, List.set_cons_zero, List.set_cons_succ]
  refine wpAnyT_takeU (i := 9) (oi := ⟨some 18, _, _, _, _, _⟩) (v := ?_) rfl (by kernel_rfl) (by kernel_rfl) (by kernel_rfl) (by kernel_rfl) (fun _ _ _ h => h) (Or.inl ⟨by rfl, ?_⟩) (fun _ => hHeld) ?_
  rotate_left
  · intro w' hS'
    (try dsimp only at hS')
    go_simp
    try with_reducible rfl
  try simp only [Act.put, List.setIfInBounds_toArray, List.set_cons_zero, List.set_cons_succ]
  refine wpAnyT_all (rs := [10]) (by kernel_rfl) (by simp) ?_
  intro ix hix
  obtain rfl : ix = 10 := by simpa using hix
  clear hix
  refine wpOp_step (o := ⟨none, _, _, _, _, _⟩) rfl (fun K hK => ?_)
  have HK := Lib.hid hK
  clear hK
  have kf := HF.out _ hx
  have kc := (HT.out _ hx).1
  go_simp
  go_wp2_with fail
  refine HK.out _ _ ⟨tl (by kernel_rfl), ?_⟩
  clear HK
  try clear hHeld
  try simp only [Act.put, List.setIfInBounds_toArray, List.set_cons_zero, List.set_cons_succ]
  refine wpAnyT_done (by kernel_rfl) ?_ _
  have Hx := Lib.hid hx
  clear hx kf kc
  go_wp2_with fail
  refine bodyPost_ret (results_none rfl _ _ _) rfl ?_
  rw [Hmn.out] at Hrow2 ⊢
  have key := H1.out.pushM Hx.out (e := e) Hrow2.out (fun ad he => (Hloc.out ad he).imp id (fun h => by simp at h; omega)) (by omega)
  exact ⟨rfl, { g with ma := a', mc := cap' }, rfl, key.1, (Upd.of_below (S := g.own) B1.out).trans key.2.1 (fun _ _ h => h), fun k hk => (key.2.2 k hk).imp id (fun h => by omega)⟩

set_option maxRecDepth 100000 in
set_option maxHeartbeats 1600000 in
theorem addNew (w : World) (B : Nat) (g : SpanA) (ms ss : List Ev) (h : SpanAt w B g ms ss) (hm : ms.length ≤ 1000) (hs : ss.length ≤ 1000) (e : Ev) (he : setsB e = true) (hfn : fnd (keyE e) (kvs ss 0) 0 = none) :
    Calls Try.prog 105 #[.pointer (some ⟨g.bs, 0, none⟩), evV e] w (AddTo w B g ms (ss ++ [e])) := by
  have hB : B ≤ w.heap.size := by have := h.fr g.bs (.inl rfl); have := obj_lt h.obj; omega
  have b0 : Below w.heap.size w (w.alloc (.cells (evA e) 64)) := (Below.refl _ w).alloc (Nat.le_refl _) _
  have Oe := Lib.hid (alloc_new w (.cells (evA e) 64))
  have H0 := Lib.hid (h.all b0)
  have B0 := Lib.hid b0
  have hbw := h.own_lt
  have Hbw := Lib.hid hbw
  have hz0 : (w.alloc (.cells (evA e) 64)).heap.size = w.heap.size + 1 := by simp
  have hgb := hbw g.bs (.inl rfl)
  obtain ⟨x0, x1, x2, x3, x4, x5⟩ := EvCells.of Oe.out
  have He := Lib.hid he
  clear h b0 hbw he
  go_enter Try.func105, Try.ntmps105
  go_wp2_with fail
  clear x0 x1 x2 x3 x4 x5
  generalize (w.alloc (.cells (evA e) 64)) = w0 at *
  refine (sets _ e).mono ?_
  rintro x w1 ⟨rfl, hb1⟩
  rw [He.out]
  have Oe1 := Lib.hid (below_obj hb1 Oe.out (obj_lt Oe.out))
  have H1 := Lib.hid (H0.out.all hb1)
  have B1 := Lib.hid (B0.out.trans (hb1.mono (by omega)))
  have hw1 := hb1.size
  clear hb1
  have Hfn := Lib.hid hfn
  clear hfn
  have hl : ms.length = ms.length := rfl
  have Hx0 : Below w1.heap.size w1 w1.drew := (Below.refl _ _).drew
  have hx := Hx0
  clear Hx0 hl
  have HT := Lib.hid (fun (x : World) (hb : Below w1.heap.size w1 x) => (⟨(obj_cell (below_obj hb H1.out.obj (obj_lt H1.out.obj)) 2).trans rfl, EvCells.of (below_obj hb Oe1.out (obj_lt Oe1.out))⟩ : x.cell? ⟨g.bs, 2, none⟩ = some (.map (some g.br)) ∧ EvCells x w.heap.size e))
  go_wp2_with fail
  refine wp_region_held_drew (S := fun x => x.cell? ⟨g.bs, 2, none⟩ = some (.map (some g.br)) ∧ x.cell? ⟨w.heap.size, 0, none⟩ = some (.int .i64 e.k) ∧ x.cell? ⟨w.heap.size, 1, none⟩ = some (.int .i64 e.a) ∧ x.cell? ⟨w.heap.size, 2, none⟩ = some (.int .i64 e.b) ∧ x.cell? ⟨w.heap.size, 3, none⟩ = some (.int .i64 e.c) ∧ x.cell? ⟨w.heap.size, 4, none⟩ = some (.int .i64 e.d) ∧ x.cell? ⟨w.heap.size, 5, none⟩ = some (.int .i64 e.e)) (by kernel_rfl) (HT.out _ hx) (fun hHeld => ?_)
  refine wpAnyH_take (i := 0) (oi := ⟨some 20, _, _, _, _, _⟩) (v := ?_) rfl (by kernel_rfl) (by kernel_rfl) (by kernel_rfl) (fun _ _ _ h => h) (Or.inl ⟨by rfl, ?_⟩) hHeld ?_
  rotate_left
  · intro w' hS'
    (try dsimp only at hS')
    go_simp
    try with_reducible rfl
  try simp only [Act.put, List.setIfInBounds_toArray, List.set_cons_zero, List.set_cons_succ]
  refine wpAnyH_take (i := 1) (oi := ⟨some 21, _, _, _, _, _⟩) (v := ?_) rfl (by kernel_rfl) (by kernel_rfl) (by kernel_rfl) (fun _ _ _ h => h) (Or.inl ⟨by rfl, ?_⟩) hHeld ?_
  rotate_left
  · intro w' hS'
    (try dsimp only at hS')
    go_simp
    try with_reducible rfl
  try simp only [Act.put, List.setIfInBounds_toArray, List.set_cons_zero, List.set_cons_succ]
  refine wpAnyH_take (i := 2) (oi := ⟨some 22, _, _, _, _, _⟩) (v := ?_) rfl (by kernel_rfl) (by kernel_rfl) (by kernel_rfl) (fun _ _ _ h => h) (Or.inl ⟨by rfl, ?_⟩) hHeld ?_
  rotate_left
  · intro w' hS'
    (try dsimp only at hS')
    go_simp
    try with_reducible rfl
  try simp only [Act.put, List.setIfInBounds_toArray, List.set_cons_zero, List.set_cons_succ]
  refine wpAnyH_take (i := 3) (oi := ⟨some 23, _, _, _, _, _⟩) (v := ?_) rfl (by kernel_rfl) (by kernel_rfl) (by kernel_rfl) (fun _ _ _ h => h) (Or.inl ⟨by rfl, ?_⟩) hHeld ?_
  rotate_left
  · intro w' hS'
    (try dsimp only at hS')
    go_simp
    try with_reducible rfl
  try simp only [Act.put, List.setIfInBounds_toArray, List.set_cons_zero, List.set_cons_succ]
  refine wpAnyH_take (i := 4) (oi := ⟨some 24, _, _, _, _, _⟩) (v := ?_) rfl (by kernel_rfl) (by kernel_rfl) (by kernel_rfl) (fun _ _ _ h => h) (Or.inl ⟨by rfl, ?_⟩) hHeld ?_
  rotate_left
  · intro w' hS'
    (try dsimp only at hS')
    go_simp
    try with_reducible rfl
  try simp only [Act.put, List.setIfInBounds_toArray, List.set_cons_zero, List.set_cons_succ]
  refine wpAnyH_all (rs := [5]) (by kernel_rfl) (by simp) ?_
  intro ix hix
  obtain rfl : ix = 5 := by simpa using hix
  clear hix
  refine wpOp_step (o := ⟨some 25, _, _, _, _, _⟩) rfl (fun K hK => ?_)
  have HK := Lib.hid hK
  clear hK
  go_simp
  refine (netKey _ e).mono ?_
  rintro x wk ⟨rfl, hb⟩
  replace hx := hx.trans (hb.mono hx.size)
  clear hb
  go_wp2_with fail
  refine HK.out _ _ ⟨(HT.out _ hx), ?_⟩
  clear HK
  try clear hHeld
  have hHeld := (HT.out _ hx)
  try simp only [Act.put, List.setIfInBounds_toArray, List.set_cons_zero, List.set_cons_succ]
  refine wpAnyH_all (rs := [6]) (by kernel_rfl) (by simp) ?_
  intro ix hix
  obtain rfl : ix = 6 := by simpa using hix
  clear hix
  refine wpOp_step (o := ⟨some 26, _, _, _, _, _⟩) rfl (fun K hK => ?_)
  have HK := Lib.hid hK
  clear hK
  have hlu : (Instr.lookup 161 (.map (some g.br)) (kcv3 (keyE e)) true).run Try.prog wk = .ok (.tuple #[.int .i64 0, .bool false]) wk := by
    have hq := run_lookup_ok_is keyLaw3 Try.underlying161 (H1.out.all hx).map (z := .int .i64 0) (fun w => by kernel_rfl) (keyE e)
    rw [hq]
    unfold has
    rw [Hfn.out]
    rfl
  go_simp
  go_wp2_with fail
  refine HK.out _ _ ⟨(HT.out _ hx), ?_⟩
  clear HK
  try clear hHeld
  have hHeld := (HT.out _ hx)
  try simp only [Act.put, List.setIfInBounds_toArray, List.set_cons_zero, List.set_cons_succ]
  refine wpAnyH_take (i := 7) (oi := ⟨some 19, _, _, _, _, _⟩) (v := ?_) rfl (by kernel_rfl) (by kernel_rfl) (by kernel_rfl) (fun _ _ _ h => h) (Or.inl ⟨by rfl, ?_⟩) hHeld ?_
  rotate_left
  · intro w' hS'
    (try dsimp only at hS')
    go_simp
    try with_reducible rfl
  try simp only [Act.put, List.setIfInBounds_toArray, List.set_cons_zero, List.set_cons_succ]
  refine wpAnyH_take (i := 8) (oi := ⟨some 27, _, _, _, _, _⟩) (v := ?_) rfl (by kernel_rfl) (by kernel_rfl) (by kernel_rfl) (fun _ _ _ h => h) (Or.inl ⟨by rfl, ?_⟩) hHeld ?_
  rotate_left
  · intro w' hS'
    (try dsimp only at hS')
    go_simp
    try with_reducible rfl
  try simp only [Act.put, List.setIfInBounds_toArray, List.set_cons_zero, List.set_cons_succ]
  refine wpAnyH_take (i := 9) (oi := ⟨some 28, _, _, _, _, _⟩) (v := ?_) rfl (by kernel_rfl) (by kernel_rfl) (by kernel_rfl) (fun _ _ _ h => h) (Or.inl ⟨by rfl, ?_⟩) hHeld ?_
  rotate_left
  · intro w' hS'
    (try dsimp only at hS')
    go_simp
    try with_reducible rfl
  try simp only [Act.put, List.setIfInBounds_toArray, List.set_cons_zero, List.set_cons_succ]
  refine wpAnyH_take (i := 10) (oi := ⟨some 4, _, _, _, _, _⟩) (v := ?_) rfl (by kernel_rfl) (by kernel_rfl) (by kernel_rfl) (fun _ _ _ h => h) (Or.inl ⟨by rfl, ?_⟩) hHeld ?_
  rotate_left
  · intro w' hS'
    (try dsimp only at hS')
    go_simp
    try with_reducible rfl
  try simp only [Act.put, List.setIfInBounds_toArray, List.set_cons_zero, List.set_cons_succ]
  refine wpAnyH_take (i := 11) (oi := ⟨some 5, _, _, _, _, _⟩) (v := ?_) rfl (by kernel_rfl) (by kernel_rfl) (by kernel_rfl) (fun _ _ _ h => h) (Or.inl ⟨by rfl, ?_⟩) hHeld ?_
  rotate_left
  · intro w' hS'
    (try dsimp only at hS')
    go_simp
    try with_reducible rfl
  try simp only [Act.put, List.setIfInBounds_toArray, List.set_cons_zero, List.set_cons_succ]
  refine wpAnyH_done (by kernel_rfl) ?_ _
  clear hHeld HT
  have Oe2 := Lib.hid (below_obj hx Oe1.out (obj_lt Oe1.out))
  have H2 := Lib.hid (H1.out.all hx)
  have B2 := Lib.hid (B1.out.trans (hx.mono (by omega)))
  have hw2 := hx.size
  clear hx
  generalize wk = w2 at *
  obtain ⟨sn, hsn⟩ : ∃ sn, sn = ss.length := ⟨_, rfl⟩
  have Hobj := Lib.hid H2.out.obj
  rw [← hsn] at Hobj hs
  have Hsn := Lib.hid hsn
  clear hsn
  have hx : Below w2.heap.size w2 w2.drew := (Below.refl _ _).drew
  have HT := Lib.hid (fun (x : World) (hb : Below w2.heap.size w2 x) => (⟨(obj_cell (below_obj hb Hobj.out (obj_lt Hobj.out)) 2).trans rfl, (obj_cell (below_obj hb Hobj.out (obj_lt Hobj.out)) 1).trans rfl, EvCells.of (below_obj hb Oe2.out (obj_lt Oe2.out))⟩ : x.cell? ⟨g.bs, 2, none⟩ = some (.map (some g.br)) ∧ x.cell? ⟨g.bs, 1, none⟩ = some (.slice g.sa sn g.sc) ∧ EvCells x w.heap.size e))
  go_wp2_with fail
  refine wp_region_T 11 (fun x => x.cell? ⟨g.bs, 2, none⟩ = some (.map (some g.br)) ∧ x.cell? ⟨g.bs, 1, none⟩ = some (.slice g.sa sn g.sc) ∧ x.cell? ⟨w.heap.size, 0, none⟩ = some (.int .i64 e.k) ∧ x.cell? ⟨w.heap.size, 1, none⟩ = some (.int .i64 e.a) ∧ x.cell? ⟨w.heap.size, 2, none⟩ = some (.int .i64 e.b) ∧ x.cell? ⟨w.heap.size, 3, none⟩ = some (.int .i64 e.c) ∧ x.cell? ⟨w.heap.size, 4, none⟩ = some (.int .i64 e.d) ∧ x.cell? ⟨w.heap.size, 5, none⟩ = some (.int .i64 e.e)) (by kernel_rfl) (HT.out _ hx) (fun hHeld => ?_)
  refine wpAnyT_takeU (i := 0) (oi := ⟨some 31, _, _, _, _, _⟩) (v := ?_) rfl (by kernel_rfl) (by kernel_rfl) (by kernel_rfl) (by kernel_rfl) (fun _ _ _ h => h) (Or.inl ⟨by rfl, ?_⟩) (fun _ => hHeld) ?_
  rotate_left
  · intro w' hS'
    (try dsimp only at hS')
    go_simp
    try with_reducible rfl
  try simp only [Act.put, List.setIfInBounds_toArray, List.set_cons_zero, List.set_cons_succ]
  refine wpAnyT_takeU (i := 1) (oi := ⟨some 32, _, _, _, _, _⟩) (v := ?_) rfl (by kernel_rfl) (by kernel_rfl) (by kernel_rfl) (by kernel_rfl) (fun _ _ _ h => h) (Or.inl ⟨by rfl, ?_⟩) (fun _ => hHeld) ?_
  rotate_left
  · intro w' hS'
    (try dsimp only at hS')
    go_simp
    try with_reducible rfl
  try simp only [Act.put, List.setIfInBounds_toArray, List.set_cons_zero, List.set_cons_succ]
  refine wpAnyT_takeU (i := 2) (oi := ⟨some 33, _, _, _, _, _⟩) (v := ?_) rfl (by kernel_rfl) (by kernel_rfl) (by kernel_rfl) (by kernel_rfl) (fun _ _ _ h => h) (Or.inl ⟨by rfl, ?_⟩) (fun _ => hHeld) ?_
  rotate_left
  · intro w' hS'
    (try dsimp only at hS')
    go_simp
    try with_reducible rfl
  try simp only [Act.put, List.setIfInBounds_toArray, List.set_cons_zero, List.set_cons_succ]
  refine wpAnyT_take (i := 3) (oi := ⟨some 34, _, _, _, _, _⟩) (v := ?_) rfl (by kernel_rfl) (by kernel_rfl) (by kernel_rfl) (by kernel_rfl) (fun _ _ _ h => h) (Or.inl ⟨by rfl, ?_⟩) hHeld ?_
  rotate_left
  · intro w' hS'
    (try dsimp only at hS')
    go_simp
    try with_reducible rfl
  try simp only [Act.put, List.setIfInBounds_toArray, List.set_cons_zero, List.set_cons_succ]
  refine wpAnyT_take (i := 4) (oi := ⟨some 35, _, _, _, _, _⟩) (v := ?_) rfl (by kernel_rfl) (by kernel_rfl) (by kernel_rfl) (by kernel_rfl) (fun _ _ _ h => h) (Or.inl ⟨by rfl, ?_⟩) hHeld ?_
  rotate_left
  · intro w' hS'
    (try dsimp only at hS')
    go_simp
    try with_reducible rfl
  try simp only [Act.put, List.setIfInBounds_toArray, List.set_cons_zero, List.set_cons_succ]
  refine wpAnyT_takeU (i := 6) (oi := ⟨some 37, _, _, _, _, _⟩) (v := ?_) rfl (by kernel_rfl) (by kernel_rfl) (by kernel_rfl) (by kernel_rfl) (fun _ _ _ h => h) (Or.inl ⟨by rfl, ?_⟩) (fun _ => hHeld) ?_
  rotate_left
  · intro w' hS'
    (try dsimp only at hS')
    go_simp
    try with_reducible rfl
  try simp only [Act.put, List.setIfInBounds_toArray, List.set_cons_zero, List.set_cons_succ]
  refine wpAnyT_takeU (i := 7) (oi := ⟨some 38, _, _, _, _, _⟩) (v := ?_) rfl (by kernel_rfl) (by kernel_rfl) (by kernel_rfl) (by kernel_rfl) (fun _ _ _ h => h) (Or.inl ⟨by rfl, ?_⟩) (fun _ => hHeld) ?_
  rotate_left
  · intro w' hS'
    (try dsimp only at hS')
    go_simp
    try with_reducible rfl
  try simp only [Act.put, List.setIfInBounds_toArray, List.set_cons_zero, List.set_cons_succ]
  refine wpAnyT_takeU (i := 8) (oi := ⟨some 39, _, _, _, _, _⟩) (v := ?_) rfl (by kernel_rfl) (by kernel_rfl) (by kernel_rfl) (by kernel_rfl) (fun _ _ _ h => h) (Or.inl ⟨by rfl, ?_⟩) (fun _ => hHeld) ?_
  rotate_left
  · intro w' hS'
    (try dsimp only at hS')
    go_simp
    try with_reducible rfl
  try simp only [Act.put, List.setIfInBounds_toArray, List.set_cons_zero, List.set_cons_succ]
  refine wpAnyT_take (i := 9) (oi := ⟨some 40, _, _, _, _, _⟩) (v := ?_) rfl (by kernel_rfl) (by kernel_rfl) (by kernel_rfl) (by kernel_rfl) (fun _ _ _ h => h) (Or.inl ⟨by rfl, ?_⟩) hHeld ?_
  rotate_left
  · intro w' hS'
    (try dsimp only at hS')
    go_simp
    try with_reducible rfl
  try simp only [Act.put, List.setIfInBounds_toArray, List.set_cons_zero, List.set_cons_succ]
  refine wpAnyT_takeU (i := 10) (oi := ⟨some 41, _, _, _, _, _⟩) (v := ?_) rfl (by kernel_rfl) (by kernel_rfl) (by kernel_rfl) (by kernel_rfl) (fun _ _ _ h => h) (Or.inl ⟨by rfl, ?_⟩) (fun _ => hHeld) ?_
  rotate_left
  · intro w' hS'
    (try dsimp only at hS')
    go_simp
    try with_reducible rfl
  try simp only [Act.put, List.setIfInBounds_toArray, List.set_cons_zero, List.set_cons_succ]
  refine wpAnyT_all (rs := [5]) (by kernel_rfl) (by simp) ?_
  intro ix hix
  obtain rfl : ix = 5 := by simpa using hix
  clear hix
  refine wpOp_step (o := ⟨some 36, _, _, _, _, _⟩) rfl (fun K hK => ?_)
  have HK := Lib.hid hK
  clear hK
  go_simp
  refine (netKey _ e).mono ?_
  rintro x wk ⟨rfl, hb⟩
  replace hx := hx.trans (hb.mono hx.size)
  clear hb
  go_wp2_with fail
  refine HK.out _ _ ⟨fun _ => (HT.out _ hx), ?_⟩
  clear HK
  try clear hHeld
  have hHeld := (HT.out _ hx)
  try simp only [Act.put, List.setIfInBounds_toArray, List.set_cons_zero, List.set_cons_succ]
  refine wpAnyT_all (rs := [11]) (by kernel_rfl) (by simp) ?_
  intro ix hix
  obtain rfl : ix = 11 := by simpa using hix
  clear hix
  refine wpOp_step (o := ⟨none, _, _, _, _, _⟩) rfl (fun K hK => ?_)
  have HK := Lib.hid hK
  clear hK
  have H3 := Lib.hid (H2.out.all hx)
  obtain ⟨wm, hrun, hupd, hdr, hmap⟩ := run_mapUpdate_is keyLaw3 Try.underlying161 H3.out.map (keyE e) (ss.length : Int)
  rw [← Hsn.out] at hrun
  change (Instr.mapUpdate 161 (.map (some g.br)) (kcv3 (keyE e)) (.int .i64 (sn : Int))).run Try.prog wk = .ok () wm at hrun
  go_simp
  go_wp2_with fail
  refine HK.out _ _ ⟨tl (by kernel_rfl), ?_⟩
  clear HK
  try clear hHeld
  try simp only [Act.put, List.setIfInBounds_toArray, List.set_cons_zero, List.set_cons_succ]
  refine wpAnyT_done (by kernel_rfl) ?_ _
  have HTk := HT.out _ hx
  clear HT
  rw [put_kvs Hfn.out] at hmap
  have Hmap := Lib.hid hmap
  have Hupd := Lib.hid hupd
  have Oe3 := Lib.hid (below_obj hx Oe2.out (obj_lt Oe2.out))
  have B3 := Lib.hid (B2.out.trans (hx.mono (by have := B2.out.size; omega)))
  have hw3 := hx.size
  clear hx hmap hupd hrun hdr HTk
  have Oe4 := Lib.hid (Hupd.out.obj Oe3.out (by intro hq; change _ = _ at hq; have := Hbw.out g.br (.inr (.inl rfl)); omega))
  have Hrow := Lib.hid (H3.out.rs.upd Hupd.out (fun ad he hq => H3.out.dis.2.2.2.2.1 ⟨ad, he, hq⟩))
  have Hobj4 := Lib.hid (Hupd.out.obj H3.out.obj (fun hq => H3.out.dis.1 (Eq.symm hq)))
  have hwm := Hupd.out.size
  rw [← Hsn.out] at Hrow Hobj4
  clear Hobj
  have Hobj := Lib.hid Hobj4.out
  clear Hobj4
  have Hnb := Lib.hid H3.out.dis.2.2.1
  have HOe := Lib.hid Oe4.out
  have Hne := Lib.hid (show ¬ blk g.sa w.heap.size from fun hq => by have := Hbw.out _ (.inr (.inr (.inr hq))); omega)
  have hx : Upd (blk g.sa) wm wm.drew := (Upd.refl _ _).drew
  have HT := Lib.hid (fun (x : World) (hu : Upd (blk g.sa) wm x) => (⟨(hu.cell (p := ⟨g.bs, 1, none⟩) (obj_lt Hobj.out) Hnb.out).trans ((obj_cell Hobj.out 1).trans rfl), EvCells.of (hu.obj HOe.out Hne.out)⟩ : x.cell? ⟨g.bs, 1, none⟩ = some (.slice g.sa sn g.sc) ∧ EvCells x w.heap.size e))
  have HF := Lib.hid (fun (x : World) (hu : Upd (blk g.sa) wm x) => obj_free (hu.obj Hobj.out Hnb.out) 1)
  go_wp2_with fail
  refine wp_region_T 10 (fun x => x.cell? ⟨g.bs, 1, none⟩ = some (.slice g.sa sn g.sc) ∧ x.cell? ⟨w.heap.size, 0, none⟩ = some (.int .i64 e.k) ∧ x.cell? ⟨w.heap.size, 1, none⟩ = some (.int .i64 e.a) ∧ x.cell? ⟨w.heap.size, 2, none⟩ = some (.int .i64 e.b) ∧ x.cell? ⟨w.heap.size, 3, none⟩ = some (.int .i64 e.c) ∧ x.cell? ⟨w.heap.size, 4, none⟩ = some (.int .i64 e.d) ∧ x.cell? ⟨w.heap.size, 5, none⟩ = some (.int .i64 e.e)) (by kernel_rfl) (HT.out _ hx) (fun hHeld => ?_)
  refine wpAnyT_takeU (i := 0) (oi := ⟨some 42, _, _, _, _, _⟩) (v := ?_) rfl (by kernel_rfl) (by kernel_rfl) (by kernel_rfl) (by kernel_rfl) (fun _ _ _ h => h) (Or.inl ⟨by rfl, ?_⟩) (fun _ => hHeld) ?_
  rotate_left
  · intro w' hS'
    (try dsimp only at hS')
    go_simp
    try with_reducible rfl
  try simp only [Act.put, List.setIfInBounds_toArray, List.set_cons_zero, List.set_cons_succ]
  refine wpAnyT_takeU (i := 1) (oi := ⟨some 43, _, _, _, _, _⟩) (v := ?_) rfl (by kernel_rfl) (by kernel_rfl) (by kernel_rfl) (by kernel_rfl) (fun _ _ _ h => h) (Or.inl ⟨by rfl, ?_⟩) (fun _ => hHeld) ?_
  rotate_left
  · intro w' hS'
    (try dsimp only at hS')
    go_simp
    try with_reducible rfl
  try simp only [Act.put, List.setIfInBounds_toArray, List.set_cons_zero, List.set_cons_succ]
  refine wpAnyT_takeU (i := 2) (oi := ⟨some 44, _, _, _, _, _⟩) (v := ?_) rfl (by kernel_rfl) (by kernel_rfl) (by kernel_rfl) (by kernel_rfl) (fun _ _ _ h => h) (Or.inl ⟨by rfl, ?_⟩) (fun _ => hHeld) ?_
  rotate_left
  · intro w' hS'
    (try dsimp only at hS')
    go_simp
    try with_reducible rfl
  try simp only [Act.put, List.setIfInBounds_toArray, List.set_cons_zero, List.set_cons_succ]
  refine wpAnyT_takeU (i := 3) (oi := ⟨some 45, _, _, _, _, _⟩) (v := ?_) rfl (by kernel_rfl) (by kernel_rfl) (by kernel_rfl) (by kernel_rfl) (fun _ _ _ h => h) (Or.inl ⟨by rfl, ?_⟩) (fun _ => hHeld) ?_
  rotate_left
  · intro w' hS'
    (try dsimp only at hS')
    go_simp
    try with_reducible rfl
  try simp only [Act.put, List.setIfInBounds_toArray, List.set_cons_zero, List.set_cons_succ]
  refine wpAnyT_take (i := 4) (oi := ⟨some 46, _, _, _, _, _⟩) (v := ?_) rfl (by kernel_rfl) (by kernel_rfl) (by kernel_rfl) (by kernel_rfl) (fun _ _ _ h => h) (Or.inl ⟨by rfl, ?_⟩) hHeld ?_
  rotate_left
  · intro w' hS'
    (try dsimp only at hS')
    go_simp
    try with_reducible rfl
  try simp only [Act.put, List.setIfInBounds_toArray, List.set_cons_zero, List.set_cons_succ]
  refine wpAnyT_take (i := 5) (oi := ⟨some 47, _, _, _, _, _⟩) (v := ?_) rfl (by kernel_rfl) (by kernel_rfl) (by kernel_rfl) (by kernel_rfl) (fun _ _ _ h => h) (Or.inl ⟨by rfl, ?_⟩) hHeld ?_
  rotate_left
  · intro w' hS'
    (try dsimp only at hS')
    go_simp
    try with_reducible rfl
  try simp only [Act.put, List.setIfInBounds_toArray, List.set_cons_zero, List.set_cons_succ]
  refine wpAnyT_all (rs := [6]) (by kernel_rfl) (by simp) ?_
  intro ix hix
  obtain rfl : ix = 6 := by simpa using hix
  clear hix
  refine wpOp_step (o := ⟨some 48, _, _, _, _, _⟩) rfl (fun K hK => ?_)
  have HK := Lib.hid hK
  clear hK
  go_simp
  replace hx : Upd (blk g.sa) wm (wm.alloc (.cells (evA e) 64)).drew := ((Upd.refl _ _).alloc _).drew
  have Hlit := Lib.hid (((RowAt.lit wm (evA e) 64 6 1 (by decide) rfl (by simp [Value.oneCell'])).sl).drew)
  have Hr := Lib.hid ((Hrow.out.alloc (.cells (evA e) 64)).drew)
  go_wp2_with fail
  refine HK.out _ _ ⟨fun _ => (HT.out _ hx), ?_⟩
  clear HK
  try clear hHeld
  have hHeld := (HT.out _ hx)
  try simp only [Act.put, List.setIfInBounds_toArray, List.set_cons_zero, List.set_cons_succ]
  refine wpAnyT_all (rs := [7]) (by kernel_rfl) (by simp) ?_
  intro ix hix
  obtain rfl : ix = 7 := by simpa using hix
  clear hix
  refine wpOp_step (o := ⟨some 49, _, _, _, _, _⟩) rfl (fun K hK => ?_)
  have HK := Lib.hid hK
  clear hK
  refine step_append_row rfl (.tmp 46) (.tmp 48) 40 rfl 64 (.agg #[.int .i64 0, .int .i64 0, .int .i64 0, .int .i64 0, .int .i64 0, .int .i64 0]) 6 48 Try.underlying40 Try.infoEv rfl (by decide) rfl rfl Hr.out Hlit.out (by unfold maxLen; omega) (by omega) ?_
  intro a' cap' w2 hrow hupd hloc hnil
  replace hx := hx.trans hupd (fun _ _ h => h)
  have Hrow2 := Lib.hid hrow
  have Hloc := Lib.hid hloc
  clear hrow hupd hloc hnil
  refine HK.out _ _ ⟨fun _ => (HT.out _ hx), ?_⟩
  clear HK
  try clear hHeld
  have hHeld := (HT.out _ hx)
  try simp only [Act.put, List.setIfInBounds_toArray, List.set_cons_zero, List.set_cons_succ]
  refine wpAnyT_takeU (i := 8) (oi := ⟨some 50, _, _, _, _, _⟩) (v := ?_) rfl (by kernel_rfl) (by kernel_rfl) (by kernel_rfl) (by kernel_rfl) (fun _ _ _ h => h) (Or.inl ⟨by rfl, ?_⟩) (fun _ => hHeld) ?_
  rotate_left
  · intro w' hS'
    (try dsimp only at hS')
    go_simp
    try with_reducible rfl
  try simp only [Act.put, List.setIfInBounds_toArray, List.set_cons_zero, List.set_cons_succ]
  refine wpAnyT_takeU (i := 9) (oi := ⟨some 51, _, _, _, _, _⟩) (v := ?_) rfl (by kernel_rfl) (by kernel_rfl) (by kernel_rfl) (by kernel_rfl) (fun _ _ _ h => h) (Or.inl ⟨by rfl, ?_⟩) (fun _ => hHeld) ?_
  rotate_left
  · intro w' hS'
    (try dsimp only at hS')
    go_simp
    try with_reducible rfl
  try simp only [Act.put, List.setIfInBounds_toArray, List.set_cons_zero, List.set_cons_succ]
  refine wpAnyT_all (rs := [10]) (by kernel_rfl) (by simp) ?_
  intro ix hix
  obtain rfl : ix = 10 := by simpa using hix
  clear hix
  refine wpOp_step (o := ⟨none, _, _, _, _, _⟩) rfl (fun K hK => ?_)
  have HK := Lib.hid hK
  clear hK
  have kf := HF.out _ hx
  have kc := (HT.out _ hx).1
  go_simp
  go_wp2_with fail
  refine HK.out _ _ ⟨tl (by kernel_rfl), ?_⟩
  clear HK
  try clear hHeld
  try simp only [Act.put, List.setIfInBounds_toArray, List.set_cons_zero, List.set_cons_succ]
  refine wpAnyT_done (by kernel_rfl) ?_ _
  have Hx := Lib.hid hx
  clear hx kf kc
  go_wp2_with fail
  refine bodyPost_ret (results_none rfl _ _ _) rfl ?_
  rw [Hsn.out] at Hrow2 ⊢
  have key := H3.out.pushS (e := e) Hupd.out Hmap.out Hx.out Hrow2.out (fun ad he => (Hloc.out ad he).imp id (fun h => by simp at h; omega)) (by omega)
  exact ⟨rfl, { g with sa := a', sc := cap' }, rfl, key.1, (Upd.of_below (S := g.own) B3.out).trans key.2.1 (fun _ _ h => h), fun k hk => (key.2.2 k hk).imp id (fun h => by omega)⟩

set_option maxRecDepth 100000 in
set_option maxHeartbeats 1600000 in
theorem addOld (w : World) (B : Nat) (g : SpanA) (ms ss : List Ev) (h : SpanAt w B g ms ss) (hm : ms.length ≤ 1000) (hs : ss.length ≤ 1000) (e : Ev) (he : setsB e = true) (j : Nat) (y0 : Ev) (hfn : fnd (keyE e) (kvs ss 0) 0 = some (j, (j : Int))) (hy0 : ss[j]? = some y0) (hkv : kvs (ss.set j { y0 with d := e.d }) 0 = kvs ss 0) :
    Calls Try.prog 105 #[.pointer (some ⟨g.bs, 0, none⟩), evV e] w (AddTo w B g ms (ss.set j { y0 with d := e.d })) := by
  have hB : B ≤ w.heap.size := by have := h.fr g.bs (.inl rfl); have := obj_lt h.obj; omega
  have b0 : Below w.heap.size w (w.alloc (.cells (evA e) 64)) := (Below.refl _ w).alloc (Nat.le_refl _) _
  have Oe := Lib.hid (alloc_new w (.cells (evA e) 64))
  have H0 := Lib.hid (h.all b0)
  have B0 := Lib.hid b0
  have hbw := h.own_lt
  have Hbw := Lib.hid hbw
  have hz0 : (w.alloc (.cells (evA e) 64)).heap.size = w.heap.size + 1 := by simp
  have hgb := hbw g.bs (.inl rfl)
  obtain ⟨x0, x1, x2, x3, x4, x5⟩ := EvCells.of Oe.out
  have He := Lib.hid he
  clear h b0 hbw he
  go_enter Try.func105, Try.ntmps105
  go_wp2_with fail
  clear x0 x1 x2 x3 x4 x5
  generalize (w.alloc (.cells (evA e) 64)) = w0 at *
  refine (sets _ e).mono ?_
  rintro x w1 ⟨rfl, hb1⟩
  rw [He.out]
  have Oe1 := Lib.hid (below_obj hb1 Oe.out (obj_lt Oe.out))
  have H1 := Lib.hid (H0.out.all hb1)
  have B1 := Lib.hid (B0.out.trans (hb1.mono (by omega)))
  have hw1 := hb1.size
  clear hb1
  have Hfn := Lib.hid hfn
  have hj : j < ss.length := (List.getElem?_eq_some_iff.1 hy0).1
  have Hy0 := Lib.hid hy0
  have Hkv := Lib.hid hkv
  clear hfn hy0 hkv
  have hl : ms.length = ms.length := rfl
  have Hx0 : Below w1.heap.size w1 w1.drew := (Below.refl _ _).drew
  have hx := Hx0
  clear Hx0 hl
  have HT := Lib.hid (fun (x : World) (hb : Below w1.heap.size w1 x) => (⟨(obj_cell (below_obj hb H1.out.obj (obj_lt H1.out.obj)) 2).trans rfl, EvCells.of (below_obj hb Oe1.out (obj_lt Oe1.out))⟩ : x.cell? ⟨g.bs, 2, none⟩ = some (.map (some g.br)) ∧ EvCells x w.heap.size e))
  go_wp2_with fail
  refine wp_region_held_drew (S := fun x => x.cell? ⟨g.bs, 2, none⟩ = some (.map (some g.br)) ∧ x.cell? ⟨w.heap.size, 0, none⟩ = some (.int .i64 e.k) ∧ x.cell? ⟨w.heap.size, 1, none⟩ = some (.int .i64 e.a) ∧ x.cell? ⟨w.heap.size, 2, none⟩ = some (.int .i64 e.b) ∧ x.cell? ⟨w.heap.size, 3, none⟩ = some (.int .i64 e.c) ∧ x.cell? ⟨w.heap.size, 4, none⟩ = some (.int .i64 e.d) ∧ x.cell? ⟨w.heap.size, 5, none⟩ = some (.int .i64 e.e)) (by kernel_rfl) (HT.out _ hx) (fun hHeld => ?_)
  refine wpAnyH_take (i := 0) (oi := ⟨some 20, _, _, _, _, _⟩) (v := ?_) rfl (by kernel_rfl) (by kernel_rfl) (by kernel_rfl) (fun _ _ _ h => h) (Or.inl ⟨by rfl, ?_⟩) hHeld ?_
  rotate_left
  · intro w' hS'
    (try dsimp only at hS')
    go_simp
    try with_reducible rfl
  try simp only [Act.put, List.setIfInBounds_toArray, List.set_cons_zero, List.set_cons_succ]
  refine wpAnyH_take (i := 1) (oi := ⟨some 21, _, _, _, _, _⟩) (v := ?_) rfl (by kernel_rfl) (by kernel_rfl) (by kernel_rfl) (fun _ _ _ h => h) (Or.inl ⟨by rfl, ?_⟩) hHeld ?_
  rotate_left
  · intro w' hS'
    (try dsimp only at hS')
    go_simp
    try with_reducible rfl
  try simp only [Act.put, List.setIfInBounds_toArray, List.set_cons_zero, List.set_cons_succ]
  refine wpAnyH_take (i := 2) (oi := ⟨some 22, _, _, _, _, _⟩) (v := ?_) rfl (by kernel_rfl) (by kernel_rfl) (by kernel_rfl) (fun _ _ _ h => h) (Or.inl ⟨by rfl, ?_⟩) hHeld ?_
  rotate_left
  · intro w' hS'
    (try dsimp only at hS')
    go_simp
    try with_reducible rfl
  try simp only [Act.put, List.setIfInBounds_toArray, List.set_cons_zero, List.set_cons_succ]
  refine wpAnyH_take (i := 3) (oi := ⟨some 23, _, _, _, _, _⟩) (v := ?_) rfl (by kernel_rfl) (by kernel_rfl) (by kernel_rfl) (fun _ _ _ h => h) (Or.inl ⟨by rfl, ?_⟩) hHeld ?_
  rotate_left
  · intro w' hS'
    (try dsimp only at hS')
    go_simp
    try with_reducible rfl
  try simp only [Act.put, List.setIfInBounds_toArray, List.set_cons_zero, List.set_cons_succ]
  refine wpAnyH_take (i := 4) (oi := ⟨some 24, _, _, _, _, _⟩) (v := ?_) rfl (by kernel_rfl) (by kernel_rfl) (by kernel_rfl) (fun _ _ _ h => h) (Or.inl ⟨by rfl, ?_⟩) hHeld ?_
  rotate_left
  · intro w' hS'
    (try dsimp only at hS')
    go_simp
    try with_reducible rfl
  try simp only [Act.put, List.setIfInBounds_toArray, List.set_cons_zero, List.set_cons_succ]
  refine wpAnyH_all (rs := [5]) (by kernel_rfl) (by simp) ?_
  intro ix hix
  obtain rfl : ix = 5 := by simpa using hix
  clear hix
  refine wpOp_step (o := ⟨some 25, _, _, _, _, _⟩) rfl (fun K hK => ?_)
  have HK := Lib.hid hK
  clear hK
  go_simp
  refine (netKey _ e).mono ?_
  rintro x wk ⟨rfl, hb⟩
  replace hx := hx.trans (hb.mono hx.size)
  clear hb
  go_wp2_with fail
  refine HK.out _ _ ⟨(HT.out _ hx), ?_⟩
  clear HK
  try clear hHeld
  have hHeld := (HT.out _ hx)
  try simp only [Act.put, List.setIfInBounds_toArray, List.set_cons_zero, List.set_cons_succ]
  refine wpAnyH_all (rs := [6]) (by kernel_rfl) (by simp) ?_
  intro ix hix
  obtain rfl : ix = 6 := by simpa using hix
  clear hix
  refine wpOp_step (o := ⟨some 26, _, _, _, _, _⟩) rfl (fun K hK => ?_)
  have HK := Lib.hid hK
  clear hK
  have hlu : (Instr.lookup 161 (.map (some g.br)) (kcv3 (keyE e)) true).run Try.prog wk = .ok (.tuple #[.int .i64 (j : Int), .bool true]) wk := by
    have hq := run_lookup_ok_is keyLaw3 Try.underlying161 (H1.out.all hx).map (z := .int .i64 0) (fun w => by kernel_rfl) (keyE e)
    rw [hq]
    unfold has
    rw [Hfn.out]
    rfl
  go_simp
  go_wp2_with fail
  refine HK.out _ _ ⟨(HT.out _ hx), ?_⟩
  clear HK
  try clear hHeld
  have hHeld := (HT.out _ hx)
  try simp only [Act.put, List.setIfInBounds_toArray, List.set_cons_zero, List.set_cons_succ]
  refine wpAnyH_take (i := 7) (oi := ⟨some 19, _, _, _, _, _⟩) (v := ?_) rfl (by kernel_rfl) (by kernel_rfl) (by kernel_rfl) (fun _ _ _ h => h) (Or.inl ⟨by rfl, ?_⟩) hHeld ?_
  rotate_left
  · intro w' hS'
    (try dsimp only at hS')
    go_simp
    try with_reducible rfl
  try simp only [Act.put, List.setIfInBounds_toArray, List.set_cons_zero, List.set_cons_succ]
  refine wpAnyH_take (i := 8) (oi := ⟨some 27, _, _, _, _, _⟩) (v := ?_) rfl (by kernel_rfl) (by kernel_rfl) (by kernel_rfl) (fun _ _ _ h => h) (Or.inl ⟨by rfl, ?_⟩) hHeld ?_
  rotate_left
  · intro w' hS'
    (try dsimp only at hS')
    go_simp
    try with_reducible rfl
  try simp only [Act.put, List.setIfInBounds_toArray, List.set_cons_zero, List.set_cons_succ]
  refine wpAnyH_take (i := 9) (oi := ⟨some 28, _, _, _, _, _⟩) (v := ?_) rfl (by kernel_rfl) (by kernel_rfl) (by kernel_rfl) (fun _ _ _ h => h) (Or.inl ⟨by rfl, ?_⟩) hHeld ?_
  rotate_left
  · intro w' hS'
    (try dsimp only at hS')
    go_simp
    try with_reducible rfl
  try simp only [Act.put, List.setIfInBounds_toArray, List.set_cons_zero, List.set_cons_succ]
  refine wpAnyH_take (i := 10) (oi := ⟨some 4, _, _, _, _, _⟩) (v := ?_) rfl (by kernel_rfl) (by kernel_rfl) (by kernel_rfl) (fun _ _ _ h => h) (Or.inl ⟨by rfl, ?_⟩) hHeld ?_
  rotate_left
  · intro w' hS'
    (try dsimp only at hS')
    go_simp
    try with_reducible rfl
  try simp only [Act.put, List.setIfInBounds_toArray, List.set_cons_zero, List.set_cons_succ]
  refine wpAnyH_take (i := 11) (oi := ⟨some 5, _, _, _, _, _⟩) (v := ?_) rfl (by kernel_rfl) (by kernel_rfl) (by kernel_rfl) (fun _ _ _ h => h) (Or.inl ⟨by rfl, ?_⟩) hHeld ?_
  rotate_left
  · intro w' hS'
    (try dsimp only at hS')
    go_simp
    try with_reducible rfl
  try simp only [Act.put, List.setIfInBounds_toArray, List.set_cons_zero, List.set_cons_succ]
  refine wpAnyH_done (by kernel_rfl) ?_ _
  clear hHeld HT
  have Oe2 := Lib.hid (below_obj hx Oe1.out (obj_lt Oe1.out))
  have H2 := Lib.hid (H1.out.all hx)
  have B2 := Lib.hid (B1.out.trans (hx.mono (by omega)))
  have hw2 := hx.size
  clear hx
  generalize wk = w2 at *
  obtain ⟨sb, so, hsa, hsb, hsc⟩ := H2.out.rs.sl.nonempty (by omega)
  obtain ⟨_, y, hsa2, hy, hyb, hEv⟩ : ∃ b, ∃ y, g.sa = some ⟨b, so, none⟩ ∧ ss[j]? = some y ∧ b = sb ∧ EvAt w2 sb (so + j * 6) y := by
    obtain ⟨b, o, y, h1, h2, h3, h4⟩ := ev_at H2.out.rs.sl hj
    rw [hsa] at h1
    simp at h1
    obtain ⟨rfl, rfl⟩ := h1
    exact ⟨_, y, hsa, h2, rfl, h4⟩
  have kc := hEv.cd
  obtain ⟨_, cur, hcur, _, _⟩ := H2.out.rs.row _ hsa
  have kf := obj_free hcur (so + j * 6 + 4)
  have Hsa := Lib.hid hsa
  have Hsb : sb ≠ w.heap.size := fun hq => by have := Hbw.out sb (.inr (.inr (.inr ⟨_, hsa, rfl⟩))); omega
  obtain ⟨sn, hsn⟩ : ∃ sn, sn = ss.length := ⟨_, rfl⟩
  have Hobj := Lib.hid H2.out.obj
  rw [← hsn, hsa] at Hobj
  have Hsn := Lib.hid hsn
  rw [← hsn] at hj hs
  clear hsn hsa hsa2 hsc hyb hEv hcur
  have hji : (j : Int) < (sn : Int) := by omega
  have HT := Lib.hid (show w2.drew.cell? ⟨g.bs, 1, none⟩ = some (.slice (some ⟨sb, so, none⟩) sn g.sc) ∧ EvCells w2.drew w.heap.size e from ⟨(obj_cell Hobj.out 1).trans rfl, EvCells.of Oe2.out⟩)
  go_wp2_with fail
  refine wp_region_T 9 (fun x => x.cell? ⟨g.bs, 1, none⟩ = some (.slice (some ⟨sb, so, none⟩) sn g.sc) ∧ x.cell? ⟨w.heap.size, 0, none⟩ = some (.int .i64 e.k) ∧ x.cell? ⟨w.heap.size, 1, none⟩ = some (.int .i64 e.a) ∧ x.cell? ⟨w.heap.size, 2, none⟩ = some (.int .i64 e.b) ∧ x.cell? ⟨w.heap.size, 3, none⟩ = some (.int .i64 e.c) ∧ x.cell? ⟨w.heap.size, 4, none⟩ = some (.int .i64 e.d) ∧ x.cell? ⟨w.heap.size, 5, none⟩ = some (.int .i64 e.e)) (by kernel_rfl) HT.out (fun hHeld => ?_)
  refine wpAnyT_takeU (i := 0) (oi := ⟨some 52, _, _, _, _, _⟩) (v := ?_) rfl (by kernel_rfl) (by kernel_rfl) (by kernel_rfl) (by kernel_rfl) (fun _ _ _ h => h) (Or.inl ⟨by rfl, ?_⟩) (fun _ => hHeld) ?_
  rotate_left
  · intro w' hS'
    (try dsimp only at hS')
    go_simp
    try with_reducible rfl
  try simp only [Act.put, List.setIfInBounds_toArray, List.set_cons_zero, List.set_cons_succ]
  refine wpAnyT_takeU (i := 1) (oi := ⟨some 53, _, _, _, _, _⟩) (v := ?_) rfl (by kernel_rfl) (by kernel_rfl) (by kernel_rfl) (by kernel_rfl) (fun _ _ _ h => h) (Or.inl ⟨by rfl, ?_⟩) (fun _ => hHeld) ?_
  rotate_left
  · intro w' hS'
    (try dsimp only at hS')
    go_simp
    try with_reducible rfl
  try simp only [Act.put, List.setIfInBounds_toArray, List.set_cons_zero, List.set_cons_succ]
  refine wpAnyT_takeU (i := 2) (oi := ⟨some 54, _, _, _, _, _⟩) (v := ?_) rfl (by kernel_rfl) (by kernel_rfl) (by kernel_rfl) (by kernel_rfl) (fun _ _ _ h => h) (Or.inl ⟨by rfl, ?_⟩) (fun _ => hHeld) ?_
  rotate_left
  · intro w' hS'
    (try dsimp only at hS')
    go_simp
    try with_reducible rfl
  try simp only [Act.put, List.setIfInBounds_toArray, List.set_cons_zero, List.set_cons_succ]
  refine wpAnyT_take (i := 3) (oi := ⟨some 55, _, _, _, _, _⟩) (v := ?_) rfl (by kernel_rfl) (by kernel_rfl) (by kernel_rfl) (by kernel_rfl) (fun _ _ _ h => h) (Or.inl ⟨by rfl, ?_⟩) hHeld ?_
  rotate_left
  · intro w' hS'
    (try dsimp only at hS')
    go_simp
    try with_reducible rfl
  try simp only [Act.put, List.setIfInBounds_toArray, List.set_cons_zero, List.set_cons_succ]
  refine wpAnyT_takeU (i := 4) (oi := ⟨some 56, _, _, _, _, _⟩) (v := ?_) rfl (by kernel_rfl) (by kernel_rfl) (by kernel_rfl) (by kernel_rfl) (fun _ _ _ h => h) (Or.inl ⟨by rfl, ?_⟩) (fun _ => hHeld) ?_
  rotate_left
  · intro w' hS'
    (try dsimp only at hS')
    go_simp
    try with_reducible rfl
  try simp only [Act.put, List.setIfInBounds_toArray, List.set_cons_zero, List.set_cons_succ]
  refine wpAnyT_takeU (i := 5) (oi := ⟨some 57, _, _, _, _, _⟩) (v := ?_) rfl (by kernel_rfl) (by kernel_rfl) (by kernel_rfl) (by kernel_rfl) (fun _ _ _ h => h) (Or.inl ⟨by rfl, ?_⟩) (fun _ => hHeld) ?_
  rotate_left
  · intro w' hS'
    (try dsimp only at hS')
    go_simp
    try with_reducible rfl
  try simp only [Act.put, List.setIfInBounds_toArray, List.set_cons_zero, List.set_cons_succ]
  refine wpAnyT_take (i := 6) (oi := ⟨some 58, _, _, _, _, _⟩) (v := ?_) rfl (by kernel_rfl) (by kernel_rfl) (by kernel_rfl) (by kernel_rfl) (fun _ _ _ h => h) (Or.inl ⟨by rfl, ?_⟩) hHeld ?_
  rotate_left
  · intro w' hS'
    (try dsimp only at hS')
    go_simp
    try with_reducible rfl
  try simp only [Act.put, List.setIfInBounds_toArray, List.set_cons_zero, List.set_cons_succ]
  refine wpAnyT_takeU (i := 7) (oi := ⟨some 59, _, _, _, _, _⟩) (v := ?_) rfl (by kernel_rfl) (by kernel_rfl) (by kernel_rfl) (by kernel_rfl) (fun _ _ _ h => h) (Or.inl ⟨by rfl, ?_⟩) (fun _ => hHeld) ?_
  rotate_left
  · intro w' hS'
    (try dsimp only at hS')
    go_simp
    try with_reducible rfl
  try simp only [Act.put, List.setIfInBounds_toArray, List.set_cons_zero, List.set_cons_succ]
  refine wpAnyT_takeU (i := 8) (oi := ⟨some 60, _, _, _, _, _⟩) (v := ?_) rfl (by kernel_rfl) (by kernel_rfl) (by kernel_rfl) (by kernel_rfl) (fun _ _ _ h => h) (Or.inl ⟨by rfl, ?_⟩) (fun _ => hHeld) ?_
  rotate_left
  · intro w' hS'
    (try dsimp only at hS')
    go_simp
    try with_reducible rfl
  try simp only [Act.put, List.setIfInBounds_toArray, List.set_cons_zero, List.set_cons_succ]
  refine wpAnyT_all (rs := [9]) (by kernel_rfl) (by simp) ?_
  intro ix hix
  obtain rfl : ix = 9 := by simpa using hix
  clear hix
  refine wpOp_step (o := ⟨none, _, _, _, _, _⟩) rfl (fun K hK => ?_)
  have HK := Lib.hid hK
  clear hK
  go_simp
  go_wp2_with fail
  refine HK.out _ _ ⟨tl (by kernel_rfl), ?_⟩
  clear HK
  try clear hHeld
  try simp only [Act.put, List.setIfInBounds_toArray, List.set_cons_zero, List.set_cons_succ]
  refine wpAnyT_done (by kernel_rfl) ?_ _
  clear kf kc HT
  go_wp2_with fail
  refine bodyPost_ret (results_none rfl _ _ _) rfl ?_
  have key := SpanAt.setD (w1 := w2.drew) (H2.out.all (Below.refl _ _).drew) e.d Hsa.out Hy0.out Hkv.out
  exact ⟨rfl, g, rfl, key.1, (Upd.of_below (S := g.own) (B2.out.drew)).trans key.2 (fun _ _ h => h), fun k hk => .inl hk⟩

theorem netAdd (w : World) (B : Nat) (g : SpanA) (ms ss : List Ev) (h : SpanAt w B g ms ss) (hm : ms.length ≤ 1000) (hs : ss.length ≤ 1000) (e : Ev) :
    Calls Try.prog 105 #[.pointer (some ⟨g.bs, 0, none⟩), evV e] w (AddTo w B g (addM ms e) (addT ss e)) := by
  unfold addM addT
  cases he : setsB e with
  | false => exact addMove w B g ms ss h hm hs e he
  | true =>
    simp only [if_true]
    cases hf : fnd (keyE e) (kvs ss 0) 0 with
    | none =>
      rw [addS_new 0 0 hf]
      exact addNew w B g ms ss h hm hs e he hf
    | some x =>
      obtain ⟨j, u⟩ := x
      obtain ⟨k, y, rfl, rfl, h1, h2, h3⟩ := addS_old 0 0 j u hf
      rw [h2] at h3 ⊢
      exact addOld w B g ms ss h hm hs e he k y (by simpa using hf) h1 h3
end Go.Proofs.Ytpbocficffbcbaa
namespace Go.Proofs.Ytpbocficffbcbaa
open Go Go.RowKit
set_option linter.unusedVariables false
set_option linter.unusedSimpArgs false

set_option maxRecDepth 100000 in
set_option maxHeartbeats 3200000 in
theorem netNet (w : World) (a : Option Addr) (n cap : Nat) (l : List Ev) (h : SlAt w 6 a n cap (evs l)) (hn : n ≤ 1000) :
    Calls Try.prog 70 #[.slice a n cap] w (NewEvs w (netF l)) := by
  have Hln := Lib.hid (ev_len h)
  have Hl := Lib.hid h
  clear h
  go_enter Try.func70, Try.ntmps70
  go_wp2_with fail
  refine (netBegin _).mono ?_
  rintro x w1 ⟨g1, rfl, hs1, hb1⟩
  have Hs1 := Lib.hid hs1
  have Hg1 := Lib.hid (GrE.null w |>.step hb1)
  clear hs1 hb1
  go_wp2_with fail
  go_loopw [3, 4, 10] (fun m p v wr => ∃ j : Nat, v = .int .i64 j ∧ j ≤ n ∧ ∃ out ms ss g a' c', netG [] [] [] l = netG out ms ss (l.drop j) ∧ GrE w.heap.size w wr m out.length out a' c' ∧ p = .pointer (some ⟨SpanA.bs g, 0, none⟩) ∧ SpanAt wr w.heap.size g ms ss ∧ (∀ k, blk a' k → ¬ SpanA.own g k) ∧ out.length + ms.length + ss.length ≤ j) (fun _ _ v _ => n - (intOf v).toNat)
  case atStart => exact ⟨0, rfl, by omega, [], [], [], g1, none, 0, rfl, Hg1.out, rfl, Hs1.out, fun k hk => (by obtain ⟨ad, he, _⟩ := hk; cases he), by simp⟩
  case round =>
    obtain ⟨j, rfl, hj, out, ms, ss, g, a1, c1, hnet, hg, rfl, hsp, hdis, hlen⟩ := hrel
    have Hnet := Lib.hid hnet
    have Hsp := Lib.hid hsp
    have Hdis := Lib.hid hdis
    obtain rfl := hg.m
    obtain ⟨on, hon⟩ : ∃ on, on = out.length := ⟨_, rfl⟩
    rw [← hon] at hg hlen ⊢
    have Hon := Lib.hid hon
    have Hg := Lib.hid hg
    have hgl := hg.le
    clear hnet hg hsp hdis hon
    by_cases hlt : j < n
    · obtain ⟨b1, o1, x, rfl, hx, hb1, ⟨xk, xa, xb, xc, xd, xe⟩⟩ := ev_at (Hl.out.all Hg.out.bel) hlt
      have hdr : l.drop j = x :: l.drop (j + 1) := by
        obtain ⟨hk, rfl⟩ := List.getElem?_eq_some_iff.1 hx
        exact List.drop_eq_getElem_cons hk
      have Hdr := Lib.hid hdr
      clear hx hdr
      obtain ⟨z0, z1, z2, z3, z4, z5⟩ := EvCells.of (alloc_new wr (.cells (evA x) 64))
      have Oe := Lib.hid (alloc_new wr (.cells (evA x) 64))
      have hb2 := (Below.refl _ wr).alloc (Nat.le_refl _) (.cells (evA x) 64)
      have Hb2 := Lib.hid hb2
      clear hb2
      go_wp2_with fail
      clear z0 z1 z2 z3 z4 z5 xk xa xb xc xd xe
      generalize (wr.alloc (.cells (evA x) 64)) = w2 at *
      refine (cuts _ x).mono ?_
      rintro y w3 ⟨rfl, hb3⟩
      have Hb3 := Lib.hid (Hb2.out.trans (hb3.mono Hb2.out.size))
      have Oe3 := Lib.hid (below_obj hb3 Oe.out (obj_lt Oe.out))
      have Hsp3 := Lib.hid (Hsp.out.all Hb3.out)
      have Hg3 := Lib.hid (Hg.out.step Hb3.out)
      have hw3 := Hb3.out.size
      have hwe := obj_lt Oe3.out
      clear hb3
      obtain ⟨mb, hmb⟩ : ∃ mb, mb = makesB x := ⟨_, rfl⟩
      rw [← hmb]
      have Hmb := Lib.hid hmb
      clear hmb
      cases mb
      · obtain ⟨z0, z1, z2, z3, z4, z5⟩ := EvCells.of Oe3.out
        go_wp2_with fail
        clear z0 z1 z2 z3 z4 z5
        refine (netAdd _ _ g ms ss Hsp3.out (by omega) (by omega) x).mono ?_
        rintro y w4 ⟨rfl, g', hbs, hsp4, hu, hown⟩
        have Hsp4 := Lib.hid hsp4
        have Hg4 := Lib.hid (Hg3.out.other hu Hdis.out Hsp3.out.fr)
        have Hown := Lib.hid hown
        rw [← hbs]
        clear hsp4 hu hown
        go_wp2_with fail
        go_roundw
        case rel => exact ⟨j + 1, rfl, by omega, out, addM ms x, addT ss x, g', a1, c1, by rw [Hnet.out, Hdr.out]; simp only [netG, ← Hmb.out, Bool.false_eq_true, if_false], by rw [← Hon.out]; exact Hg4.out, by first | rfl | rw [hbs], Hsp4.out, fun k hk hq => (Hown.out k hq).elim (Hdis.out k hk) (fun h => by obtain ⟨ad, he, rfl⟩ := hk; have := Hg3.out.row.lt ad he; omega), by have := add_len ms ss x; rw [← Hon.out]; omega⟩
        case measure => first | (simp [intOf]; done) | (simp [intOf]; omega)
      · obtain ⟨es, hes⟩ : ∃ es, es = endS ms ss := ⟨_, rfl⟩
        obtain ⟨en, hen⟩ : ∃ en, en = es.length := ⟨_, rfl⟩
        have hel : en ≤ ms.length + ss.length := by have := endS_len ms ss; rw [hen, hes]; exact this
        have Hes := Lib.hid hes
        have Hen := Lib.hid hen
        clear hes hen
        have Hnw := Lib.hid (show ¬ blk a1 wr.heap.size from fun hq => by obtain ⟨ad, he, hq⟩ := hq; have := Hg.out.row.lt ad he; omega)
        have Hnz := Lib.hid (show ∀ k, blk a1 k → k < w3.heap.size from fun k hq => by obtain ⟨ad, he, rfl⟩ := hq; exact Hg3.out.row.lt ad he)
        have hx : Upd (blk a1) w3 w3.drew := (Upd.refl _ _).drew
        have HG := Lib.hid (Hg3.out.step (Below.refl _ w3).drew)
        have HT := Lib.hid (fun (y : World) (hu : Upd (blk a1) w3 y) => EvCells.of (hu.obj Oe3.out Hnw.out))
        go_wp2_with fail
        refine wp_region_held_drew (S := fun y => y.cell? ⟨wr.heap.size, 0, none⟩ = some (.int .i64 x.k) ∧ y.cell? ⟨wr.heap.size, 1, none⟩ = some (.int .i64 x.a) ∧ y.cell? ⟨wr.heap.size, 2, none⟩ = some (.int .i64 x.b) ∧ y.cell? ⟨wr.heap.size, 3, none⟩ = some (.int .i64 x.c) ∧ y.cell? ⟨wr.heap.size, 4, none⟩ = some (.int .i64 x.d) ∧ y.cell? ⟨wr.heap.size, 5, none⟩ = some (.int .i64 x.e)) (by kernel_rfl) (HT.out _ hx) (fun hHeld => ?_)
        refine wpAnyH_take (i := 0) (oi := ⟨some 16, _, _, _, _, _⟩) (v := ?_) rfl (by kernel_rfl) (by kernel_rfl) (by kernel_rfl) (fun _ _ _ h => h) (Or.inl ⟨by rfl, ?_⟩) hHeld ?_
        rotate_left
        · intro w' hS'
          (try dsimp only at hS')
          go_simp
          try with_reducible rfl
        try simp only [Act.put, List.setIfInBounds_toArray, List.set_cons_zero, List.set_cons_succ]
        refine wpAnyH_take (i := 1) (oi := ⟨some 17, _, _, _, _, _⟩) (v := ?_) rfl (by kernel_rfl) (by kernel_rfl) (by kernel_rfl) (fun _ _ _ h => h) (Or.inl ⟨by rfl, ?_⟩) hHeld ?_
        rotate_left
        · intro w' hS'
          (try dsimp only at hS')
          go_simp
          try with_reducible rfl
        try simp only [Act.put, List.setIfInBounds_toArray, List.set_cons_zero, List.set_cons_succ]
        refine wpAnyH_take (i := 4) (oi := ⟨some 20, _, _, _, _, _⟩) (v := ?_) rfl (by kernel_rfl) (by kernel_rfl) (by kernel_rfl) (fun _ _ _ h => h) (Or.inl ⟨by rfl, ?_⟩) hHeld ?_
        rotate_left
        · intro w' hS'
          (try dsimp only at hS')
          go_simp
          try with_reducible rfl
        try simp only [Act.put, List.setIfInBounds_toArray, List.set_cons_zero, List.set_cons_succ]
        refine wpAnyH_all (rs := [2, 5]) (by kernel_rfl) (by simp) ?_
        intro ix hix
        have hix' : ix = 2 ∨ ix = 5 := by simpa using hix
        clear hix
        rcases hix' with rfl | rfl
        · skip
          refine wpOp_step (o := ⟨some 18, _, _, _, _, _⟩) rfl (fun K hK => ?_)
          have HK := Lib.hid hK
          clear hK
          go_simp
          refine (netEnd _ _ g ms ss (Hsp3.out.upd hx (fun k hk hq => Hdis.out k hq hk)) (by omega) (by omega)).mono ?_
          rw [← Hes.out]
          rintro y w4 ⟨ae, ce, rfl, hre, hfe, hb⟩
          rw [← Hen.out] at hre ⊢
          have Hre := Lib.hid hre.sl
          have HG := Lib.hid (HG.out.step hb)
          have hs4 := hb.size
          have hxs := hx.size
          replace hx := hx.trans (Upd.of_below (S := fun _ => False) hb) (fun _ _ f => f.elim)
          clear hre hfe hb
          go_wp2_with fail
          refine HK.out _ _ ⟨(HT.out _ hx), ?_⟩
          clear HK
          try clear hHeld
          have hHeld := (HT.out _ hx)
          try simp only [Act.put, List.setIfInBounds_toArray, List.set_cons_zero, List.set_cons_succ]
          refine wpAnyH_all (rs := [3, 5]) (by kernel_rfl) (by simp) ?_
          intro ix hix
          have hix' : ix = 3 ∨ ix = 5 := by simpa using hix
          clear hix
          rcases hix' with rfl | rfl
          · skip
            refine wpOp_step (o := ⟨some 19, _, _, _, _, _⟩) rfl (fun K hK => ?_)
            have HK := Lib.hid hK
            clear hK
            refine step_append_row rfl (.tmp 16) (.tmp 18) 40 rfl 64 (.agg #[.int .i64 0, .int .i64 0, .int .i64 0, .int .i64 0, .int .i64 0, .int .i64 0]) 6 48 Try.underlying40 Try.infoEv rfl (by decide) rfl rfl HG.out.row Hre.out (by unfold maxLen; omega) (by omega) ?_
            intro a2 c2 w5 hrow hupd hloc hnil
            have hs5 := hupd.size
            replace hx := hx.trans hupd (fun _ _ h => h)
            have Hloc := Lib.hid hloc
            have HG := Lib.hid (HG.out.app hupd hloc Hen.out.symm hrow)
            clear hrow hupd hloc hnil
            refine HK.out _ _ ⟨(HT.out _ hx), ?_⟩
            clear HK
            try clear hHeld
            have hHeld := (HT.out _ hx)
            try simp only [Act.put, List.setIfInBounds_toArray, List.set_cons_zero, List.set_cons_succ]
            refine wpAnyH_all (rs := [5]) (by kernel_rfl) (by simp) ?_
            intro ix hix
            obtain rfl : ix = 5 := by simpa using hix
            clear hix
            refine wpOp_step (o := ⟨some 21, _, _, _, _, _⟩) rfl (fun K hK => ?_)
            have HK := Lib.hid hK
            clear hK
            go_simp
            replace hx := hx.alloc (.cells (evA x) 64)
            have HG := Lib.hid (HG.out.step ((Below.refl _ w5).alloc (Nat.le_refl _) (.cells (evA x) 64)))
            have Hlit := Lib.hid ((RowAt.lit w5 (evA x) 64 6 1 (by decide) rfl (by simp [Value.oneCell'])).sl)
            go_wp2_with fail
            refine HK.out _ _ ⟨(HT.out _ hx), ?_⟩
            clear HK
            try clear hHeld
            have hHeld := (HT.out _ hx)
            try simp only [Act.put, List.setIfInBounds_toArray, List.set_cons_zero, List.set_cons_succ]
            refine wpAnyH_all (rs := [6]) (by kernel_rfl) (by simp) ?_
            intro ix hix
            obtain rfl : ix = 6 := by simpa using hix
            clear hix
            refine wpOp_step (o := ⟨some 22, _, _, _, _, _⟩) rfl (fun K hK => ?_)
            have HK := Lib.hid hK
            clear hK
            refine step_append_row rfl (.tmp 19) (.tmp 21) 40 rfl 64 (.agg #[.int .i64 0, .int .i64 0, .int .i64 0, .int .i64 0, .int .i64 0, .int .i64 0]) 6 48 Try.underlying40 Try.infoEv rfl (by decide) rfl rfl HG.out.row Hlit.out (by unfold maxLen; omega) (by omega) ?_
            intro a3 c3 w6 hrow hupd hloc hnil
            have HG := Lib.hid (HG.out.app (zs := [x]) hupd hloc rfl hrow)
            replace hx := hx.trans hupd (fun k hk hq => (blk_loc Hloc.out hq).elim id (fun h => by (try simp at h); omega))
            clear hrow hupd hloc hnil
            refine HK.out _ _ ⟨(HT.out _ hx), ?_⟩
            clear HK
            try clear hHeld
            have hHeld := (HT.out _ hx)
            try simp only [Act.put, List.setIfInBounds_toArray, List.set_cons_zero, List.set_cons_succ]
            refine wpAnyH_take (i := 7) (oi := ⟨some 3, _, _, _, _, _⟩) (v := ?_) rfl (by kernel_rfl) (by kernel_rfl) (by kernel_rfl) (fun _ _ _ h => h) (Or.inl ⟨by rfl, ?_⟩) hHeld ?_
            rotate_left
            · intro w' hS'
              (try dsimp only at hS')
              go_simp
              try with_reducible rfl
            try simp only [Act.put, List.setIfInBounds_toArray, List.set_cons_zero, List.set_cons_succ]
            refine wpAnyH_done (by kernel_rfl) ?_ _
            clear hHeld HT
            go_wp2_with fail
            refine (netBegin _).mono ?_
            rintro y w7 ⟨g', rfl, hsp7, hb7⟩
            have Hsp7 := Lib.hid hsp7
            have HG7 := Lib.hid (HG.out.step hb7)
            have hlt6 := HG.out.row.lt
            have Hlt6 := Lib.hid hlt6
            have hs7 := HG.out.le
            clear hsp7 hb7 hlt6
            go_wp2_with fail
            go_roundw
            case rel => exact ⟨j + 1, rfl, by omega, out ++ es ++ [x], [], [], g', a3, c3, by rw [Hnet.out, Hdr.out]; simp only [netG, ← Hmb.out, if_true, Hes.out], HG7.out.to _ _ (show on + en + 1 = (out ++ es ++ [x]).length by rw [List.length_append, List.length_append, ← Hon.out, ← Hen.out]; rfl) rfl, rfl, Hsp7.out.mono hs7, fun k hk hq => (by obtain ⟨ad, he, rfl⟩ := hk; have h1 := Hlt6.out ad he; have h2 := Hsp7.out.fr _ hq; omega), by simp; rw [← Hon.out, ← Hen.out]; omega⟩
            case measure => first | (simp [intOf]; done) | (simp [intOf]; omega)
          · skip
            refine wpOp_step (o := ⟨some 21, _, _, _, _, _⟩) rfl (fun K hK => ?_)
            have HK := Lib.hid hK
            clear hK
            go_simp
            replace hx := hx.alloc (.cells (evA x) 64)
            have HG := Lib.hid (HG.out.step ((Below.refl _ w4).alloc (Nat.le_refl _) (.cells (evA x) 64)))
            have Hlit := Lib.hid ((RowAt.lit w4 (evA x) 64 6 1 (by decide) rfl (by simp [Value.oneCell'])).sl)
            have Hre := Lib.hid (Hre.out.alloc (.cells (evA x) 64))
            have hlp : ∀ ad, some (⟨w4.heap.size, 0, none⟩ : Addr) = some ad → 0 < 1 → ¬ blk a1 ad.block := fun ad he _ hq => by obtain rfl := Option.some.inj he; have := Hnz.out _ hq; simp at this; omega
            go_wp2_with fail
            refine HK.out _ _ ⟨(HT.out _ hx), ?_⟩
            clear HK
            try clear hHeld
            have hHeld := (HT.out _ hx)
            try simp only [Act.put, List.setIfInBounds_toArray, List.set_cons_zero, List.set_cons_succ]
            refine wpAnyH_all (rs := [3]) (by kernel_rfl) (by simp) ?_
            intro ix hix
            obtain rfl : ix = 3 := by simpa using hix
            clear hix
            refine wpOp_step (o := ⟨some 19, _, _, _, _, _⟩) rfl (fun K hK => ?_)
            have HK := Lib.hid hK
            clear hK
            refine step_append_row rfl (.tmp 16) (.tmp 18) 40 rfl 64 (.agg #[.int .i64 0, .int .i64 0, .int .i64 0, .int .i64 0, .int .i64 0, .int .i64 0]) 6 48 Try.underlying40 Try.infoEv rfl (by decide) rfl rfl HG.out.row Hre.out (by unfold maxLen; omega) (by omega) ?_
            intro a2 c2 w5 hrow hupd hloc hnil
            have Hlit := Lib.hid (Hlit.out.upd hupd hlp)
            have hs5 := hupd.size
            replace hx := hx.trans hupd (fun _ _ h => h)
            have Hloc := Lib.hid hloc
            have HG := Lib.hid (HG.out.app hupd hloc Hen.out.symm hrow)
            clear hrow hupd hloc hnil
            refine HK.out _ _ ⟨(HT.out _ hx), ?_⟩
            clear HK
            try clear hHeld
            have hHeld := (HT.out _ hx)
            try simp only [Act.put, List.setIfInBounds_toArray, List.set_cons_zero, List.set_cons_succ]
            refine wpAnyH_all (rs := [6]) (by kernel_rfl) (by simp) ?_
            intro ix hix
            obtain rfl : ix = 6 := by simpa using hix
            clear hix
            refine wpOp_step (o := ⟨some 22, _, _, _, _, _⟩) rfl (fun K hK => ?_)
            have HK := Lib.hid hK
            clear hK
            refine step_append_row rfl (.tmp 19) (.tmp 21) 40 rfl 64 (.agg #[.int .i64 0, .int .i64 0, .int .i64 0, .int .i64 0, .int .i64 0, .int .i64 0]) 6 48 Try.underlying40 Try.infoEv rfl (by decide) rfl rfl HG.out.row Hlit.out (by unfold maxLen; omega) (by omega) ?_
            intro a3 c3 w6 hrow hupd hloc hnil
            have HG := Lib.hid (HG.out.app (zs := [x]) hupd hloc rfl hrow)
            replace hx := hx.trans hupd (fun k hk hq => (blk_loc Hloc.out hq).elim id (fun h => by (try simp at h); omega))
            clear hrow hupd hloc hnil
            refine HK.out _ _ ⟨(HT.out _ hx), ?_⟩
            clear HK
            try clear hHeld
            have hHeld := (HT.out _ hx)
            try simp only [Act.put, List.setIfInBounds_toArray, List.set_cons_zero, List.set_cons_succ]
            refine wpAnyH_take (i := 7) (oi := ⟨some 3, _, _, _, _, _⟩) (v := ?_) rfl (by kernel_rfl) (by kernel_rfl) (by kernel_rfl) (fun _ _ _ h => h) (Or.inl ⟨by rfl, ?_⟩) hHeld ?_
            rotate_left
            · intro w' hS'
              (try dsimp only at hS')
              go_simp
              try with_reducible rfl
            try simp only [Act.put, List.setIfInBounds_toArray, List.set_cons_zero, List.set_cons_succ]
            refine wpAnyH_done (by kernel_rfl) ?_ _
            clear hHeld HT
            go_wp2_with fail
            refine (netBegin _).mono ?_
            rintro y w7 ⟨g', rfl, hsp7, hb7⟩
            have Hsp7 := Lib.hid hsp7
            have HG7 := Lib.hid (HG.out.step hb7)
            have hlt6 := HG.out.row.lt
            have Hlt6 := Lib.hid hlt6
            have hs7 := HG.out.le
            clear hsp7 hb7 hlt6
            go_wp2_with fail
            go_roundw
            case rel => exact ⟨j + 1, rfl, by omega, out ++ es ++ [x], [], [], g', a3, c3, by rw [Hnet.out, Hdr.out]; simp only [netG, ← Hmb.out, if_true, Hes.out], HG7.out.to _ _ (show on + en + 1 = (out ++ es ++ [x]).length by rw [List.length_append, List.length_append, ← Hon.out, ← Hen.out]; rfl) rfl, rfl, Hsp7.out.mono hs7, fun k hk hq => (by obtain ⟨ad, he, rfl⟩ := hk; have h1 := Hlt6.out ad he; have h2 := Hsp7.out.fr _ hq; omega), by simp; rw [← Hon.out, ← Hen.out]; omega⟩
            case measure => first | (simp [intOf]; done) | (simp [intOf]; omega)
        · skip
          refine wpOp_step (o := ⟨some 21, _, _, _, _, _⟩) rfl (fun K hK => ?_)
          have HK := Lib.hid hK
          clear hK
          go_simp
          replace hx : Upd (blk a1) w3 (w3.alloc (.cells (evA x) 64)).drew := ((Upd.refl _ _).alloc _).drew
          have hbb := ((Below.refl _ w3).alloc (Nat.le_refl _) (.cells (evA x) 64)).drew
          have HG := Lib.hid (Hg3.out.step hbb)
          have Hlit := Lib.hid (((RowAt.lit w3 (evA x) 64 6 1 (by decide) rfl (by simp [Value.oneCell'])).sl).drew)
          have hlp : ∀ ad, some (⟨w3.heap.size, 0, none⟩ : Addr) = some ad → 0 < 1 → ¬ blk a1 ad.block := fun ad he _ hq => by obtain rfl := Option.some.inj he; have := Hnz.out _ hq; (try simp at this); (try omega)
          clear hbb
          go_wp2_with fail
          refine HK.out _ _ ⟨(HT.out _ hx), ?_⟩
          clear HK
          try clear hHeld
          have hHeld := (HT.out _ hx)
          try simp only [Act.put, List.setIfInBounds_toArray, List.set_cons_zero, List.set_cons_succ]
          refine wpAnyH_all (rs := [2]) (by kernel_rfl) (by simp) ?_
          intro ix hix
          obtain rfl : ix = 2 := by simpa using hix
          clear hix
          refine wpOp_step (o := ⟨some 18, _, _, _, _, _⟩) rfl (fun K hK => ?_)
          have HK := Lib.hid hK
          clear hK
          go_simp
          refine (netEnd _ _ g ms ss (Hsp3.out.upd hx (fun k hk hq => Hdis.out k hq hk)) (by omega) (by omega)).mono ?_
          rw [← Hes.out]
          rintro y w4 ⟨ae, ce, rfl, hre, hfe, hb⟩
          rw [← Hen.out] at hre ⊢
          have Hre := Lib.hid hre.sl
          have HG := Lib.hid (HG.out.step hb)
          have hs4 := hb.size
          have Hlit := Lib.hid (Hlit.out.all hb)
          have hxs := hx.size
          replace hx := hx.trans (Upd.of_below (S := fun _ => False) hb) (fun _ _ f => f.elim)
          clear hre hfe hb
          go_wp2_with fail
          refine HK.out _ _ ⟨(HT.out _ hx), ?_⟩
          clear HK
          try clear hHeld
          have hHeld := (HT.out _ hx)
          try simp only [Act.put, List.setIfInBounds_toArray, List.set_cons_zero, List.set_cons_succ]
          refine wpAnyH_all (rs := [3]) (by kernel_rfl) (by simp) ?_
          intro ix hix
          obtain rfl : ix = 3 := by simpa using hix
          clear hix
          refine wpOp_step (o := ⟨some 19, _, _, _, _, _⟩) rfl (fun K hK => ?_)
          have HK := Lib.hid hK
          clear hK
          refine step_append_row rfl (.tmp 16) (.tmp 18) 40 rfl 64 (.agg #[.int .i64 0, .int .i64 0, .int .i64 0, .int .i64 0, .int .i64 0, .int .i64 0]) 6 48 Try.underlying40 Try.infoEv rfl (by decide) rfl rfl HG.out.row Hre.out (by unfold maxLen; omega) (by omega) ?_
          intro a2 c2 w5 hrow hupd hloc hnil
          have Hlit := Lib.hid (Hlit.out.upd hupd hlp)
          have hs5 := hupd.size
          replace hx := hx.trans hupd (fun _ _ h => h)
          have Hloc := Lib.hid hloc
          have HG := Lib.hid (HG.out.app hupd hloc Hen.out.symm hrow)
          clear hrow hupd hloc hnil
          refine HK.out _ _ ⟨(HT.out _ hx), ?_⟩
          clear HK
          try clear hHeld
          have hHeld := (HT.out _ hx)
          try simp only [Act.put, List.setIfInBounds_toArray, List.set_cons_zero, List.set_cons_succ]
          refine wpAnyH_all (rs := [6]) (by kernel_rfl) (by simp) ?_
          intro ix hix
          obtain rfl : ix = 6 := by simpa using hix
          clear hix
          refine wpOp_step (o := ⟨some 22, _, _, _, _, _⟩) rfl (fun K hK => ?_)
          have HK := Lib.hid hK
          clear hK
          refine step_append_row rfl (.tmp 19) (.tmp 21) 40 rfl 64 (.agg #[.int .i64 0, .int .i64 0, .int .i64 0, .int .i64 0, .int .i64 0, .int .i64 0]) 6 48 Try.underlying40 Try.infoEv rfl (by decide) rfl rfl HG.out.row Hlit.out (by unfold maxLen; omega) (by omega) ?_
          intro a3 c3 w6 hrow hupd hloc hnil
          have HG := Lib.hid (HG.out.app (zs := [x]) hupd hloc rfl hrow)
          replace hx := hx.trans hupd (fun k hk hq => (blk_loc Hloc.out hq).elim id (fun h => by (try simp at h); omega))
          clear hrow hupd hloc hnil
          refine HK.out _ _ ⟨(HT.out _ hx), ?_⟩
          clear HK
          try clear hHeld
          have hHeld := (HT.out _ hx)
          try simp only [Act.put, List.setIfInBounds_toArray, List.set_cons_zero, List.set_cons_succ]
          refine wpAnyH_take (i := 7) (oi := ⟨some 3, _, _, _, _, _⟩) (v := ?_) rfl (by kernel_rfl) (by kernel_rfl) (by kernel_rfl) (fun _ _ _ h => h) (Or.inl ⟨by rfl, ?_⟩) hHeld ?_
          rotate_left
          · intro w' hS'
            (try dsimp only at hS')
            go_simp
            try with_reducible rfl
          try simp only [Act.put, List.setIfInBounds_toArray, List.set_cons_zero, List.set_cons_succ]
          refine wpAnyH_done (by kernel_rfl) ?_ _
          clear hHeld HT
          go_wp2_with fail
          refine (netBegin _).mono ?_
          rintro y w7 ⟨g', rfl, hsp7, hb7⟩
          have Hsp7 := Lib.hid hsp7
          have HG7 := Lib.hid (HG.out.step hb7)
          have hlt6 := HG.out.row.lt
          have Hlt6 := Lib.hid hlt6
          have hs7 := HG.out.le
          clear hsp7 hb7 hlt6
          go_wp2_with fail
          go_roundw
          case rel => exact ⟨j + 1, rfl, by omega, out ++ es ++ [x], [], [], g', a3, c3, by rw [Hnet.out, Hdr.out]; simp only [netG, ← Hmb.out, if_true, Hes.out], HG7.out.to _ _ (show on + en + 1 = (out ++ es ++ [x]).length by rw [List.length_append, List.length_append, ← Hon.out, ← Hen.out]; rfl) rfl, rfl, Hsp7.out.mono hs7, fun k hk hq => (by obtain ⟨ad, he, rfl⟩ := hk; have h1 := Hlt6.out ad he; have h2 := Hsp7.out.fr _ hq; omega), by simp; rw [← Hon.out, ← Hen.out]; omega⟩
          case measure => first | (simp [intOf]; done) | (simp [intOf]; omega)
    · obtain rfl : j = n := by omega
      have hfin : netF l = out ++ endS ms ss := by
        unfold netF
        rw [Hnet.out, List.drop_of_length_le (by have := Hln.out; omega)]
        rfl
      obtain ⟨es, hes⟩ : ∃ es, es = endS ms ss := ⟨_, rfl⟩
      obtain ⟨en, hen⟩ : ∃ en, en = es.length := ⟨_, rfl⟩
      have hel : en ≤ ms.length + ss.length := by have := endS_len ms ss; rw [hen, hes]; exact this
      rw [← hes] at hfin
      have Hfin := Lib.hid hfin
      have Hes := Lib.hid hes
      have Hen := Lib.hid hen
      clear hes hen hfin
      go_wp2_with fail
      refine (netEnd _ _ g ms ss Hsp.out (by omega) (by omega)).mono ?_
      rw [← Hes.out]
      rintro y w4 ⟨ae, ce, rfl, hre, hfe, hb⟩
      rw [← Hen.out] at hre ⊢
      have Hre := Lib.hid hre.sl
      have HG := Lib.hid (Hg.out.step hb)
      clear hre hfe hb
      go_wp2_with (at_builtin; refine wp_append rfl (.tmp 28) (.tmp 30) 40 rfl 64 (.agg #[.int .i64 0, .int .i64 0, .int .i64 0, .int .i64 0, .int .i64 0, .int .i64 0]) 6 48 Try.underlying40 Try.infoEv rfl (by decide) rfl rfl HG.out.row Hre.out (by unfold maxLen; omega) (by omega) ?_; intro a3 c3 w5 hrow hupd hloc hnil; have HG5 := Lib.hid (HG.out.app hupd hloc Hen.out.symm hrow); clear hrow hupd hloc hnil)
      go_ret
      have hl5 : (netF l).length = on + en := by rw [Hfin.out, List.length_append, ← Hon.out, ← Hen.out]
      refine ⟨a3, c3, by rw [hl5]; rfl, ?_, HG5.out.fr, HG5.out.bel⟩
      rw [hl5, Hfin.out]
      exact HG5.out.row
end Go.Proofs.Ytpbocficffbcbaa
namespace Go.Proofs.Ytpbocficffbcbaa
open Go Go.RowKit
set_option linter.unusedVariables false

theorem addM_len' (ms ss : List Ev) (e : Ev) : (addM ms e).length + (addT ss e).length ≤ ms.length + ss.length + 1 := by
  have key : ∀ ss : List Ev, (addS ss e).length ≤ ss.length + 1 := by
    intro ss
    induction ss with
    | nil => simp [addS]
    | cons x t ih => simp only [addS]; split <;> simp; omega
  have := key ss
  unfold addM addT
  split
  · omega
  · simp; omega
theorem netG_len (l : List Ev) : ∀ out ms ss, (netG out ms ss l).length ≤ out.length + ms.length + ss.length + l.length := by
  induction l with
  | nil =>
    intro out ms ss
    have := List.length_filter_le leftE ss
    simp [netG, endS]
    omega
  | cons e t ih =>
    intro out ms ss
    simp only [netG]
    split
    · have h1 := ih (out ++ endS ms ss ++ [e]) [] []
      have := List.length_filter_le leftE ss
      simp [endS] at h1 ⊢
      omega
    · have h1 := ih out (addM ms e) (addT ss e)
      have h2 := addM_len' ms ss e
      simp
      omega
theorem netF_len (l : List Ev) : (netF l).length ≤ l.length := by
  have := netG_len l [] [] []
  simpa [netF] using this

/-! ### the net of a net -/
def keyNe (x y : Ev) : Prop := keyE x ≠ keyE y
structure Inv (ms ss : List Ev) : Prop where
  m : ∀ e ∈ ms, setsB e = false ∧ makesB e = false
  s : ∀ e ∈ ss, setsB e = true ∧ makesB e = false
  k : ss.Pairwise keyNe
theorem Inv.nil : Inv [] [] := ⟨by simp, by simp, .nil⟩
theorem addS_mem {ss : List Ev} {e x : Ev} (h : x ∈ addS ss e) : (∃ y ∈ ss, keyE x = keyE y ∧ x.k = y.k) ∨ x = e := by
  induction ss with
  | nil => simp [addS] at h; exact .inr h
  | cons y t ih =>
    simp only [addS] at h
    split at h
    · rcases List.mem_cons.1 h with rfl | h
      · exact .inl ⟨y, by simp, rfl, rfl⟩
      · exact .inl ⟨x, by simp [h], rfl, rfl⟩
    · rcases List.mem_cons.1 h with rfl | h
      · exact .inl ⟨x, by simp, rfl, rfl⟩
      · rcases ih h with ⟨z, hz, h1⟩ | h1
        · exact .inl ⟨z, by simp [hz], h1⟩
        · exact .inr h1
theorem addS_pair {ss : List Ev} {e : Ev} (h : ss.Pairwise keyNe) : (addS ss e).Pairwise keyNe := by
  induction ss with
  | nil => simp [addS]
  | cons y t ih =>
    obtain ⟨h1, h2⟩ := List.pairwise_cons.1 h
    simp only [addS]
    split
    · exact List.pairwise_cons.2 ⟨fun z hz => h1 z hz, h2⟩
    · rename_i hk
      refine List.pairwise_cons.2 ⟨fun z hz => ?_, ih h2⟩
      rcases addS_mem hz with ⟨u, hu, h3, _⟩ | rfl
      · intro hq
        exact h1 u hu (hq.trans h3)
      · exact fun hq => hk hq.symm
theorem sets_of_k {x y : Ev} (h : x.k = y.k) : setsB x = setsB y ∧ makesB x = makesB y := by simp [setsB, makesB, h]
theorem Inv.add {ms ss : List Ev} (h : Inv ms ss) {e : Ev} (he : makesB e = false) : Inv (addM ms e) (addT ss e) := by
  unfold addM addT
  cases hs : setsB e with
  | false =>
    refine ⟨fun x hx => ?_, h.s, h.k⟩
    rcases List.mem_append.1 hx with h1 | h1
    · exact h.m x h1
    · rw [List.mem_singleton.1 h1]; exact ⟨hs, he⟩
  | true =>
    refine ⟨h.m, fun x hx => ?_, addS_pair h.k⟩
    rcases addS_mem hx with ⟨y, hy, _, h2⟩ | rfl
    · rw [(sets_of_k h2).1, (sets_of_k h2).2]; exact h.s y hy
    · exact ⟨hs, he⟩
theorem netG_out (l : List Ev) : ∀ out ms ss, netG out ms ss l = out ++ netG [] ms ss l := by
  induction l with
  | nil => intro out ms ss; simp [netG]
  | cons e t ih =>
    intro out ms ss
    simp only [netG]
    split
    · rw [ih, ih ([] ++ endS ms ss ++ [e])]
      simp
    · exact ih _ _ _
theorem netG_moves {ms : List Ev} (h : ∀ e ∈ ms, setsB e = false ∧ makesB e = false) : ∀ out ms0 ss0 rest, netG out ms0 ss0 (ms ++ rest) = netG out (ms0 ++ ms) ss0 rest := by
  induction ms with
  | nil => intros; simp
  | cons e t ih =>
    intro out ms0 ss0 rest
    obtain ⟨h1, h2⟩ := h e (by simp)
    rw [List.cons_append, netG, h2, if_neg (by simp), addM, addT, h1, if_neg (by simp), if_neg (by simp), ih (fun x hx => h x (by simp [hx]))]
    simp
theorem addS_last {ss : List Ev} {e : Ev} (h : ∀ x ∈ ss, keyNe x e) : addS ss e = ss ++ [e] := by
  induction ss with
  | nil => rfl
  | cons x t ih =>
    rw [addS, if_neg (fun hq => h x (by simp) hq.symm), ih (fun y hy => h y (by simp [hy]))]
    rfl
theorem netG_sets {ss : List Ev} (h : ∀ e ∈ ss, setsB e = true ∧ makesB e = false) : ∀ out ms0 ss0 rest, (ss0 ++ ss).Pairwise keyNe → netG out ms0 ss0 (ss ++ rest) = netG out ms0 (ss0 ++ ss) rest := by
  induction ss with
  | nil => intros; simp
  | cons e t ih =>
    intro out ms0 ss0 rest hp
    obtain ⟨h1, h2⟩ := h e (by simp)
    rw [List.cons_append, netG, h2, if_neg (by simp), addM, addT, h1, if_pos rfl, if_pos rfl,
      addS_last (fun x hx => (List.pairwise_append.1 hp).2.2 x hx e (by simp)), ih (fun x hx => h x (by simp [hx])) _ _ _ _ (by simpa using hp)]
    simp
theorem netG_end {ms ss : List Ev} (h : Inv ms ss) (out rest : List Ev) : netG out [] [] (endS ms ss ++ rest) = netG out ms (ss.filter leftE) rest := by
  unfold endS
  rw [List.append_assoc, netG_moves h.m, netG_sets (fun e he => h.s e (List.mem_filter.1 he).1) _ _ _ _ (by simpa using h.k.filter _)]
  simp
theorem endS_filter (ms ss : List Ev) : endS ms (ss.filter leftE) = endS ms ss := by simp [endS]
theorem netG_net (l : List Ev) : ∀ out ms ss, Inv ms ss → netG out [] [] (netG [] ms ss l) = netG out ms ss l := by
  induction l with
  | nil =>
    intro out ms ss h
    have := netG_end h out []
    rw [List.append_nil] at this
    simp only [netG, List.nil_append] at this ⊢
    rw [this, endS_filter]
  | cons e t ih =>
    intro out ms ss h
    simp only [netG]
    split
    · rename_i hm
      rw [netG_out t ([] ++ endS ms ss ++ [e]), List.nil_append, List.append_assoc, netG_end h, List.singleton_append, netG, if_pos hm, endS_filter, ih _ _ _ Inv.nil]
    · rename_i hm
      exact ih _ _ _ (h.add (by simpa using hm))
theorem netF_net (l : List Ev) : netF (netF l) = netF l := netG_net l [] [] [] Inv.nil
end Go.Proofs.Ytpbocficffbcbaa
namespace Go.Proofs.Ytpbocficffbcbaa
open Go Go.RowKit
set_option linter.unusedVariables false

set_option maxHeartbeats 800000 in
theorem foldBad (w : World) (bj : Nat) (es : List Ev) (ms : List Mk) (last : Int) (ea ma : Option Addr) (ec mc : Nat) (h : JAt w bj es ms last ea ec ma mc) (ok : JOk es ms last) (hm : ms.length < 1000000) (c : Int) (hp : place ms c = none) :
    Calls Try.prog 47 #[.pointer (some ⟨bj, 0, none⟩), .int .i64 c] w (fun e w' => e = .returned (errV 32 16) ∧ Below w.heap.size w w') := by
  have hv : errV 32 16 = .iface 32 (.int .i64 16) := rfl
  go_enter Try.func47, Try.ntmps47
  go_wp2_with (go_at_call 53; refine (spanBad _ _ _ _ _ _ _ _ _ h ok hm c hp).mono ?_; rintro e w' ⟨rfl, hb⟩; rw [hv])
  go_ret
  exact ⟨rfl, hb⟩

theorem JTo.comp {w w3 : World} {bj : Nat} {es' : List Ev} {ms' : List Mk} {last' : Int} {ea ma ea3 ma3 : Option Addr} {v : Value} {e : Ending} {w' : World} (u : Upd (ownJ bj ea ma) w w3) (h1 : ∀ ad, ea3 = some ad → ea = some ad ∨ w.heap.size ≤ ad.block) (h2 : ∀ ad, ma3 = some ad → ma = some ad ∨ w.heap.size ≤ ad.block)
    (t : JTo w3 bj ea3 ma3 es' ms' last' v e w') : JTo w bj ea ma es' ms' last' v e w' := by
  obtain ⟨ea', ec', ma', mc', rfl, hj, hu, k1, k2⟩ := t
  have hz := u.size
  refine ⟨ea', ec', ma', mc', rfl, hj, u.trans hu (fun i hi ho => ?_), fun ad he => ?_, fun ad he => ?_⟩
  · rcases ho with rfl | ⟨ad, he, rfl⟩ | ⟨ad, he, rfl⟩
    · exact .inl rfl
    · rcases h1 ad he with h | h
      · exact .inr (.inl ⟨ad, h, rfl⟩)
      · omega
    · rcases h2 ad he with h | h
      · exact .inr (.inr ⟨ad, h, rfl⟩)
      · omega
  · rcases k1 ad he with h | h
    · exact h1 ad h
    · exact .inr (Nat.le_trans hz h)
  · rcases k2 ad he with h | h
    · exact h2 ad h
    · exact .inr (Nat.le_trans hz h)

set_option maxRecDepth 100000 in
set_option maxHeartbeats 3200000 in
theorem foldOk (w : World) (bj : Nat) (es : List Ev) (ms : List Mk) (last : Int) (ea ma : Option Addr) (ec mc : Nat) (h : JAt w bj es ms last ea ec ma mc) (ok : JOk es ms last) (hm : ms.length < 1000000) (hes : es.length ≤ 1000) (c : Int) (i : Nat) (n : Int) (k : Nat)
    (hp : place ms c = some i) (hi : ms[i]? = some (n, k)) :
    Calls Try.prog 47 #[.pointer (some ⟨bj, 0, none⟩), .int .i64 c] w (JTo w bj ea ma (es.take k ++ netF (es.drop k)) (ms.take (i + 1)) last .nilIface) := by
  have hk : k ≤ es.length := ok.beh _ (List.mem_of_getElem? hi)
  have Hpi := Lib.hid (placeI_some hp)
  have Hi := Lib.hid hi
  have Hp := Lib.hid hp
  have hkl : (es.take k).length = k := by rw [List.length_take]; omega
  have hll : (es.drop k).length ≤ 1000 := by rw [List.length_drop]; omega
  have hnl := netF_len (es.drop k)
  obtain ⟨nl, hnn⟩ : ∃ nl, nl = netF (es.drop k) := ⟨_, rfl⟩
  obtain ⟨l, hl⟩ : ∃ l, l = es.drop k := ⟨_, rfl⟩
  obtain ⟨ft, hft⟩ : ∃ ft, ft = es.take k := ⟨_, rfl⟩
  rw [← hnn, ← hft]
  rw [← hnn, ← hl] at hnl
  rw [← hl] at hll hnn
  rw [← hft] at hkl
  have Hl := Lib.hid hl
  have Hft := Lib.hid hft
  have Hnn := Lib.hid hnn
  have Hkl := Lib.hid hkl
  clear hi hp hnn hl hft hkl
  go_enter Try.func47, Try.ntmps47
  go_wp2_with fail
  refine (spanOk _ _ _ _ _ _ _ _ _ h ok hm (by omega) c i n k Hp.out Hi.out hk).mono ?_
  rw [← Hl.out]
  rintro e w1 ⟨sa, sc, rfl, hsr, hsf, hb1⟩
  have hj1 := h.all hb1
  go_wp2_with fail
  refine (find _ _ _ _ _ _ _ _ _ hj1 ok hm c).mono ?_
  rintro e w2 ⟨rfl, hb2⟩
  rw [Hpi.out]
  have b2 := hb1.trans (hb2.mono hb1.size)
  have hj2 := h.all b2
  have hsr2 := hsr.all hb2
  go_wp2_with fail
  refine (cut _ _ _ _ _ _ _ _ _ hj2 hm i n k Hi.out hk).mono ?_
  rw [← Hft.out]
  rintro e w3 ⟨ea3, ec3, ma3, mc3, rfl, hj3, hu3, hl3, hl3'⟩
  have hsno : ∀ ad, sa = some ad → ¬ ownJ bj ea ma ad.block := fun ad he ho => by have := hsf ad he; have := h.lt ho; omega
  have hsr3 := hsr2.upd hu3 hsno
  have u3 : Upd (ownJ bj ea ma) w w3 := (Upd.of_below b2).trans hu3 (fun _ _ hb => hb)
  have hz3 := u3.size
  have hz2 := b2.size
  have hs3 := hsr3.sl
  have L3 := Lib.hid (fun ad he => (hl3 ad he).imp id (fun h' => Nat.le_trans hz2 h') : ∀ ad, ea3 = some ad → ea = some ad ∨ w.heap.size ≤ ad.block)
  have L3' := Lib.hid (fun ad he => (hl3' ad he).imp id (fun h' => Nat.le_trans hz2 h') : ∀ ad, ma3 = some ad → ma = some ad ∨ w.heap.size ≤ ad.block)
  have HJ3 := Lib.hid hj3
  have Hs3 := Lib.hid hs3
  have HX := Lib.hid (fun (x : World) (hb : Below w3.heap.size w3 x) => (by
    have := obj_cell (hj3.all hb).obj 0
    simp at this
    exact this : x.cell? ⟨bj, 0, none⟩ = some (.slice ea3 ft.length ec3)))
  clear hsr hsr2 hsr3 hl3 hl3' hj3 hs3 hj1 hj2
  go_wp2_with fail
  have hx1 := HX.out w3 (Below.refl _ _)
  go_region_law (first
    | (refine step_append_row rfl (.tmp 25) (.tmp 27) 40 rfl 64 (.agg #[.int .i64 0, .int .i64 0, .int .i64 0, .int .i64 0, .int .i64 0, .int .i64 0]) 6 48 Try.underlying40 Try.infoEv rfl (by decide) rfl rfl (HJ3.out.all B4.out).ev HR.out.sl (by have := Hkl.out; unfold maxLen; omega) (by have := Hkl.out; omega) ?_; intro a5 c5 w5 hrow hupd hloc hnil; have o5 := hupd.obj (HJ3.out.all B4.out).obj (fun ⟨ad, he, hb⟩ => HJ3.out.nev ad he hb); have c05 := obj_cell o5 0; have f05 := obj_free o5 0; simp at c05)
    | (go_simp; go_at_call 70; refine (netNet _ _ _ _ l Hs3.out.drew (by omega)).mono ?_; rw [← Hnn.out]; rintro e w4 ⟨a4, c4, rfl, hr4, hf4, hb4⟩; have B4 := Lib.hid ((undrew hb4 : Below w3.heap.size w3 w4)); have hx2 := HX.out _ B4.out; have HR := Lib.hid hr4; clear hr4 hf4 hb4))
  all_goals
    go_wp2_with fail
    go_ret
    exact JTo.comp u3 L3.out L3'.out (add_fin (HJ3.out) rfl B4.out hrow hupd hloc _)
end Go.Proofs.Ytpbocficffbcbaa
namespace Go.Proofs.Ytpbocficffbcbaa
open Go Go.RowKit
set_option linter.unusedVariables false

def matchE (x e : Ev) : Bool := setsB x && decide (keyE x = keyE e)
/-- The last event that sets e's field; e: none. -/
def lastE (e : Ev) (l : List Ev) : Ev := l.foldl (fun d x => if matchE x e then x else d) e
/-- Does no event set e's field? -/
def firstE (e : Ev) (l : List Ev) : Bool := !(l.any (fun x => matchE x e))
def item0 (l : List Ev) (i : Nat) (e : Ev) : List Ev := if setsB e && firstE e (l.take i) then [{ e with d := (lastE e l).d }] else []
def secs0 (l : List Ev) : Nat → List Ev
  | 0 => []
  | i + 1 => secs0 l i ++ (match l[i]? with | some e => item0 l i e | none => [])
/-- What the document's span puts behind, from the event e. -/
def item1 (l : List Ev) (i : Nat) (e : Ev) : List Ev := if setsB e && firstE e (l.take i) && decide (e.c ≠ (lastE e l).d) then [{ e with d := (lastE e l).d }] else []
def secs1 (l : List Ev) : Nat → List Ev
  | 0 => []
  | i + 1 => secs1 l i ++ (match l[i]? with | some e => item1 l i e | none => [])
def oneL (l : List Ev) : List Ev := l.filter (fun e => !setsB e) ++ secs1 l l.length

theorem item_filter (l : List Ev) (i : Nat) (e : Ev) : (item0 l i e).filter leftE = item1 l i e := by
  unfold item0 item1
  by_cases h : (setsB e && firstE e (l.take i)) = true
  · rw [if_pos h, h]
    simp [List.filter_cons, leftE]
  · rw [if_neg h]
    simp only [Bool.not_eq_true] at h
    rw [h]
    simp
theorem secs_filter (l : List Ev) (n : Nat) : (secs0 l n).filter leftE = secs1 l n := by
  induction n with
  | zero => rfl
  | succ n ih =>
    simp only [secs0, secs1, List.filter_append, ih]
    cases l[n]? with
    | none => rfl
    | some e => simp only [item_filter]

def updE (e y : Ev) : Ev := if matchE e y then { y with d := e.d } else y
theorem lastE_snoc (x e : Ev) (l : List Ev) : lastE x (l ++ [e]) = if matchE e x then e else lastE x l := by simp [lastE, List.foldl_append]
theorem item0_snoc (l : List Ev) (e x : Ev) {i : Nat} (hi : i ≤ l.length) : item0 (l ++ [e]) i x = (item0 l i x).map (updE e) := by
  unfold item0
  rw [List.take_append_of_le_length hi]
  split
  · rw [lastE_snoc]
    have hm : matchE e { x with d := (lastE x l).d } = matchE e x := rfl
    simp only [List.map_cons, List.map_nil, updE, hm]
    split <;> rfl
  · rfl
theorem secs0_snoc (l : List Ev) (e : Ev) : ∀ i, i ≤ l.length → secs0 (l ++ [e]) i = (secs0 l i).map (updE e) := by
  intro i
  induction i with
  | zero => intro _; rfl
  | succ i ih =>
    intro hi
    have hg : (l ++ [e])[i]? = l[i]? := List.getElem?_append_left (by omega)
    simp only [secs0, List.map_append, ih (by omega), hg]
    cases l[i]? with
    | none => rfl
    | some x => simp only [item0_snoc l e x (show i ≤ l.length by omega)]
theorem addS_map {ss : List Ev} {e : Ev} (he : setsB e = true) (hp : ss.Pairwise keyNe) : addS ss e = if ss.any (fun y => decide (keyE y = keyE e)) then ss.map (updE e) else ss ++ [e] := by
  induction ss with
  | nil => rfl
  | cons y t ih =>
    obtain ⟨h1, h2⟩ := List.pairwise_cons.1 hp
    simp only [addS]
    by_cases hk : keyE e = keyE y
    · rw [if_pos hk]
      have hu : updE e y = { y with d := e.d } := by simp [updE, matchE, he, hk]
      have ht : t.map (updE e) = t := by
        refine (List.map_congr_left (g := id) fun z hz => ?_).trans (List.map_id t)
        have : ¬ keyE e = keyE z := fun hq => h1 z hz (hk.symm.trans hq)
        simp [updE, matchE, this]
      simp [hk, hu, ht]
    · rw [if_neg hk, ih h2]
      have hk' : ¬ keyE y = keyE e := fun hq => hk hq.symm
      have hu : updE e y = y := by simp [updE, matchE, hk]
      simp only [List.any_cons, hk', decide_false, Bool.false_or, List.map_cons, hu]
      split <;> rfl
theorem addS_any {ss : List Ev} {e : Ev} (k : K3) : (addS ss e).any (fun y => decide (keyE y = k)) = (ss.any (fun y => decide (keyE y = k)) || decide (keyE e = k)) := by
  induction ss with
  | nil => simp [addS]
  | cons y t ih =>
    simp only [addS]
    split
    · rename_i hk
      have : keyE { y with d := e.d } = keyE y := rfl
      simp only [List.any_cons, this, hk]
      cases decide (keyE y = k) <;> simp
    · simp only [List.any_cons, ih, Bool.or_assoc]
def foldM (l : List Ev) : List Ev := l.foldl addM []
def foldS (l : List Ev) : List Ev := l.foldl addT []
theorem foldS_snoc (l : List Ev) (e : Ev) : foldS (l ++ [e]) = addT (foldS l) e := by simp [foldS, List.foldl_append]
theorem foldM_eq (l : List Ev) : ∀ ms, l.foldl addM ms = ms ++ l.filter (fun e => !setsB e) := by
  induction l with
  | nil => intro ms; simp
  | cons e t ih =>
    intro ms
    rw [List.foldl_cons, ih, addM]
    cases h : setsB e <;> simp [h]
theorem foldS_pair (l : List Ev) : ∀ ss : List Ev, ss.Pairwise keyNe → (l.foldl addT ss).Pairwise keyNe := by
  induction l with
  | nil => intro ss h; exact h
  | cons e t ih =>
    intro ss h
    rw [List.foldl_cons]
    refine ih _ ?_
    unfold addT
    split
    · exact addS_pair h
    · exact h
theorem any_snoc (l : List Ev) (e : Ev) (p : Ev → Bool) : (l ++ [e]).any p = (l.any p || p e) := by simp [List.any_append]
/-- Induction from the end. -/
theorem snoc_ind {p : List Ev → Prop} (h0 : p []) (h1 : ∀ l e, p l → p (l ++ [e])) (l : List Ev) : p l := by
  have key : ∀ n (l : List Ev), l.length = n → p l := by
    intro n
    induction n with
    | zero => intro l h; rw [List.length_eq_zero_iff.1 h]; exact h0
    | succ n ih =>
      intro l h
      have hne : l ≠ [] := fun hq => by rw [hq] at h; simp at h
      rw [← List.dropLast_concat_getLast hne]
      exact h1 _ _ (ih _ (by simp [h]))
  exact key _ l rfl
theorem foldS_any (l : List Ev) (k : K3) : (foldS l).any (fun y => decide (keyE y = k)) = l.any (fun x => setsB x && decide (keyE x = k)) := by
  induction l using snoc_ind with
  | h0 => rfl
  | h1 l e ih =>
    rw [foldS_snoc, any_snoc, ← ih, addT]
    cases h : setsB e with
    | true => rw [if_pos rfl, addS_any]; simp
    | false => rw [if_neg (by simp)]; simp
theorem foldS_secs (l : List Ev) : foldS l = secs0 l l.length := by
  induction l using snoc_ind with
  | h0 => rfl
  | h1 l e ih =>
    have hpair : (foldS l).Pairwise keyNe := foldS_pair l [] .nil
    have hlen : (l ++ [e]).length = l.length + 1 := by simp
    have hget : (l ++ [e])[l.length]? = some e := by simp
    rw [foldS_snoc, hlen, secs0, hget, secs0_snoc l e _ (Nat.le_refl _), ← ih]
    have htk : (l ++ [e]).take l.length = l := by simp
    simp only [item0, htk, lastE_snoc]
    unfold addT
    cases h : setsB e with
    | false =>
      rw [if_neg (by simp)]
      have hid : (foldS l).map (updE e) = foldS l := (List.map_congr_left (g := id) fun z _ => by simp [updE, matchE, h]).trans (List.map_id _)
      simp [hid]
    | true =>
      rw [if_pos rfl, addS_map h hpair, foldS_any]
      have hme : matchE e e = true := by simp [matchE, h]
      have hf : firstE e l = !(l.any (fun x => setsB x && decide (keyE x = keyE e))) := rfl
      rw [hf, hme]
      cases hany : l.any (fun x => setsB x && decide (keyE x = keyE e)) with
      | true => simp
      | false =>
        have hid : (foldS l).map (updE e) = foldS l := (List.map_congr_left (g := id) fun z hz => by
          have hq := foldS_any l (keyE e)
          rw [hany] at hq
          have hz' := List.any_eq_false.1 hq z hz
          have : ¬ keyE e = keyE z := fun hq => hz' (by simp [hq])
          simp [updE, matchE, this]).trans (List.map_id _)
        simp [hid]
theorem one_end (l : List Ev) : oneL l = endS (foldM l) (foldS l) := by
  unfold oneL endS foldM
  rw [foldS_secs, secs_filter, foldM_eq]
  simp
end Go.Proofs.Ytpbocficffbcbaa
namespace Go.Proofs.Ytpbocficffbcbaa
open Go Go.RowKit
set_option linter.unusedVariables false
set_option linter.unusedSimpArgs false

theorem secs1_len (l : List Ev) (n : Nat) : (secs1 l n).length ≤ n := by
  induction n with
  | zero => simp [secs1]
  | succ n ih =>
    simp only [secs1, List.length_append]
    cases l[n]? with
    | none => simp; omega
    | some e => simp only [item1]; split <;> simp <;> omega

theorem evA_one (x : Ev) : (evA x).all (·.oneCell') = true := by simp [Value.oneCell']
theorem firstE_step {l : List Ev} {k i : Nat} {x y : Ev} (h : l[k]? = some y) : firstE x (l.take (min (k + 1) i)) = if matchE y x then (firstE x (l.take (min k i)) && decide (i ≤ k)) else firstE x (l.take (min k i)) := by
  by_cases hki : i ≤ k
  · rw [show min (k + 1) i = i by omega, show min k i = i by omega]
    simp [hki]
  · rw [show min (k + 1) i = k + 1 by omega, show min k i = k by omega, ev_take h]
    simp only [firstE, List.any_append, List.any_cons, List.any_nil, Bool.or_false, hki, decide_false, Bool.and_false]
    cases matchE y x <;> simp
theorem lastE_step {l : List Ev} {k : Nat} {x y : Ev} (h : l[k]? = some y) : lastE x (l.take (k + 1)) = if matchE y x then y else lastE x (l.take k) := by
  rw [ev_take h, lastE_snoc]

set_option maxRecDepth 100000 in
set_option maxHeartbeats 3200000 in
theorem refOne (w : World) (a : Option Addr) (n cap : Nat) (l : List Ev) (h : SlAt w 6 a n cap (evs l)) (hn : n ≤ 1000) :
    Calls Try.prog 115 #[.slice a n cap] w (NewEvs w (oneL l)) := by
  have Hln := Lib.hid (ev_len h)
  have Hl := Lib.hid h
  have Hst := Lib.hid (GrE.nil w)
  clear h
  go_enter Try.func115, Try.ntmps115
  go_wp2_with fail
  go_loopw [3, 16] (fun m v wr => ∃ j : Nat, v = .int .i64 j ∧ j ≤ n ∧ ∃ ys a' c', ys = (l.take j).filter (fun e => !setsB e) ∧ ys.length ≤ j ∧ GrE w.heap.size w wr m ys.length ys a' c') (fun _ v _ => n - (intOf v).toNat)
  case atStart => exact ⟨0, rfl, by omega, [], _, _, by simp, by simp, Hst.out⟩
  case round =>
    obtain ⟨j, rfl, hj, ys, a', c', hys, hyl, hg⟩ := hrel
    have Hys := Lib.hid hys
    clear hys
    obtain ⟨yn, hyn⟩ : ∃ yn, yn = ys.length := ⟨_, rfl⟩
    rw [← hyn] at hyl hg
    have Hyn := Lib.hid hyn
    obtain rfl := hg.m
    have Hg := Lib.hid hg
    clear hyn hg
    by_cases hlt : j < n
    · obtain ⟨b1, o1, x, rfl, hx, hb1, ⟨xk, xa, xb, xc, xd, xe⟩⟩ := ev_at (Hl.out.all Hg.out.bel) hlt
      have Htk := Lib.hid (ev_take hx)
      clear hx
      obtain ⟨z0, z1, z2, z3, z4, z5⟩ := EvCells.of (alloc_new wr (.cells (evA x) 64))
      have Oe := Lib.hid (alloc_new wr (.cells (evA x) 64))
      have Hb2 := Lib.hid ((Below.refl _ wr).alloc (Nat.le_refl _) (.cells (evA x) 64))
      go_wp2_with fail
      clear z0 z1 z2 z3 z4 z5 xk xa xb xc xd xe
      generalize (wr.alloc (.cells (evA x) 64)) = w2 at *
      refine (refSets _ x).mono ?_
      rintro y w3 ⟨rfl, hb3⟩
      have Oe3 := Lib.hid (below_obj hb3 Oe.out (obj_lt Oe.out))
      have Hg3 := Lib.hid (Hg.out.step (Hb2.out.trans (hb3.mono Hb2.out.size)))
      clear hb3
      obtain ⟨mb, hmb⟩ : ∃ mb, mb = setsB x := ⟨_, rfl⟩
      rw [← hmb]
      have Hmb := Lib.hid hmb
      clear hmb
      obtain ⟨z0, z1, z2, z3, z4, z5⟩ := EvCells.of Oe3.out
      have Hlit := Lib.hid (RowAt.lit w3 (evA x) 64 6 1 (by decide) rfl (by simp [Value.oneCell'])).sl
      cases mb
      · go_wp2_with (at_builtin; refine wp_append rfl (.tmp 23) (.tmp 25) 40 rfl 64 (.agg #[.int .i64 0, .int .i64 0, .int .i64 0, .int .i64 0, .int .i64 0, .int .i64 0]) 6 48 Try.underlying40 Try.infoEv rfl (by decide) rfl rfl (Hg3.out.row.alloc _) Hlit.out (by unfold maxLen; omega) (by omega) ?_; intro a3 c3 W3 hrow3 hupd3 hloc3 hnil3; have g3 := Lib.hid (Hg3.out.snoc (x := x) hupd3 hloc3 hrow3))
        go_roundw
        case rel => exact ⟨j + 1, rfl, by omega, ys ++ [x], a3, c3, by rw [Htk.out, List.filter_append, Hys.out]; simp [← Hmb.out], by simp; rw [← Hyn.out]; omega, by simp; rw [← Hyn.out]; exact g3.out⟩
        case measure => first | (simp [intOf]; done) | (simp [intOf]; omega)
      · go_wp2_with fail
        go_roundw
        case rel => exact ⟨j + 1, rfl, by omega, ys, a', c', by rw [Htk.out, List.filter_append, Hys.out]; simp [← Hmb.out], by rw [← Hyn.out]; omega, by rw [← Hyn.out]; exact Hg3.out⟩
        case measure => first | (simp [intOf]; done) | (simp [intOf]; omega)
    · obtain rfl : j = n := by omega
      have hfil : ys = l.filter (fun e => !setsB e) := by rw [Hys.out, List.take_of_length_le (by have := Hln.out; omega)]
      have Hfil := Lib.hid hfil
      clear hfil hlt hj
      go_wp2_with fail
      go_loopw [3, 30] (fun m v wr => ∃ i : Nat, v = .int .i64 i ∧ i ≤ j ∧ ∃ zs a2 c2, zs = ys ++ secs1 l i ∧ zs.length ≤ yn + i ∧ GrE w.heap.size w wr m zs.length zs a2 c2) (fun _ v _ => j - (intOf v).toNat)
      case atStart => exact ⟨0, rfl, by omega, ys, _, _, by simp [secs1], by rw [← Hyn.out]; omega, by rw [← Hyn.out]; exact Hg.out⟩
      case round =>
        obtain ⟨i, rfl, hi, zs, a2, c2, hzs, hzl, hg⟩ := hrel
        have Hzs := Lib.hid hzs
        clear hzs
        obtain ⟨zn, hzn⟩ : ∃ zn, zn = zs.length := ⟨_, rfl⟩
        rw [← hzn] at hzl hg
        have Hzn := Lib.hid hzn
        obtain rfl := hg.m
        have Hgz := Lib.hid hg
        clear hzn hg
        by_cases hlt : i < j
        · obtain ⟨b1, o1, x, rfl, hx, hb1, ⟨xk, xa, xb, xc, xd, xe⟩⟩ := ev_at (Hl.out.all Hgz.out.bel) hlt
          have Hx := Lib.hid hx
          clear hx
          obtain ⟨z0, z1, z2, z3, z4, z5⟩ := EvCells.of (alloc_new wr (.cells (evA x) 64))
          have Oe := Lib.hid (alloc_new wr (.cells (evA x) 64))
          have Hb2 := Lib.hid ((Below.refl _ wr).alloc (Nat.le_refl _) (.cells (evA x) 64))
          go_wp2_with fail
          clear z0 z1 z2 z3 z4 z5 xk xa xb xc xd xe
          generalize (wr.alloc (.cells (evA x) 64)) = w2 at *
          refine (refSets _ x).mono ?_
          rintro y w3 ⟨rfl, hb3⟩
          have Oe3 := Lib.hid (below_obj hb3 Oe.out (obj_lt Oe.out))
          have Hg3 := Lib.hid (Hgz.out.step (Hb2.out.trans (hb3.mono Hb2.out.size)))
          have hw3 := Hg3.out.le
          have hw23 := obj_lt Oe3.out
          clear hb3
          obtain ⟨mb, hmb⟩ : ∃ mb, mb = setsB x := ⟨_, rfl⟩
          rw [← hmb]
          have Hmb := Lib.hid hmb
          clear hmb
          cases mb
          · go_wp2_with fail
            go_roundw
            case rel => exact ⟨i + 1, rfl, by omega, zs, a2, c2, by rw [Hzs.out, secs1, Hx.out]; simp [item1, ← Hmb.out], by rw [← Hzn.out]; omega, by rw [← Hzn.out]; exact Hg3.out⟩
            case measure => first | (simp [intOf]; done) | (simp [intOf]; omega)
          · obtain ⟨P7, hP7⟩ : ∃ P, P = wr.heap.size := ⟨_, rfl⟩
            rw [← hP7] at Oe3 hw23 ⊢
            clear hP7
            have hx : Below w3.heap.size w3 w3.drew := (Below.refl _ _).drew
            have HT := Lib.hid (fun (y : World) (hb : Below w3.heap.size w3 y) => EvCells.of (below_obj hb Oe3.out (obj_lt Oe3.out)))
            go_wp2_with fail
            refine wp_region_held_drew (S := fun y => y.cell? ⟨P7, 0, none⟩ = some (.int .i64 x.k) ∧ y.cell? ⟨P7, 1, none⟩ = some (.int .i64 x.a) ∧ y.cell? ⟨P7, 2, none⟩ = some (.int .i64 x.b) ∧ y.cell? ⟨P7, 3, none⟩ = some (.int .i64 x.c) ∧ y.cell? ⟨P7, 4, none⟩ = some (.int .i64 x.d) ∧ y.cell? ⟨P7, 5, none⟩ = some (.int .i64 x.e)) (by kernel_rfl) (HT.out _ hx) (fun hHeld => ?_)
            refine wpAnyH_take (i := 0) (oi := ⟨some 38, _, _, _, _, _⟩) (v := ?_) rfl (by kernel_rfl) (by kernel_rfl) (by kernel_rfl) (fun _ _ _ h => h) (Or.inl ⟨by rfl, ?_⟩) hHeld ?_
            rotate_left
            · intro w' hS'
              (try dsimp only at hS')
              go_simp
              try with_reducible rfl
            try simp only [Act.put, List.setIfInBounds_toArray, List.set_cons_zero, List.set_cons_succ]
            refine wpAnyH_all (rs := [1]) (by kernel_rfl) (by simp) ?_
            intro ix hix
            obtain rfl : ix = 1 := by simpa using hix
            clear hix
            refine wpOp_step (o := ⟨some 9, _, _, _, _, _⟩) rfl (fun K hK => ?_)
            have HK := Lib.hid hK
            clear hK
            go_simp
            replace hx : Below w3.heap.size w3 (w3.alloc (.cells #[.int .i64 0, .int .i64 0, .int .i64 0, .int .i64 0, .int .i64 0, .int .i64 0] 64)).drew := ((Below.refl _ w3).alloc (Nat.le_refl _) _).drew
            have Oz := Lib.hid (show (w3.alloc (.cells #[.int .i64 0, .int .i64 0, .int .i64 0, .int .i64 0, .int .i64 0, .int .i64 0] 64)).drew.heap[w3.heap.size]? = _ from alloc_new w3 (.cells #[.int .i64 0, .int .i64 0, .int .i64 0, .int .i64 0, .int .i64 0, .int .i64 0] 64))
            go_wp2_with fail
            refine HK.out _ _ ⟨(HT.out _ hx), ?_⟩
            clear HK
            try clear hHeld
            have hHeld := (HT.out _ hx)
            try simp only [Act.put, List.setIfInBounds_toArray, List.set_cons_zero, List.set_cons_succ]
            refine wpAnyH_take (i := 2) (oi := ⟨some 8, _, _, _, _, _⟩) (v := ?_) rfl (by kernel_rfl) (by kernel_rfl) (by kernel_rfl) (fun _ _ _ h => h) (Or.inl ⟨by rfl, ?_⟩) hHeld ?_
            rotate_left
            · intro w' hS'
              (try dsimp only at hS')
              go_simp
              try with_reducible rfl
            try simp only [Act.put, List.setIfInBounds_toArray, List.set_cons_zero, List.set_cons_succ]
            refine wpAnyH_all (rs := [3]) (by kernel_rfl) (by simp) ?_
            intro ix hix
            obtain rfl : ix = 3 := by simpa using hix
            clear hix
            refine wpOp_step (o := ⟨none, _, _, _, _, _⟩) rfl (fun K hK => ?_)
            have HK := Lib.hid hK
            clear hK
            rw [if_pos (by rfl)]
            refine wp_store_whole 64 (.tmp 9) (.tmp 38) rfl w3.heap.size rfl 64 #[.int .i64 0, .int .i64 0, .int .i64 0, .int .i64 0, .int .i64 0, .int .i64 0] (evA x) rfl Oz.out (sizeEv x) rfl (evA_one x) ?_
            intro w4 hobj hupd
            have hb4 := hx.trans (hupd.below (B := w3.heap.size) (by have := hx.size; omega) (fun k hk hq => by change _ = _ at hq; omega))
            refine HK.out _ _ ⟨(HT.out _ hb4), ?_⟩
            clear HK
            try clear hHeld
            have hHeld := (HT.out _ hb4)
            try simp only [Act.put, List.setIfInBounds_toArray, List.set_cons_zero, List.set_cons_succ]
            refine wpAnyH_done (by kernel_rfl) ?_ _
            clear hHeld HT
            obtain ⟨P9, hP9⟩ : ∃ P, P = w3.heap.size := ⟨_, rfl⟩
            have Oe4 := Lib.hid (below_obj hb4 Oe3.out (obj_lt Oe3.out))
            have O94 := Lib.hid hobj
            have Hg4 := Lib.hid (Hg3.out.step hb4)
            have hnr := Hg3.out.row.lt
            rw [← hP9] at O94 hw23 hw3 hnr ⊢
            have Hnr := Lib.hid hnr
            clear hnr
            clear hP9 hb4 hobj hupd hx
            go_wp2_with fail
            go_loopw [8, 41] (fun f v wz => ∃ k : Nat, v = .int .i64 k ∧ k ≤ j ∧ f = .bool (firstE x (l.take (min k i))) ∧ wz.heap[P9]? = some (.cells (evA (lastE x (l.take k))) 64 (0, 0)) ∧ wz.heap[P7]? = some (.cells (evA x) 64 (0, 0)) ∧ GrE w.heap.size w wz (.slice a2 zn c2) zn zs a2 c2 ∧ P9 < wz.heap.size) (fun _ v _ => j - (intOf v).toNat)
            case atStart => exact ⟨0, rfl, by omega, by simp [firstE], by simpa [lastE] using O94.out, Oe4.out, Hg4.out, obj_lt O94.out⟩
            case round =>
              obtain ⟨k, rfl, hk, rfl, h9, h7, hg, hlt9⟩ := hrel
              obtain ⟨fb, hfb⟩ : ∃ fb, fb = firstE x (l.take (min k i)) := ⟨_, rfl⟩
              rw [← hfb]
              have Hfb := Lib.hid hfb
              obtain ⟨la, hla⟩ : ∃ la, la = lastE x (l.take k) := ⟨_, rfl⟩
              rw [← hla] at h9
              have Hla := Lib.hid hla
              have H9 := Lib.hid h9
              have H7 := Lib.hid h7
              have Hgk := Lib.hid hg
              clear hfb hla h9 h7 hg
              by_cases hlt2 : k < j
              · obtain ⟨b2, o2, y, hab, hy, hb2, ⟨yk, ya, yb, yc, yd, ye⟩⟩ := ev_at (Hl.out.all Hgk.out.bel) hlt2
                simp only [Option.some.injEq, Addr.mk.injEq, and_true] at hab
                obtain ⟨rfl, rfl⟩ := hab
                have Hy := Lib.hid hy
                clear hy
                obtain ⟨z0, z1, z2, z3, z4, z5⟩ := EvCells.of (alloc_new wr (.cells (evA y) 64))
                have Oy := Lib.hid (alloc_new wr (.cells (evA y) 64))
                have Hb5 := Lib.hid ((Below.refl _ wr).alloc (Nat.le_refl _) (.cells (evA y) 64))
                go_wp2_with fail
                clear z0 z1 z2 z3 z4 z5 yk ya yb yc yd ye
                generalize (wr.alloc (.cells (evA y) 64)) = w5 at *
                refine (refSets _ y).mono ?_
                rintro _ w6 ⟨rfl, hb6⟩
                have Hb6 := Lib.hid (Hb5.out.trans (hb6.mono Hb5.out.size))
                have Oy6 := Lib.hid (below_obj hb6 Oy.out (obj_lt Oy.out))
                have H96 := Lib.hid (below_obj Hb6.out H9.out (obj_lt H9.out))
                have H76 := Lib.hid (below_obj Hb6.out H7.out (obj_lt H7.out))
                have Hg6 := Lib.hid (Hgk.out.step Hb6.out)
                have hw6 := Hb6.out.size
                clear hb6
                obtain ⟨sb, hsb⟩ : ∃ sb, sb = setsB y := ⟨_, rfl⟩
                rw [← hsb]
                have Hsb := Lib.hid hsb
                clear hsb
                obtain ⟨z0, z1, z2, z3, z4, z5⟩ := EvCells.of Oy6.out
                obtain ⟨x0, x1, x2, x3, x4, x5⟩ := EvCells.of H76.out
                have Hno : Hid (matchE y x = false → firstE x (l.take (min (k + 1) i)) = fb ∧ lastE x (l.take (k + 1)) = la) := Lib.hid (fun hm => by rw [firstE_step Hy.out, lastE_step Hy.out, hm, Hfb.out, Hla.out]; exact ⟨rfl, rfl⟩)
                have Hyes : Hid (matchE y x = true → firstE x (l.take (min (k + 1) i)) = (fb && decide (i ≤ k)) ∧ lastE x (l.take (k + 1)) = y) := Lib.hid (fun hm => by rw [firstE_step Hy.out, lastE_step Hy.out, hm, Hfb.out]; exact ⟨rfl, rfl⟩)
                cases sb
                · have hno := Lib.hid (Hno.out (by simp [matchE, ← Hsb.out]))
                  go_wp2_with fail
                  go_roundw
                  case rel => exact ⟨k + 1, rfl, by omega, by rw [hno.out.1], by rw [hno.out.2]; exact H96.out, H76.out, Hg6.out, by omega⟩
                  case measure => first | (simp [intOf]; done) | (simp [intOf]; omega)
                by_cases ek : y.k = x.k
                rotate_left
                · have hno := Lib.hid (Hno.out (by simp [matchE, keyE, ek]))
                  have hbb : (y.k == x.k) = false := by simp [ek]
                  clear ek
                  go_wp2_with fail
                  go_roundw
                  case rel => exact ⟨k + 1, rfl, by omega, by rw [hno.out.1], by rw [hno.out.2]; exact H96.out, H76.out, Hg6.out, by omega⟩
                  case measure => first | (simp [intOf]; done) | (simp [intOf]; omega)
                by_cases ea : y.a = x.a
                rotate_left
                · have hno := Lib.hid (Hno.out (by simp [matchE, keyE, ea]))
                  have hbb : (y.a == x.a) = false := by simp [ea]
                  have hbk : (y.k == x.k) = true := by simp [ek]
                  clear ea ek
                  go_wp2_with fail
                  go_roundw
                  case rel => exact ⟨k + 1, rfl, by omega, by rw [hno.out.1], by rw [hno.out.2]; exact H96.out, H76.out, Hg6.out, by omega⟩
                  case measure => first | (simp [intOf]; done) | (simp [intOf]; omega)
                by_cases eb : y.b = x.b
                rotate_left
                · have hno := Lib.hid (Hno.out (by simp [matchE, keyE, eb]))
                  have hbb : (y.b == x.b) = false := by simp [eb]
                  have hbk : (y.k == x.k) = true := by simp [ek]
                  have hba : (y.a == x.a) = true := by simp [ea]
                  clear ea ek eb
                  go_wp2_with fail
                  go_roundw
                  case rel => exact ⟨k + 1, rfl, by omega, by rw [hno.out.1], by rw [hno.out.2]; exact H96.out, H76.out, Hg6.out, by omega⟩
                  case measure => first | (simp [intOf]; done) | (simp [intOf]; omega)
                have hyes := Lib.hid (Hyes.out (by simp [matchE, keyE, ← Hsb.out, ek, ea, eb]))
                have hbb : (y.b == x.b) = true := by simp [eb]
                have hbk : (y.k == x.k) = true := by simp [ek]
                have hba : (y.a == x.a) = true := by simp [ea]
                clear ea ek eb
                by_cases hik : i ≤ k
                · have hik2 : (i : Int) ≤ (k : Int) := by omega
                  have Hik := Lib.hid (show decide (i ≤ k) = true by simp [hik])
                  clear hik
                  cases fb
                  · go_wp2_with (refine wpList_store_whole rfl 64 (.tmp 9) (.tmp 75) rfl P9 rfl 64 (evA la) (evA y) rfl H96.out (sizeEv y) rfl (evA_one y) ?_; intro w7 hobj hupd; have Hobj := Lib.hid hobj; have Hupd := Lib.hid hupd; clear hobj hupd)
                    go_roundw
                    case rel => exact ⟨k + 1, rfl, by omega, by rw [hyes.out.1, Hik.out]; rfl, by rw [hyes.out.2]; exact Hobj.out, Hupd.out.obj H76.out (by intro hq; change _ = _ at hq; omega), Hg6.out.other Hupd.out (fun q hq hq2 => by obtain ⟨ad, he, hq3⟩ := hq; have := Hnr.out ad he; change _ = _ at hq2; omega) (fun q hq => by change _ = _ at hq; omega), by have := Hupd.out.size; omega⟩
                    case measure => first | (simp [intOf]; done) | (simp [intOf]; omega)
                  · go_wp2_with (refine wpList_store_whole rfl 64 (.tmp 9) (.tmp 75) rfl P9 rfl 64 (evA la) (evA y) rfl H96.out (sizeEv y) rfl (evA_one y) ?_; intro w7 hobj hupd; have Hobj := Lib.hid hobj; have Hupd := Lib.hid hupd; clear hobj hupd)
                    go_roundw
                    case rel => exact ⟨k + 1, rfl, by omega, by rw [hyes.out.1, Hik.out]; rfl, by rw [hyes.out.2]; exact Hobj.out, Hupd.out.obj H76.out (by intro hq; change _ = _ at hq; omega), Hg6.out.other Hupd.out (fun q hq hq2 => by obtain ⟨ad, he, hq3⟩ := hq; have := Hnr.out ad he; change _ = _ at hq2; omega) (fun q hq => by change _ = _ at hq; omega), by have := Hupd.out.size; omega⟩
                    case measure => first | (simp [intOf]; done) | (simp [intOf]; omega)
                · have hik2 : ¬ (i : Int) ≤ (k : Int) := by omega
                  have Hik := Lib.hid (show decide (i ≤ k) = false by simp [hik])
                  clear hik
                  cases fb
                  · go_wp2_with (refine wpList_store_whole rfl 64 (.tmp 9) (.tmp 75) rfl P9 rfl 64 (evA la) (evA y) rfl H96.out (sizeEv y) rfl (evA_one y) ?_; intro w7 hobj hupd; have Hobj := Lib.hid hobj; have Hupd := Lib.hid hupd; clear hobj hupd)
                    go_roundw
                    case rel => exact ⟨k + 1, rfl, by omega, by rw [hyes.out.1, Hik.out]; rfl, by rw [hyes.out.2]; exact Hobj.out, Hupd.out.obj H76.out (by intro hq; change _ = _ at hq; omega), Hg6.out.other Hupd.out (fun q hq hq2 => by obtain ⟨ad, he, hq3⟩ := hq; have := Hnr.out ad he; change _ = _ at hq2; omega) (fun q hq => by change _ = _ at hq; omega), by have := Hupd.out.size; omega⟩
                    case measure => first | (simp [intOf]; done) | (simp [intOf]; omega)
                  · go_wp2_with (refine wpList_store_whole rfl 64 (.tmp 9) (.tmp 75) rfl P9 rfl 64 (evA la) (evA y) rfl H96.out (sizeEv y) rfl (evA_one y) ?_; intro w7 hobj hupd; have Hobj := Lib.hid hobj; have Hupd := Lib.hid hupd; clear hobj hupd)
                    go_roundw
                    case rel => exact ⟨k + 1, rfl, by omega, by rw [hyes.out.1, Hik.out]; rfl, by rw [hyes.out.2]; exact Hobj.out, Hupd.out.obj H76.out (by intro hq; change _ = _ at hq; omega), Hg6.out.other Hupd.out (fun q hq hq2 => by obtain ⟨ad, he, hq3⟩ := hq; have := Hnr.out ad he; change _ = _ at hq2; omega) (fun q hq => by change _ = _ at hq; omega), by have := Hupd.out.size; omega⟩
                    case measure => first | (simp [intOf]; done) | (simp [intOf]; omega)
              · obtain rfl : k = j := by omega
                have Hfi := Lib.hid (show fb = firstE x (l.take i) by rw [Hfb.out, show min k i = i by omega])
                have Hll := Lib.hid (show la = lastE x l by rw [Hla.out, List.take_of_length_le (by have := Hln.out; omega)])
                have Hs1 := Lib.hid (show zs ++ item1 l i x = ys ++ secs1 l (i + 1) by rw [Hzs.out, secs1, Hx.out, List.append_assoc])
                obtain ⟨x0, x1, x2, x3, x4, x5⟩ := EvCells.of H7.out
                obtain ⟨y0, y1, y2, y3, y4, y5⟩ := EvCells.of H9.out
                cases fb
                · have Hit := Lib.hid (show item1 l i x = [] by simp [item1, ← Hfi.out])
                  go_wp2_with fail
                  go_roundw
                  case rel => exact ⟨i + 1, rfl, by omega, zs, a2, c2, by rw [← Hs1.out, Hit.out, List.append_nil], by rw [← Hzn.out]; omega, by rw [← Hzn.out]; exact Hgk.out⟩
                  case measure => first | (simp [intOf]; done) | (simp [intOf]; omega)
                by_cases hcd : x.c = la.d
                · have Hit := Lib.hid (show item1 l i x = [] by simp [item1, ← Hll.out, hcd])
                  have hbb : (x.c != la.d) = false := by simp [hcd]
                  clear hcd
                  go_wp2_with fail
                  go_roundw
                  case rel => exact ⟨i + 1, rfl, by omega, zs, a2, c2, by rw [← Hs1.out, Hit.out, List.append_nil], by rw [← Hzn.out]; omega, by rw [← Hzn.out]; exact Hgk.out⟩
                  case measure => first | (simp [intOf]; done) | (simp [intOf]; omega)
                · have Hit := Lib.hid (show item1 l i x = [{ x with d := la.d }] by simp [item1, ← Hll.out, ← Hfi.out, ← Hmb.out, hcd])
                  have hbb : (x.c != la.d) = true := by simp [hcd]
                  clear hcd
                  have Hgn := Lib.hid (Hgk.out.step ((Below.refl _ wr).alloc (Nat.le_refl _) (.cells (evA { x with d := la.d }) 64)))
                  have hlit := (RowAt.lit (wr.alloc (.cells (evA { x with d := la.d }) 64)) (evA { x with d := la.d }) 64 6 1 (by decide) rfl (by simp [Value.oneCell'])).sl
                  rw [World.size_alloc] at hlit
                  have Hlit := Lib.hid hlit
                  clear hlit
                  go_wp2_with (at_builtin; refine wp_append rfl (.tmp 89) (.tmp 91) 40 rfl 64 (.agg #[.int .i64 0, .int .i64 0, .int .i64 0, .int .i64 0, .int .i64 0, .int .i64 0]) 6 48 Try.underlying40 Try.infoEv rfl (by decide) rfl rfl (Hgn.out.row.alloc _) Hlit.out (by unfold maxLen; omega) (by omega) ?_; intro a3 c3 W3 hrow3 hupd3 hloc3 hnil3; have g3 := Lib.hid (Hgn.out.snoc (x := { x with d := la.d }) hupd3 hloc3 hrow3))
                  go_roundw
                  case rel => exact ⟨i + 1, rfl, by omega, zs ++ [{ x with d := la.d }], a3, c3, by rw [← Hs1.out, Hit.out], by simp; rw [← Hzn.out]; omega, by simp; rw [← Hzn.out]; exact g3.out⟩
                  case measure => first | (simp [intOf]; done) | (simp [intOf]; omega)
        · obtain rfl : i = j := by omega
          have hfin : zs = oneL l := by rw [Hzs.out, Hfil.out, ← Hln.out]; rfl
          have Hgf := Lib.hid Hgz.out
          go_wp2_with fail
          go_ret
          have hl5 : (oneL l).length = zn := by rw [← hfin, ← Hzn.out]
          refine ⟨a2, c2, by rw [hl5]; rfl, ?_, Hgf.out.fr, Hgf.out.bel⟩
          rw [hl5, ← hfin]
          exact Hgf.out.row
end Go.Proofs.Ytpbocficffbcbaa
namespace Go.Proofs.Ytpbocficffbcbaa
open Go Go.RowKit
set_option linter.unusedVariables false

/-- The events from..i-1 are the span that is open; out stands ahead of it. -/
structure NetAtI (l : List Ev) (i from_ : Nat) (out : List Ev) : Prop where
  le : from_ ≤ i
  net : netF l = netG out (foldM ((l.take i).drop from_)) (foldS ((l.take i).drop from_)) (l.drop i)
  len : out.length ≤ from_
theorem NetAtI.zero (l : List Ev) : NetAtI l 0 0 [] := ⟨Nat.le_refl _, by simp [netF, foldM, foldS], Nat.le_refl _⟩
theorem foldM_snoc (l : List Ev) (e : Ev) : foldM (l ++ [e]) = addM (foldM l) e := by simp [foldM, List.foldl_append]
theorem drop_cons {l : List Ev} {i : Nat} {e : Ev} (h : l[i]? = some e) : l.drop i = e :: l.drop (i + 1) := by
  obtain ⟨hk, rfl⟩ := List.getElem?_eq_some_iff.1 h
  exact List.drop_eq_getElem_cons hk
theorem oneL_len (l : List Ev) : (oneL l).length ≤ l.length := by
  have h1 := netF_len l
  rw [one_end]
  have key : ∀ (l ms ss : List Ev), (l.foldl addM ms).length + (l.foldl addT ss).length ≤ ms.length + ss.length + l.length := by
    intro l
    induction l with
    | nil => intro ms ss; simp
    | cons e t ih =>
      intro ms ss
      have h1 := ih (addM ms e) (addT ss e)
      have h2 := addM_len' ms ss e
      simp only [List.foldl_cons, List.length_cons]
      omega
  have h2 := key l [] []
  have h3 := List.length_filter_le leftE (foldS l)
  simp only [endS, List.length_append]
  simp only [foldM, foldS, List.length_nil] at *
  omega
theorem NetAtI.keep {l : List Ev} {i f : Nat} {out : List Ev} {e : Ev} (h : NetAtI l i f out) (he : l[i]? = some e) (hm : makesB e = false) : NetAtI l (i + 1) f out where
  le := Nat.le_succ_of_le h.le
  net := by
    have hl : i < l.length := (List.getElem?_eq_some_iff.1 he).1
    have hd : (l.take (i + 1)).drop f = (l.take i).drop f ++ [e] := by
      rw [ev_take he, List.drop_append_of_le_length (by have := h.le; simp; omega)]
    rw [h.net, drop_cons he, hd, foldM_snoc, foldS_snoc, netG, hm]
    rfl
  len := h.len
theorem NetAtI.cut {l : List Ev} {i f : Nat} {out : List Ev} {e : Ev} (h : NetAtI l i f out) (he : l[i]? = some e) (hm : makesB e = true) : NetAtI l (i + 1) (i + 1) (out ++ oneL ((l.take i).drop f) ++ [e]) where
  le := Nat.le_refl _
  net := by
    have hd : (l.take (i + 1)).drop (i + 1) = [] := List.drop_eq_nil_of_le (by simp; omega)
    rw [h.net, drop_cons he, hd, netG, if_pos hm, ← one_end]
    rfl
  len := by
    have h1 := oneL_len ((l.take i).drop f)
    have h2 := h.len
    have h3 := h.le
    simp at h1 ⊢
    omega
theorem NetAtI.fin {l : List Ev} {f : Nat} {out : List Ev} (h : NetAtI l l.length f out) : netF l = out ++ oneL (l.drop f) := by
  rw [h.net, List.drop_length, List.take_length, netG, ← one_end]
end Go.Proofs.Ytpbocficffbcbaa
namespace Go.Proofs.Ytpbocficffbcbaa
open Go Go.RowKit
set_option linter.unusedVariables false
set_option linter.unusedSimpArgs false

/-- A part of a row of events. -/
theorem SlAt.part {w : World} {b off n cap : Nat} {l : List Ev} (h : SlAt w 6 (some ⟨b, off, none⟩) n cap (evs l)) (f i : Nat) (hf : f ≤ i) (hi : i ≤ n) : SlAt w 6 (some ⟨b, off + f * 6, none⟩) (i - f) (cap - f) (evs ((l.take i).drop f)) := by
  have hl := ev_len h
  have h1 : SlAt w 6 (some ⟨b, off, none⟩) i cap (evs (l.take i)) :=
    ⟨by rw [cells_len evC 6 (fun _ => rfl), List.length_take]; omega, Nat.le_trans hi h.le, h.max, by simp, one_flat evC one_ev _, fun ad he h0 => by
      obtain ⟨p1, p2, p3⟩ := h.at_ ad he (by omega)
      refine ⟨p1, p2, fun j u hu => p3 j u ?_⟩
      have hq : evs l = evs (l.take i) ++ evs (l.drop i) := by rw [← List.flatMap_append, List.take_append_drop]
      rw [hq, List.getElem?_append_left (by have := (List.getElem?_eq_some_iff.1 hu).1; exact this)]
      exact hu⟩
  exact h1.dropF (f := evC) (fun _ => rfl) f hf (by decide)

set_option maxRecDepth 100000 in
set_option maxHeartbeats 3200000 in
theorem refNet (w : World) (a : Option Addr) (n cap : Nat) (l : List Ev) (h : SlAt w 6 a n cap (evs l)) (hn : n ≤ 1000) :
    Calls Try.prog 87 #[.slice a n cap] w (NewEvs w (netF l)) := by
  have Hln := Lib.hid (ev_len h)
  have hcap := h.le
  have hcmx := h.max
  unfold maxLen at hcmx
  have Hl := Lib.hid h
  have Hst := Lib.hid (GrE.nil w)
  clear h
  go_enter Try.func87, Try.ntmps87
  go_wp2_with fail
  go_loopw [3, 4, 10] (fun m p v wr => ∃ j : Nat, v = .int .i64 j ∧ j ≤ n ∧ ∃ f out a' c', p = .int .i64 (f : Nat) ∧ NetAtI l j f out ∧ GrE w.heap.size w wr m out.length out a' c') (fun _ _ v _ => n - (intOf v).toNat)
  case atStart => exact ⟨0, rfl, by omega, 0, [], _, _, rfl, NetAtI.zero l, Hst.out⟩
  case round =>
    obtain ⟨j, rfl, hj, f, out, a1, c1, rfl, hnet, hg⟩ := hrel
    have hfj := hnet.le
    have hol := hnet.len
    have Hnet := Lib.hid hnet
    obtain ⟨on, hon⟩ : ∃ on, on = out.length := ⟨_, rfl⟩
    rw [← hon] at hg hol
    have Hon := Lib.hid hon
    obtain rfl := hg.m
    have Hg := Lib.hid hg
    clear hnet hg hon
    by_cases hlt : j < n
    · obtain ⟨b1, o1, x, rfl, hx, hb1, ⟨xk, xa, xb, xc, xd, xe⟩⟩ := ev_at (Hl.out.all Hg.out.bel) hlt
      have Hx := Lib.hid hx
      clear hx
      obtain ⟨P6, hP6⟩ : ∃ P, P = wr.heap.size := ⟨_, rfl⟩
      obtain ⟨z0, z1, z2, z3, z4, z5⟩ := EvCells.of (alloc_new wr (.cells (evA x) 64))
      have Oe := Lib.hid (alloc_new wr (.cells (evA x) 64))
      have Hg3 := Lib.hid (Hg.out.step ((Below.refl _ wr).alloc (Nat.le_refl _) (.cells (evA x) 64)))
      have Hnw := Lib.hid (show ¬ blk a1 wr.heap.size from fun hq => by obtain ⟨ad, he, hq⟩ := hq; have := Hg.out.row.lt ad he; omega)
      cases hmb : makesB x
      · have h0 : (x.k == 0) = false := by simp [makesB] at hmb; simp; omega
        have h5 : (x.k == 5) = false := by simp [makesB] at hmb; simp; omega
        have Hmb := Lib.hid hmb
        clear hmb
        go_wp2_with fail
        go_roundw
        case rel => exact ⟨j + 1, rfl, by omega, f, out, a1, c1, rfl, Hnet.out.keep Hx.out Hmb.out, by rw [← Hon.out]; exact Hg3.out⟩
        case measure => first | (simp [intOf]; done) | (simp [intOf]; omega)
      · have Hmb := Lib.hid hmb
        have hk05 : x.k = 0 ∨ x.k = 5 := by simpa [makesB] using hmb
        clear hmb
        obtain ⟨es, hes⟩ : ∃ es, es = oneL ((l.take j).drop f) := ⟨_, rfl⟩
        obtain ⟨en, hen⟩ : ∃ en, en = es.length := ⟨_, rfl⟩
        have hel : en ≤ j - f := by have := oneL_len ((l.take j).drop f); rw [hen, hes]; simp at this ⊢; omega
        have Hes := Lib.hid hes
        have Hen := Lib.hid hen
        have hfi : (f : Int) ≤ (j : Int) := by omega
        have hjc : (j : Int) ≤ (cap : Int) := by omega
        have hf0 : (0 : Int) ≤ (f : Int) := by omega
        have hcf : ¬ cap = f := by omega
        clear hes hen
        obtain ⟨kz, hkz⟩ : ∃ kz, kz = (x.k == 0) := ⟨_, rfl⟩
        have hk5 : (x.k == 0) = false → (x.k == 5) = true := by intro h; simp at h ⊢; omega
        cases kz
        · have h0 := hkz.symm
          have h5 := hk5 h0
          clear hkz hk5 hk05
          go_wp2_with fail
          clear z0 z1 z2 z3 z4 z5 xk xa xb xc xd xe
          generalize (wr.alloc (.cells (evA x) 64)) = w3 at *
          rw [← hP6] at Oe Hnw ⊢
          clear hP6
          have Hnz := Lib.hid (show ∀ k, blk a1 k → k < w3.heap.size from fun k hq => by obtain ⟨ad, he, rfl⟩ := hq; exact Hg3.out.row.lt ad he)
          have hx : Upd (blk a1) w3 w3.drew := (Upd.refl _ _).drew
          have HG := Lib.hid (Hg3.out.step (Below.refl _ w3).drew)
          have HT := Lib.hid (fun (y : World) (hu : Upd (blk a1) w3 y) => EvCells.of (hu.obj Oe.out Hnw.out))
          have hgl := Hg3.out.le
          go_wp2_with fail
          refine wp_region_held_drew (S := fun y => y.cell? ⟨P6, 0, none⟩ = some (.int .i64 x.k) ∧ y.cell? ⟨P6, 1, none⟩ = some (.int .i64 x.a) ∧ y.cell? ⟨P6, 2, none⟩ = some (.int .i64 x.b) ∧ y.cell? ⟨P6, 3, none⟩ = some (.int .i64 x.c) ∧ y.cell? ⟨P6, 4, none⟩ = some (.int .i64 x.d) ∧ y.cell? ⟨P6, 5, none⟩ = some (.int .i64 x.e)) (by kernel_rfl) (HT.out _ hx) (fun hHeld => ?_)
          refine wpAnyH_take (i := 0) (oi := ⟨some 23, _, _, _, _, _⟩) (v := ?_) rfl (by kernel_rfl) (by kernel_rfl) (by kernel_rfl) (fun _ _ _ h => h) (Or.inl ⟨by rfl, ?_⟩) hHeld ?_
          rotate_left
          · intro w' hS'
            (try dsimp only at hS')
            go_simp
            try with_reducible rfl
          try simp only [Act.put, List.setIfInBounds_toArray, List.set_cons_zero, List.set_cons_succ]
          refine wpAnyH_take (i := 1) (oi := ⟨some 24, _, _, _, _, _⟩) (v := ?_) rfl (by kernel_rfl) (by kernel_rfl) (by kernel_rfl) (fun _ _ _ h => h) (Or.inl ⟨by rfl, ?_⟩) hHeld ?_
          rotate_left
          · intro w' hS'
            (try dsimp only at hS')
            go_simp
            try with_reducible rfl
          try simp only [Act.put, List.setIfInBounds_toArray, List.set_cons_zero, List.set_cons_succ]
          refine wpAnyH_take (i := 2) (oi := ⟨some 25, _, _, _, _, _⟩) (v := ?_) rfl (by kernel_rfl) (by kernel_rfl) (by kernel_rfl) (fun _ _ _ h => h) (Or.inl ⟨by rfl, ?_⟩) hHeld ?_
          rotate_left
          · intro w' hS'
            (try dsimp only at hS')
            go_simp
            try with_reducible rfl
          try simp only [Act.put, List.setIfInBounds_toArray, List.set_cons_zero, List.set_cons_succ]
          refine wpAnyH_take (i := 3) (oi := ⟨some 26, _, _, _, _, _⟩) (v := ?_) rfl (by kernel_rfl) (by kernel_rfl) (by kernel_rfl) (fun _ _ _ h => h) (Or.inl ⟨by rfl, ?_⟩) hHeld ?_
          rotate_left
          · intro w' hS'
            (try dsimp only at hS')
            go_simp
            try with_reducible rfl
          try simp only [Act.put, List.setIfInBounds_toArray, List.set_cons_zero, List.set_cons_succ]
          refine wpAnyH_take (i := 4) (oi := ⟨some 27, _, _, _, _, _⟩) (v := ?_) rfl (by kernel_rfl) (by kernel_rfl) (by kernel_rfl) (fun _ _ _ h => h) (Or.inl ⟨by rfl, ?_⟩) hHeld ?_
          rotate_left
          · intro w' hS'
            (try dsimp only at hS')
            go_simp
            try with_reducible rfl
          try simp only [Act.put, List.setIfInBounds_toArray, List.set_cons_zero, List.set_cons_succ]
          refine wpAnyH_take (i := 7) (oi := ⟨some 30, _, _, _, _, _⟩) (v := ?_) rfl (by kernel_rfl) (by kernel_rfl) (by kernel_rfl) (fun _ _ _ h => h) (Or.inl ⟨by rfl, ?_⟩) hHeld ?_
          rotate_left
          · intro w' hS'
            (try dsimp only at hS')
            go_simp
            try with_reducible rfl
          try simp only [Act.put, List.setIfInBounds_toArray, List.set_cons_zero, List.set_cons_succ]
          refine wpAnyH_all (rs := [5, 8]) (by kernel_rfl) (by simp) ?_
          intro ix hix
          have hix' : ix = 5 ∨ ix = 8 := by simpa using hix
          clear hix
          rcases hix' with rfl | rfl
          · skip
            refine wpOp_step (o := ⟨some 28, _, _, _, _, _⟩) rfl (fun K hK => ?_)
            have HK := Lib.hid hK
            clear hK
            go_simp
            refine (refOne _ _ _ _ ((l.take j).drop f) ((Hl.out.all HG.out.bel).part f j hfj (by omega)) (by omega)).mono ?_
            rw [← Hes.out]
            rintro y w4 ⟨ae, ce, rfl, hre, hfe, hb⟩
            rw [← Hen.out] at hre ⊢
            have Hre := Lib.hid hre.sl
            have HG := Lib.hid (HG.out.step hb)
            have hs4 := hb.size
            have hxs := hx.size
            replace hx := hx.trans (Upd.of_below (S := fun _ => False) hb) (fun _ _ f => f.elim)
            clear hre hfe hb
            go_wp2_with fail
            refine HK.out _ _ ⟨(HT.out _ hx), ?_⟩
            clear HK
            try clear hHeld
            have hHeld := (HT.out _ hx)
            try simp only [Act.put, List.setIfInBounds_toArray, List.set_cons_zero, List.set_cons_succ]
            refine wpAnyH_all (rs := [6, 8]) (by kernel_rfl) (by simp) ?_
            intro ix hix
            have hix' : ix = 6 ∨ ix = 8 := by simpa using hix
            clear hix
            rcases hix' with rfl | rfl
            · skip
              refine wpOp_step (o := ⟨some 29, _, _, _, _, _⟩) rfl (fun K hK => ?_)
              have HK := Lib.hid hK
              clear hK
              refine step_append_row rfl (.tmp 23) (.tmp 28) 40 rfl 64 (.agg #[.int .i64 0, .int .i64 0, .int .i64 0, .int .i64 0, .int .i64 0, .int .i64 0]) 6 48 Try.underlying40 Try.infoEv rfl (by decide) rfl rfl HG.out.row Hre.out (by unfold maxLen; omega) (by omega) ?_
              intro a2 c2 w5 hrow hupd hloc hnil
              have hs5 := hupd.size
              replace hx := hx.trans hupd (fun _ _ h => h)
              have Hloc := Lib.hid hloc
              have HG := Lib.hid (HG.out.app hupd hloc Hen.out.symm hrow)
              clear hrow hupd hloc hnil
              refine HK.out _ _ ⟨(HT.out _ hx), ?_⟩
              clear HK
              try clear hHeld
              have hHeld := (HT.out _ hx)
              try simp only [Act.put, List.setIfInBounds_toArray, List.set_cons_zero, List.set_cons_succ]
              refine wpAnyH_all (rs := [8]) (by kernel_rfl) (by simp) ?_
              intro ix hix
              obtain rfl : ix = 8 := by simpa using hix
              clear hix
              refine wpOp_step (o := ⟨some 31, _, _, _, _, _⟩) rfl (fun K hK => ?_)
              have HK := Lib.hid hK
              clear hK
              go_simp
              replace hx := hx.alloc (.cells (evA x) 64)
              have HG := Lib.hid (HG.out.step ((Below.refl _ w5).alloc (Nat.le_refl _) (.cells (evA x) 64)))
              have Hlit := Lib.hid ((RowAt.lit w5 (evA x) 64 6 1 (by decide) rfl (by simp [Value.oneCell'])).sl)
              go_wp2_with fail
              refine HK.out _ _ ⟨(HT.out _ hx), ?_⟩
              clear HK
              try clear hHeld
              have hHeld := (HT.out _ hx)
              try simp only [Act.put, List.setIfInBounds_toArray, List.set_cons_zero, List.set_cons_succ]
              refine wpAnyH_all (rs := [9]) (by kernel_rfl) (by simp) ?_
              intro ix hix
              obtain rfl : ix = 9 := by simpa using hix
              clear hix
              refine wpOp_step (o := ⟨some 32, _, _, _, _, _⟩) rfl (fun K hK => ?_)
              have HK := Lib.hid hK
              clear hK
              refine step_append_row rfl (.tmp 29) (.tmp 31) 40 rfl 64 (.agg #[.int .i64 0, .int .i64 0, .int .i64 0, .int .i64 0, .int .i64 0, .int .i64 0]) 6 48 Try.underlying40 Try.infoEv rfl (by decide) rfl rfl HG.out.row Hlit.out (by unfold maxLen; omega) (by omega) ?_
              intro a3 c3 w6 hrow hupd hloc hnil
              have HG := Lib.hid (HG.out.app (zs := [x]) hupd hloc rfl hrow)
              replace hx := hx.trans hupd (fun k hk hq => (blk_loc Hloc.out hq).elim id (fun h => by (try simp at h); omega))
              clear hrow hupd hloc hnil
              refine HK.out _ _ ⟨(HT.out _ hx), ?_⟩
              clear HK
              try clear hHeld
              have hHeld := (HT.out _ hx)
              try simp only [Act.put, List.setIfInBounds_toArray, List.set_cons_zero, List.set_cons_succ]
              refine wpAnyH_take (i := 10) (oi := ⟨some 3, _, _, _, _, _⟩) (v := ?_) rfl (by kernel_rfl) (by kernel_rfl) (by kernel_rfl) (fun _ _ _ h => h) (Or.inl ⟨by rfl, ?_⟩) hHeld ?_
              rotate_left
              · intro w' hS'
                (try dsimp only at hS')
                go_simp
                try with_reducible rfl
              try simp only [Act.put, List.setIfInBounds_toArray, List.set_cons_zero, List.set_cons_succ]
              refine wpAnyH_done (by kernel_rfl) ?_ _
              clear hHeld HT
              have HG7 := Lib.hid HG.out
              go_wp2_with fail
              go_roundw
              case rel => exact ⟨j + 1, rfl, by omega, j + 1, out ++ es ++ [x], a3, c3, rfl, by rw [Hes.out]; exact Hnet.out.cut Hx.out Hmb.out, HG7.out.to _ _ (show on + en + 1 = (out ++ es ++ [x]).length by rw [List.length_append, List.length_append, ← Hon.out, ← Hen.out]; rfl) rfl⟩
              case measure => first | (simp [intOf]; done) | (simp [intOf]; omega)
            · skip
              refine wpOp_step (o := ⟨some 31, _, _, _, _, _⟩) rfl (fun K hK => ?_)
              have HK := Lib.hid hK
              clear hK
              go_simp
              replace hx := hx.alloc (.cells (evA x) 64)
              have HG := Lib.hid (HG.out.step ((Below.refl _ w4).alloc (Nat.le_refl _) (.cells (evA x) 64)))
              have Hlit := Lib.hid ((RowAt.lit w4 (evA x) 64 6 1 (by decide) rfl (by simp [Value.oneCell'])).sl)
              have Hre := Lib.hid (Hre.out.alloc (.cells (evA x) 64))
              have hlp : ∀ ad, some (⟨w4.heap.size, 0, none⟩ : Addr) = some ad → 0 < 1 → ¬ blk a1 ad.block := fun ad he _ hq => by obtain rfl := Option.some.inj he; have := Hnz.out _ hq; simp at this; omega
              go_wp2_with fail
              refine HK.out _ _ ⟨(HT.out _ hx), ?_⟩
              clear HK
              try clear hHeld
              have hHeld := (HT.out _ hx)
              try simp only [Act.put, List.setIfInBounds_toArray, List.set_cons_zero, List.set_cons_succ]
              refine wpAnyH_all (rs := [6]) (by kernel_rfl) (by simp) ?_
              intro ix hix
              obtain rfl : ix = 6 := by simpa using hix
              clear hix
              refine wpOp_step (o := ⟨some 29, _, _, _, _, _⟩) rfl (fun K hK => ?_)
              have HK := Lib.hid hK
              clear hK
              refine step_append_row rfl (.tmp 23) (.tmp 28) 40 rfl 64 (.agg #[.int .i64 0, .int .i64 0, .int .i64 0, .int .i64 0, .int .i64 0, .int .i64 0]) 6 48 Try.underlying40 Try.infoEv rfl (by decide) rfl rfl HG.out.row Hre.out (by unfold maxLen; omega) (by omega) ?_
              intro a2 c2 w5 hrow hupd hloc hnil
              have Hlit := Lib.hid (Hlit.out.upd hupd hlp)
              have hs5 := hupd.size
              replace hx := hx.trans hupd (fun _ _ h => h)
              have Hloc := Lib.hid hloc
              have HG := Lib.hid (HG.out.app hupd hloc Hen.out.symm hrow)
              clear hrow hupd hloc hnil
              refine HK.out _ _ ⟨(HT.out _ hx), ?_⟩
              clear HK
              try clear hHeld
              have hHeld := (HT.out _ hx)
              try simp only [Act.put, List.setIfInBounds_toArray, List.set_cons_zero, List.set_cons_succ]
              refine wpAnyH_all (rs := [9]) (by kernel_rfl) (by simp) ?_
              intro ix hix
              obtain rfl : ix = 9 := by simpa using hix
              clear hix
              refine wpOp_step (o := ⟨some 32, _, _, _, _, _⟩) rfl (fun K hK => ?_)
              have HK := Lib.hid hK
              clear hK
              refine step_append_row rfl (.tmp 29) (.tmp 31) 40 rfl 64 (.agg #[.int .i64 0, .int .i64 0, .int .i64 0, .int .i64 0, .int .i64 0, .int .i64 0]) 6 48 Try.underlying40 Try.infoEv rfl (by decide) rfl rfl HG.out.row Hlit.out (by unfold maxLen; omega) (by omega) ?_
              intro a3 c3 w6 hrow hupd hloc hnil
              have HG := Lib.hid (HG.out.app (zs := [x]) hupd hloc rfl hrow)
              replace hx := hx.trans hupd (fun k hk hq => (blk_loc Hloc.out hq).elim id (fun h => by (try simp at h); omega))
              clear hrow hupd hloc hnil
              refine HK.out _ _ ⟨(HT.out _ hx), ?_⟩
              clear HK
              try clear hHeld
              have hHeld := (HT.out _ hx)
              try simp only [Act.put, List.setIfInBounds_toArray, List.set_cons_zero, List.set_cons_succ]
              refine wpAnyH_take (i := 10) (oi := ⟨some 3, _, _, _, _, _⟩) (v := ?_) rfl (by kernel_rfl) (by kernel_rfl) (by kernel_rfl) (fun _ _ _ h => h) (Or.inl ⟨by rfl, ?_⟩) hHeld ?_
              rotate_left
              · intro w' hS'
                (try dsimp only at hS')
                go_simp
                try with_reducible rfl
              try simp only [Act.put, List.setIfInBounds_toArray, List.set_cons_zero, List.set_cons_succ]
              refine wpAnyH_done (by kernel_rfl) ?_ _
              clear hHeld HT
              have HG7 := Lib.hid HG.out
              go_wp2_with fail
              go_roundw
              case rel => exact ⟨j + 1, rfl, by omega, j + 1, out ++ es ++ [x], a3, c3, rfl, by rw [Hes.out]; exact Hnet.out.cut Hx.out Hmb.out, HG7.out.to _ _ (show on + en + 1 = (out ++ es ++ [x]).length by rw [List.length_append, List.length_append, ← Hon.out, ← Hen.out]; rfl) rfl⟩
              case measure => first | (simp [intOf]; done) | (simp [intOf]; omega)
          · skip
            refine wpOp_step (o := ⟨some 31, _, _, _, _, _⟩) rfl (fun K hK => ?_)
            have HK := Lib.hid hK
            clear hK
            go_simp
            replace hx : Upd (blk a1) w3 (w3.alloc (.cells (evA x) 64)).drew := ((Upd.refl _ _).alloc _).drew
            have hbb := ((Below.refl _ w3).alloc (Nat.le_refl _) (.cells (evA x) 64)).drew
            have HG := Lib.hid (Hg3.out.step hbb)
            have Hlit := Lib.hid (((RowAt.lit w3 (evA x) 64 6 1 (by decide) rfl (by simp [Value.oneCell'])).sl).drew)
            have hlp : ∀ ad, some (⟨w3.heap.size, 0, none⟩ : Addr) = some ad → 0 < 1 → ¬ blk a1 ad.block := fun ad he _ hq => by obtain rfl := Option.some.inj he; have := Hnz.out _ hq; (try simp at this); (try omega)
            clear hbb
            go_wp2_with fail
            refine HK.out _ _ ⟨(HT.out _ hx), ?_⟩
            clear HK
            try clear hHeld
            have hHeld := (HT.out _ hx)
            try simp only [Act.put, List.setIfInBounds_toArray, List.set_cons_zero, List.set_cons_succ]
            refine wpAnyH_all (rs := [5]) (by kernel_rfl) (by simp) ?_
            intro ix hix
            obtain rfl : ix = 5 := by simpa using hix
            clear hix
            refine wpOp_step (o := ⟨some 28, _, _, _, _, _⟩) rfl (fun K hK => ?_)
            have HK := Lib.hid hK
            clear hK
            go_simp
            refine (refOne _ _ _ _ ((l.take j).drop f) ((Hl.out.all HG.out.bel).part f j hfj (by omega)) (by omega)).mono ?_
            rw [← Hes.out]
            rintro y w4 ⟨ae, ce, rfl, hre, hfe, hb⟩
            rw [← Hen.out] at hre ⊢
            have Hre := Lib.hid hre.sl
            have HG := Lib.hid (HG.out.step hb)
            have hs4 := hb.size
            have Hlit := Lib.hid (Hlit.out.all hb)
            have hxs := hx.size
            replace hx := hx.trans (Upd.of_below (S := fun _ => False) hb) (fun _ _ f => f.elim)
            clear hre hfe hb
            go_wp2_with fail
            refine HK.out _ _ ⟨(HT.out _ hx), ?_⟩
            clear HK
            try clear hHeld
            have hHeld := (HT.out _ hx)
            try simp only [Act.put, List.setIfInBounds_toArray, List.set_cons_zero, List.set_cons_succ]
            refine wpAnyH_all (rs := [6]) (by kernel_rfl) (by simp) ?_
            intro ix hix
            obtain rfl : ix = 6 := by simpa using hix
            clear hix
            refine wpOp_step (o := ⟨some 29, _, _, _, _, _⟩) rfl (fun K hK => ?_)
            have HK := Lib.hid hK
            clear hK
            refine step_append_row rfl (.tmp 23) (.tmp 28) 40 rfl 64 (.agg #[.int .i64 0, .int .i64 0, .int .i64 0, .int .i64 0, .int .i64 0, .int .i64 0]) 6 48 Try.underlying40 Try.infoEv rfl (by decide) rfl rfl HG.out.row Hre.out (by unfold maxLen; omega) (by omega) ?_
            intro a2 c2 w5 hrow hupd hloc hnil
            have Hlit := Lib.hid (Hlit.out.upd hupd hlp)
            have hs5 := hupd.size
            replace hx := hx.trans hupd (fun _ _ h => h)
            have Hloc := Lib.hid hloc
            have HG := Lib.hid (HG.out.app hupd hloc Hen.out.symm hrow)
            clear hrow hupd hloc hnil
            refine HK.out _ _ ⟨(HT.out _ hx), ?_⟩
            clear HK
            try clear hHeld
            have hHeld := (HT.out _ hx)
            try simp only [Act.put, List.setIfInBounds_toArray, List.set_cons_zero, List.set_cons_succ]
            refine wpAnyH_all (rs := [9]) (by kernel_rfl) (by simp) ?_
            intro ix hix
            obtain rfl : ix = 9 := by simpa using hix
            clear hix
            refine wpOp_step (o := ⟨some 32, _, _, _, _, _⟩) rfl (fun K hK => ?_)
            have HK := Lib.hid hK
            clear hK
            refine step_append_row rfl (.tmp 29) (.tmp 31) 40 rfl 64 (.agg #[.int .i64 0, .int .i64 0, .int .i64 0, .int .i64 0, .int .i64 0, .int .i64 0]) 6 48 Try.underlying40 Try.infoEv rfl (by decide) rfl rfl HG.out.row Hlit.out (by unfold maxLen; omega) (by omega) ?_
            intro a3 c3 w6 hrow hupd hloc hnil
            have HG := Lib.hid (HG.out.app (zs := [x]) hupd hloc rfl hrow)
            replace hx := hx.trans hupd (fun k hk hq => (blk_loc Hloc.out hq).elim id (fun h => by (try simp at h); omega))
            clear hrow hupd hloc hnil
            refine HK.out _ _ ⟨(HT.out _ hx), ?_⟩
            clear HK
            try clear hHeld
            have hHeld := (HT.out _ hx)
            try simp only [Act.put, List.setIfInBounds_toArray, List.set_cons_zero, List.set_cons_succ]
            refine wpAnyH_take (i := 10) (oi := ⟨some 3, _, _, _, _, _⟩) (v := ?_) rfl (by kernel_rfl) (by kernel_rfl) (by kernel_rfl) (fun _ _ _ h => h) (Or.inl ⟨by rfl, ?_⟩) hHeld ?_
            rotate_left
            · intro w' hS'
              (try dsimp only at hS')
              go_simp
              try with_reducible rfl
            try simp only [Act.put, List.setIfInBounds_toArray, List.set_cons_zero, List.set_cons_succ]
            refine wpAnyH_done (by kernel_rfl) ?_ _
            clear hHeld HT
            have HG7 := Lib.hid HG.out
            go_wp2_with fail
            go_roundw
            case rel => exact ⟨j + 1, rfl, by omega, j + 1, out ++ es ++ [x], a3, c3, rfl, by rw [Hes.out]; exact Hnet.out.cut Hx.out Hmb.out, HG7.out.to _ _ (show on + en + 1 = (out ++ es ++ [x]).length by rw [List.length_append, List.length_append, ← Hon.out, ← Hen.out]; rfl) rfl⟩
            case measure => first | (simp [intOf]; done) | (simp [intOf]; omega)
        · have h0 := hkz.symm
          clear hkz hk5 hk05
          go_wp2_with fail
          clear z0 z1 z2 z3 z4 z5 xk xa xb xc xd xe
          generalize (wr.alloc (.cells (evA x) 64)) = w3 at *
          rw [← hP6] at Oe Hnw ⊢
          clear hP6
          have Hnz := Lib.hid (show ∀ k, blk a1 k → k < w3.heap.size from fun k hq => by obtain ⟨ad, he, rfl⟩ := hq; exact Hg3.out.row.lt ad he)
          have hx : Upd (blk a1) w3 w3.drew := (Upd.refl _ _).drew
          have HG := Lib.hid (Hg3.out.step (Below.refl _ w3).drew)
          have HT := Lib.hid (fun (y : World) (hu : Upd (blk a1) w3 y) => EvCells.of (hu.obj Oe.out Hnw.out))
          have hgl := Hg3.out.le
          go_wp2_with fail
          refine wp_region_held_drew (S := fun y => y.cell? ⟨P6, 0, none⟩ = some (.int .i64 x.k) ∧ y.cell? ⟨P6, 1, none⟩ = some (.int .i64 x.a) ∧ y.cell? ⟨P6, 2, none⟩ = some (.int .i64 x.b) ∧ y.cell? ⟨P6, 3, none⟩ = some (.int .i64 x.c) ∧ y.cell? ⟨P6, 4, none⟩ = some (.int .i64 x.d) ∧ y.cell? ⟨P6, 5, none⟩ = some (.int .i64 x.e)) (by kernel_rfl) (HT.out _ hx) (fun hHeld => ?_)
          refine wpAnyH_take (i := 0) (oi := ⟨some 23, _, _, _, _, _⟩) (v := ?_) rfl (by kernel_rfl) (by kernel_rfl) (by kernel_rfl) (fun _ _ _ h => h) (Or.inl ⟨by rfl, ?_⟩) hHeld ?_
          rotate_left
          · intro w' hS'
            (try dsimp only at hS')
            go_simp
            try with_reducible rfl
          try simp only [Act.put, List.setIfInBounds_toArray, List.set_cons_zero, List.set_cons_succ]
          refine wpAnyH_take (i := 1) (oi := ⟨some 24, _, _, _, _, _⟩) (v := ?_) rfl (by kernel_rfl) (by kernel_rfl) (by kernel_rfl) (fun _ _ _ h => h) (Or.inl ⟨by rfl, ?_⟩) hHeld ?_
          rotate_left
          · intro w' hS'
            (try dsimp only at hS')
            go_simp
            try with_reducible rfl
          try simp only [Act.put, List.setIfInBounds_toArray, List.set_cons_zero, List.set_cons_succ]
          refine wpAnyH_take (i := 2) (oi := ⟨some 25, _, _, _, _, _⟩) (v := ?_) rfl (by kernel_rfl) (by kernel_rfl) (by kernel_rfl) (fun _ _ _ h => h) (Or.inl ⟨by rfl, ?_⟩) hHeld ?_
          rotate_left
          · intro w' hS'
            (try dsimp only at hS')
            go_simp
            try with_reducible rfl
          try simp only [Act.put, List.setIfInBounds_toArray, List.set_cons_zero, List.set_cons_succ]
          refine wpAnyH_take (i := 3) (oi := ⟨some 26, _, _, _, _, _⟩) (v := ?_) rfl (by kernel_rfl) (by kernel_rfl) (by kernel_rfl) (fun _ _ _ h => h) (Or.inl ⟨by rfl, ?_⟩) hHeld ?_
          rotate_left
          · intro w' hS'
            (try dsimp only at hS')
            go_simp
            try with_reducible rfl
          try simp only [Act.put, List.setIfInBounds_toArray, List.set_cons_zero, List.set_cons_succ]
          refine wpAnyH_take (i := 4) (oi := ⟨some 27, _, _, _, _, _⟩) (v := ?_) rfl (by kernel_rfl) (by kernel_rfl) (by kernel_rfl) (fun _ _ _ h => h) (Or.inl ⟨by rfl, ?_⟩) hHeld ?_
          rotate_left
          · intro w' hS'
            (try dsimp only at hS')
            go_simp
            try with_reducible rfl
          try simp only [Act.put, List.setIfInBounds_toArray, List.set_cons_zero, List.set_cons_succ]
          refine wpAnyH_take (i := 7) (oi := ⟨some 30, _, _, _, _, _⟩) (v := ?_) rfl (by kernel_rfl) (by kernel_rfl) (by kernel_rfl) (fun _ _ _ h => h) (Or.inl ⟨by rfl, ?_⟩) hHeld ?_
          rotate_left
          · intro w' hS'
            (try dsimp only at hS')
            go_simp
            try with_reducible rfl
          try simp only [Act.put, List.setIfInBounds_toArray, List.set_cons_zero, List.set_cons_succ]
          refine wpAnyH_all (rs := [5, 8]) (by kernel_rfl) (by simp) ?_
          intro ix hix
          have hix' : ix = 5 ∨ ix = 8 := by simpa using hix
          clear hix
          rcases hix' with rfl | rfl
          · skip
            refine wpOp_step (o := ⟨some 28, _, _, _, _, _⟩) rfl (fun K hK => ?_)
            have HK := Lib.hid hK
            clear hK
            go_simp
            refine (refOne _ _ _ _ ((l.take j).drop f) ((Hl.out.all HG.out.bel).part f j hfj (by omega)) (by omega)).mono ?_
            rw [← Hes.out]
            rintro y w4 ⟨ae, ce, rfl, hre, hfe, hb⟩
            rw [← Hen.out] at hre ⊢
            have Hre := Lib.hid hre.sl
            have HG := Lib.hid (HG.out.step hb)
            have hs4 := hb.size
            have hxs := hx.size
            replace hx := hx.trans (Upd.of_below (S := fun _ => False) hb) (fun _ _ f => f.elim)
            clear hre hfe hb
            go_wp2_with fail
            refine HK.out _ _ ⟨(HT.out _ hx), ?_⟩
            clear HK
            try clear hHeld
            have hHeld := (HT.out _ hx)
            try simp only [Act.put, List.setIfInBounds_toArray, List.set_cons_zero, List.set_cons_succ]
            refine wpAnyH_all (rs := [6, 8]) (by kernel_rfl) (by simp) ?_
            intro ix hix
            have hix' : ix = 6 ∨ ix = 8 := by simpa using hix
            clear hix
            rcases hix' with rfl | rfl
            · skip
              refine wpOp_step (o := ⟨some 29, _, _, _, _, _⟩) rfl (fun K hK => ?_)
              have HK := Lib.hid hK
              clear hK
              refine step_append_row rfl (.tmp 23) (.tmp 28) 40 rfl 64 (.agg #[.int .i64 0, .int .i64 0, .int .i64 0, .int .i64 0, .int .i64 0, .int .i64 0]) 6 48 Try.underlying40 Try.infoEv rfl (by decide) rfl rfl HG.out.row Hre.out (by unfold maxLen; omega) (by omega) ?_
              intro a2 c2 w5 hrow hupd hloc hnil
              have hs5 := hupd.size
              replace hx := hx.trans hupd (fun _ _ h => h)
              have Hloc := Lib.hid hloc
              have HG := Lib.hid (HG.out.app hupd hloc Hen.out.symm hrow)
              clear hrow hupd hloc hnil
              refine HK.out _ _ ⟨(HT.out _ hx), ?_⟩
              clear HK
              try clear hHeld
              have hHeld := (HT.out _ hx)
              try simp only [Act.put, List.setIfInBounds_toArray, List.set_cons_zero, List.set_cons_succ]
              refine wpAnyH_all (rs := [8]) (by kernel_rfl) (by simp) ?_
              intro ix hix
              obtain rfl : ix = 8 := by simpa using hix
              clear hix
              refine wpOp_step (o := ⟨some 31, _, _, _, _, _⟩) rfl (fun K hK => ?_)
              have HK := Lib.hid hK
              clear hK
              go_simp
              replace hx := hx.alloc (.cells (evA x) 64)
              have HG := Lib.hid (HG.out.step ((Below.refl _ w5).alloc (Nat.le_refl _) (.cells (evA x) 64)))
              have Hlit := Lib.hid ((RowAt.lit w5 (evA x) 64 6 1 (by decide) rfl (by simp [Value.oneCell'])).sl)
              go_wp2_with fail
              refine HK.out _ _ ⟨(HT.out _ hx), ?_⟩
              clear HK
              try clear hHeld
              have hHeld := (HT.out _ hx)
              try simp only [Act.put, List.setIfInBounds_toArray, List.set_cons_zero, List.set_cons_succ]
              refine wpAnyH_all (rs := [9]) (by kernel_rfl) (by simp) ?_
              intro ix hix
              obtain rfl : ix = 9 := by simpa using hix
              clear hix
              refine wpOp_step (o := ⟨some 32, _, _, _, _, _⟩) rfl (fun K hK => ?_)
              have HK := Lib.hid hK
              clear hK
              refine step_append_row rfl (.tmp 29) (.tmp 31) 40 rfl 64 (.agg #[.int .i64 0, .int .i64 0, .int .i64 0, .int .i64 0, .int .i64 0, .int .i64 0]) 6 48 Try.underlying40 Try.infoEv rfl (by decide) rfl rfl HG.out.row Hlit.out (by unfold maxLen; omega) (by omega) ?_
              intro a3 c3 w6 hrow hupd hloc hnil
              have HG := Lib.hid (HG.out.app (zs := [x]) hupd hloc rfl hrow)
              replace hx := hx.trans hupd (fun k hk hq => (blk_loc Hloc.out hq).elim id (fun h => by (try simp at h); omega))
              clear hrow hupd hloc hnil
              refine HK.out _ _ ⟨(HT.out _ hx), ?_⟩
              clear HK
              try clear hHeld
              have hHeld := (HT.out _ hx)
              try simp only [Act.put, List.setIfInBounds_toArray, List.set_cons_zero, List.set_cons_succ]
              refine wpAnyH_take (i := 10) (oi := ⟨some 3, _, _, _, _, _⟩) (v := ?_) rfl (by kernel_rfl) (by kernel_rfl) (by kernel_rfl) (fun _ _ _ h => h) (Or.inl ⟨by rfl, ?_⟩) hHeld ?_
              rotate_left
              · intro w' hS'
                (try dsimp only at hS')
                go_simp
                try with_reducible rfl
              try simp only [Act.put, List.setIfInBounds_toArray, List.set_cons_zero, List.set_cons_succ]
              refine wpAnyH_done (by kernel_rfl) ?_ _
              clear hHeld HT
              have HG7 := Lib.hid HG.out
              go_wp2_with fail
              go_roundw
              case rel => exact ⟨j + 1, rfl, by omega, j + 1, out ++ es ++ [x], a3, c3, rfl, by rw [Hes.out]; exact Hnet.out.cut Hx.out Hmb.out, HG7.out.to _ _ (show on + en + 1 = (out ++ es ++ [x]).length by rw [List.length_append, List.length_append, ← Hon.out, ← Hen.out]; rfl) rfl⟩
              case measure => first | (simp [intOf]; done) | (simp [intOf]; omega)
            · skip
              refine wpOp_step (o := ⟨some 31, _, _, _, _, _⟩) rfl (fun K hK => ?_)
              have HK := Lib.hid hK
              clear hK
              go_simp
              replace hx := hx.alloc (.cells (evA x) 64)
              have HG := Lib.hid (HG.out.step ((Below.refl _ w4).alloc (Nat.le_refl _) (.cells (evA x) 64)))
              have Hlit := Lib.hid ((RowAt.lit w4 (evA x) 64 6 1 (by decide) rfl (by simp [Value.oneCell'])).sl)
              have Hre := Lib.hid (Hre.out.alloc (.cells (evA x) 64))
              have hlp : ∀ ad, some (⟨w4.heap.size, 0, none⟩ : Addr) = some ad → 0 < 1 → ¬ blk a1 ad.block := fun ad he _ hq => by obtain rfl := Option.some.inj he; have := Hnz.out _ hq; simp at this; omega
              go_wp2_with fail
              refine HK.out _ _ ⟨(HT.out _ hx), ?_⟩
              clear HK
              try clear hHeld
              have hHeld := (HT.out _ hx)
              try simp only [Act.put, List.setIfInBounds_toArray, List.set_cons_zero, List.set_cons_succ]
              refine wpAnyH_all (rs := [6]) (by kernel_rfl) (by simp) ?_
              intro ix hix
              obtain rfl : ix = 6 := by simpa using hix
              clear hix
              refine wpOp_step (o := ⟨some 29, _, _, _, _, _⟩) rfl (fun K hK => ?_)
              have HK := Lib.hid hK
              clear hK
              refine step_append_row rfl (.tmp 23) (.tmp 28) 40 rfl 64 (.agg #[.int .i64 0, .int .i64 0, .int .i64 0, .int .i64 0, .int .i64 0, .int .i64 0]) 6 48 Try.underlying40 Try.infoEv rfl (by decide) rfl rfl HG.out.row Hre.out (by unfold maxLen; omega) (by omega) ?_
              intro a2 c2 w5 hrow hupd hloc hnil
              have Hlit := Lib.hid (Hlit.out.upd hupd hlp)
              have hs5 := hupd.size
              replace hx := hx.trans hupd (fun _ _ h => h)
              have Hloc := Lib.hid hloc
              have HG := Lib.hid (HG.out.app hupd hloc Hen.out.symm hrow)
              clear hrow hupd hloc hnil
              refine HK.out _ _ ⟨(HT.out _ hx), ?_⟩
              clear HK
              try clear hHeld
              have hHeld := (HT.out _ hx)
              try simp only [Act.put, List.setIfInBounds_toArray, List.set_cons_zero, List.set_cons_succ]
              refine wpAnyH_all (rs := [9]) (by kernel_rfl) (by simp) ?_
              intro ix hix
              obtain rfl : ix = 9 := by simpa using hix
              clear hix
              refine wpOp_step (o := ⟨some 32, _, _, _, _, _⟩) rfl (fun K hK => ?_)
              have HK := Lib.hid hK
              clear hK
              refine step_append_row rfl (.tmp 29) (.tmp 31) 40 rfl 64 (.agg #[.int .i64 0, .int .i64 0, .int .i64 0, .int .i64 0, .int .i64 0, .int .i64 0]) 6 48 Try.underlying40 Try.infoEv rfl (by decide) rfl rfl HG.out.row Hlit.out (by unfold maxLen; omega) (by omega) ?_
              intro a3 c3 w6 hrow hupd hloc hnil
              have HG := Lib.hid (HG.out.app (zs := [x]) hupd hloc rfl hrow)
              replace hx := hx.trans hupd (fun k hk hq => (blk_loc Hloc.out hq).elim id (fun h => by (try simp at h); omega))
              clear hrow hupd hloc hnil
              refine HK.out _ _ ⟨(HT.out _ hx), ?_⟩
              clear HK
              try clear hHeld
              have hHeld := (HT.out _ hx)
              try simp only [Act.put, List.setIfInBounds_toArray, List.set_cons_zero, List.set_cons_succ]
              refine wpAnyH_take (i := 10) (oi := ⟨some 3, _, _, _, _, _⟩) (v := ?_) rfl (by kernel_rfl) (by kernel_rfl) (by kernel_rfl) (fun _ _ _ h => h) (Or.inl ⟨by rfl, ?_⟩) hHeld ?_
              rotate_left
              · intro w' hS'
                (try dsimp only at hS')
                go_simp
                try with_reducible rfl
              try simp only [Act.put, List.setIfInBounds_toArray, List.set_cons_zero, List.set_cons_succ]
              refine wpAnyH_done (by kernel_rfl) ?_ _
              clear hHeld HT
              have HG7 := Lib.hid HG.out
              go_wp2_with fail
              go_roundw
              case rel => exact ⟨j + 1, rfl, by omega, j + 1, out ++ es ++ [x], a3, c3, rfl, by rw [Hes.out]; exact Hnet.out.cut Hx.out Hmb.out, HG7.out.to _ _ (show on + en + 1 = (out ++ es ++ [x]).length by rw [List.length_append, List.length_append, ← Hon.out, ← Hen.out]; rfl) rfl⟩
              case measure => first | (simp [intOf]; done) | (simp [intOf]; omega)
          · skip
            refine wpOp_step (o := ⟨some 31, _, _, _, _, _⟩) rfl (fun K hK => ?_)
            have HK := Lib.hid hK
            clear hK
            go_simp
            replace hx : Upd (blk a1) w3 (w3.alloc (.cells (evA x) 64)).drew := ((Upd.refl _ _).alloc _).drew
            have hbb := ((Below.refl _ w3).alloc (Nat.le_refl _) (.cells (evA x) 64)).drew
            have HG := Lib.hid (Hg3.out.step hbb)
            have Hlit := Lib.hid (((RowAt.lit w3 (evA x) 64 6 1 (by decide) rfl (by simp [Value.oneCell'])).sl).drew)
            have hlp : ∀ ad, some (⟨w3.heap.size, 0, none⟩ : Addr) = some ad → 0 < 1 → ¬ blk a1 ad.block := fun ad he _ hq => by obtain rfl := Option.some.inj he; have := Hnz.out _ hq; (try simp at this); (try omega)
            clear hbb
            go_wp2_with fail
            refine HK.out _ _ ⟨(HT.out _ hx), ?_⟩
            clear HK
            try clear hHeld
            have hHeld := (HT.out _ hx)
            try simp only [Act.put, List.setIfInBounds_toArray, List.set_cons_zero, List.set_cons_succ]
            refine wpAnyH_all (rs := [5]) (by kernel_rfl) (by simp) ?_
            intro ix hix
            obtain rfl : ix = 5 := by simpa using hix
            clear hix
            refine wpOp_step (o := ⟨some 28, _, _, _, _, _⟩) rfl (fun K hK => ?_)
            have HK := Lib.hid hK
            clear hK
            go_simp
            refine (refOne _ _ _ _ ((l.take j).drop f) ((Hl.out.all HG.out.bel).part f j hfj (by omega)) (by omega)).mono ?_
            rw [← Hes.out]
            rintro y w4 ⟨ae, ce, rfl, hre, hfe, hb⟩
            rw [← Hen.out] at hre ⊢
            have Hre := Lib.hid hre.sl
            have HG := Lib.hid (HG.out.step hb)
            have hs4 := hb.size
            have Hlit := Lib.hid (Hlit.out.all hb)
            have hxs := hx.size
            replace hx := hx.trans (Upd.of_below (S := fun _ => False) hb) (fun _ _ f => f.elim)
            clear hre hfe hb
            go_wp2_with fail
            refine HK.out _ _ ⟨(HT.out _ hx), ?_⟩
            clear HK
            try clear hHeld
            have hHeld := (HT.out _ hx)
            try simp only [Act.put, List.setIfInBounds_toArray, List.set_cons_zero, List.set_cons_succ]
            refine wpAnyH_all (rs := [6]) (by kernel_rfl) (by simp) ?_
            intro ix hix
            obtain rfl : ix = 6 := by simpa using hix
            clear hix
            refine wpOp_step (o := ⟨some 29, _, _, _, _, _⟩) rfl (fun K hK => ?_)
            have HK := Lib.hid hK
            clear hK
            refine step_append_row rfl (.tmp 23) (.tmp 28) 40 rfl 64 (.agg #[.int .i64 0, .int .i64 0, .int .i64 0, .int .i64 0, .int .i64 0, .int .i64 0]) 6 48 Try.underlying40 Try.infoEv rfl (by decide) rfl rfl HG.out.row Hre.out (by unfold maxLen; omega) (by omega) ?_
            intro a2 c2 w5 hrow hupd hloc hnil
            have Hlit := Lib.hid (Hlit.out.upd hupd hlp)
            have hs5 := hupd.size
            replace hx := hx.trans hupd (fun _ _ h => h)
            have Hloc := Lib.hid hloc
            have HG := Lib.hid (HG.out.app hupd hloc Hen.out.symm hrow)
            clear hrow hupd hloc hnil
            refine HK.out _ _ ⟨(HT.out _ hx), ?_⟩
            clear HK
            try clear hHeld
            have hHeld := (HT.out _ hx)
            try simp only [Act.put, List.setIfInBounds_toArray, List.set_cons_zero, List.set_cons_succ]
            refine wpAnyH_all (rs := [9]) (by kernel_rfl) (by simp) ?_
            intro ix hix
            obtain rfl : ix = 9 := by simpa using hix
            clear hix
            refine wpOp_step (o := ⟨some 32, _, _, _, _, _⟩) rfl (fun K hK => ?_)
            have HK := Lib.hid hK
            clear hK
            refine step_append_row rfl (.tmp 29) (.tmp 31) 40 rfl 64 (.agg #[.int .i64 0, .int .i64 0, .int .i64 0, .int .i64 0, .int .i64 0, .int .i64 0]) 6 48 Try.underlying40 Try.infoEv rfl (by decide) rfl rfl HG.out.row Hlit.out (by unfold maxLen; omega) (by omega) ?_
            intro a3 c3 w6 hrow hupd hloc hnil
            have HG := Lib.hid (HG.out.app (zs := [x]) hupd hloc rfl hrow)
            replace hx := hx.trans hupd (fun k hk hq => (blk_loc Hloc.out hq).elim id (fun h => by (try simp at h); omega))
            clear hrow hupd hloc hnil
            refine HK.out _ _ ⟨(HT.out _ hx), ?_⟩
            clear HK
            try clear hHeld
            have hHeld := (HT.out _ hx)
            try simp only [Act.put, List.setIfInBounds_toArray, List.set_cons_zero, List.set_cons_succ]
            refine wpAnyH_take (i := 10) (oi := ⟨some 3, _, _, _, _, _⟩) (v := ?_) rfl (by kernel_rfl) (by kernel_rfl) (by kernel_rfl) (fun _ _ _ h => h) (Or.inl ⟨by rfl, ?_⟩) hHeld ?_
            rotate_left
            · intro w' hS'
              (try dsimp only at hS')
              go_simp
              try with_reducible rfl
            try simp only [Act.put, List.setIfInBounds_toArray, List.set_cons_zero, List.set_cons_succ]
            refine wpAnyH_done (by kernel_rfl) ?_ _
            clear hHeld HT
            have HG7 := Lib.hid HG.out
            go_wp2_with fail
            go_roundw
            case rel => exact ⟨j + 1, rfl, by omega, j + 1, out ++ es ++ [x], a3, c3, rfl, by rw [Hes.out]; exact Hnet.out.cut Hx.out Hmb.out, HG7.out.to _ _ (show on + en + 1 = (out ++ es ++ [x]).length by rw [List.length_append, List.length_append, ← Hon.out, ← Hen.out]; rfl) rfl⟩
            case measure => first | (simp [intOf]; done) | (simp [intOf]; omega)
    · obtain rfl : j = n := by omega
      have hll := Hln.out
      have hnn := Hnet.out
      rw [← hll] at hnn
      have Hfin := Lib.hid hnn.fin
      clear hnn
      obtain ⟨es, hes⟩ : ∃ es, es = oneL (l.drop f) := ⟨_, rfl⟩
      obtain ⟨en, hen⟩ : ∃ en, en = es.length := ⟨_, rfl⟩
      have hel : en ≤ j - f := by have := oneL_len (l.drop f); rw [hen, hes]; simp at this ⊢; omega
      have Hes := Lib.hid hes
      have Hen := Lib.hid hen
      have hfi : (f : Int) ≤ (j : Int) := by omega
      have hjc : (j : Int) ≤ (cap : Int) := by omega
      have hl5 : (netF l).length = on + en := by rw [Hfin.out, ← hes, List.length_append, ← Hon.out, ← hen]
      clear hes hen hll
      by_cases hcf : cap = f
      · have hjf : j = f := by omega
        have hdn : l.drop f = [] := List.drop_of_length_le (by have := Hln.out; omega)
        rcases Hl.out.form with ⟨rfl, rfl, rfl, hxs⟩ | ⟨ad, rfl⟩
        · subst hcf
          go_wp2_with fail
          refine (refOne _ _ _ _ (l.drop 0) (by rw [hdn]; exact SlAt.null _ _) (by omega)).mono ?_
          rw [← Hes.out]
          rintro y w4 ⟨ae, ce, rfl, hre, hfe, hb⟩
          rw [← Hen.out] at hre ⊢
          have Hre := Lib.hid hre.sl
          have HG := Lib.hid (Hg.out.step hb)
          clear hre hfe hb
          go_wp2_with (at_builtin; refine wp_append rfl (.tmp 36) (.tmp 40) 40 rfl 64 (.agg #[.int .i64 0, .int .i64 0, .int .i64 0, .int .i64 0, .int .i64 0, .int .i64 0]) 6 48 Try.underlying40 Try.infoEv rfl (by decide) rfl rfl HG.out.row Hre.out (by unfold maxLen; omega) (by omega) ?_; intro a3 c3 w5 hrow hupd hloc hnil; have HG5 := Lib.hid (HG.out.app hupd hloc Hen.out.symm hrow); clear hrow hupd hloc hnil)
          go_ret
          refine ⟨a3, c3, by rw [hl5]; rfl, ?_, HG5.out.fr, HG5.out.bel⟩
          rw [hl5, Hfin.out, ← Hes.out]
          exact HG5.out.row
        · subst hcf
          subst hjf
          go_wp2_with fail
          refine (refOne _ _ _ _ (l.drop j) (by rw [hdn]; exact SlAt.zero ad) (by omega)).mono ?_
          rw [← Hes.out]
          rintro y w4 ⟨ae, ce, rfl, hre, hfe, hb⟩
          rw [← Hen.out] at hre ⊢
          have Hre := Lib.hid hre.sl
          have HG := Lib.hid (Hg.out.step hb)
          clear hre hfe hb
          go_wp2_with (at_builtin; refine wp_append rfl (.tmp 36) (.tmp 40) 40 rfl 64 (.agg #[.int .i64 0, .int .i64 0, .int .i64 0, .int .i64 0, .int .i64 0, .int .i64 0]) 6 48 Try.underlying40 Try.infoEv rfl (by decide) rfl rfl HG.out.row Hre.out (by unfold maxLen; omega) (by omega) ?_; intro a3 c3 w5 hrow hupd hloc hnil; have HG5 := Lib.hid (HG.out.app hupd hloc Hen.out.symm hrow); clear hrow hupd hloc hnil)
          go_ret
          refine ⟨a3, c3, by rw [hl5]; rfl, ?_, HG5.out.fr, HG5.out.bel⟩
          rw [hl5, Hfin.out, ← Hes.out]
          exact HG5.out.row
      · rcases Nat.eq_zero_or_pos j with h0 | h0
        · obtain rfl : f = 0 := by omega
          subst h0
          rcases Hl.out.form with ⟨rfl, _, hc0, hxs⟩ | ⟨ad, rfl⟩
          · exact absurd hc0 hcf
          go_wp2_with fail
          refine (refOne _ _ _ _ (l.drop 0) (Hl.out.all Hg.out.bel) (by omega)).mono ?_
          rw [← Hes.out]
          rintro y w4 ⟨ae, ce, rfl, hre, hfe, hb⟩
          rw [← Hen.out] at hre ⊢
          have Hre := Lib.hid hre.sl
          have HG := Lib.hid (Hg.out.step hb)
          clear hre hfe hb
          go_wp2_with (at_builtin; refine wp_append rfl (.tmp 36) (.tmp 40) 40 rfl 64 (.agg #[.int .i64 0, .int .i64 0, .int .i64 0, .int .i64 0, .int .i64 0, .int .i64 0]) 6 48 Try.underlying40 Try.infoEv rfl (by decide) rfl rfl HG.out.row Hre.out (by unfold maxLen; omega) (by omega) ?_; intro a3 c3 w5 hrow hupd hloc hnil; have HG5 := Lib.hid (HG.out.app hupd hloc Hen.out.symm hrow); clear hrow hupd hloc hnil)
          go_ret
          refine ⟨a3, c3, by rw [hl5]; rfl, ?_, HG5.out.fr, HG5.out.bel⟩
          rw [hl5, Hfin.out, ← Hes.out]
          exact HG5.out.row
        · obtain ⟨b1, o1, rfl, _, _⟩ := Hl.out.nonempty h0
          go_wp2_with fail
          refine (refOne _ _ _ _ (l.drop f) (by have := (Hl.out.all Hg.out.bel).part f j hfj (Nat.le_refl _); rwa [List.take_of_length_le (by have := Hln.out; omega)] at this) (by omega)).mono ?_
          rw [← Hes.out]
          rintro y w4 ⟨ae, ce, rfl, hre, hfe, hb⟩
          rw [← Hen.out] at hre ⊢
          have Hre := Lib.hid hre.sl
          have HG := Lib.hid (Hg.out.step hb)
          clear hre hfe hb
          go_wp2_with (at_builtin; refine wp_append rfl (.tmp 36) (.tmp 40) 40 rfl 64 (.agg #[.int .i64 0, .int .i64 0, .int .i64 0, .int .i64 0, .int .i64 0, .int .i64 0]) 6 48 Try.underlying40 Try.infoEv rfl (by decide) rfl rfl HG.out.row Hre.out (by unfold maxLen; omega) (by omega) ?_; intro a3 c3 w5 hrow hupd hloc hnil; have HG5 := Lib.hid (HG.out.app hupd hloc Hen.out.symm hrow); clear hrow hupd hloc hnil)
          go_ret
          refine ⟨a3, c3, by rw [hl5]; rfl, ?_, HG5.out.fr, HG5.out.bel⟩
          rw [hl5, Hfin.out, ← Hes.out]
          exact HG5.out.row
end Go.Proofs.Ytpbocficffbcbaa
