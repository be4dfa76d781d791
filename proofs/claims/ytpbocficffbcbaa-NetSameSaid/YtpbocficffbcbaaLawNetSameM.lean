/-
  NetSame: where events may be run, their net may be run, to the same state; the net of a net is itself, and no longer: the law, at every input. No condition.
-/
import Derived.Test.YtpbocficffbcbaaRefAll
import Derived.Test.YtpbocficffbcbaaEvs2
import Derived.Test.YtpbocficffbcbaaMap
import Derived.Test.YtpbocficffbcbaaEqI
import Derived.Test.YtpbocficffbcbaaHeldT
import Derived.Test.YtpbocficffbcbaaDoS
import Derived.Test.YtpbocficffbcbaaState4
import Derived.Test.YtpbocficffbcbaaInts
import Derived.Test.YtpbocficffbcbaaRows
import Derived.Test.YtpbocficffbcbaaFrame
import Derived.Test.YtpbocficffbcbaaOpen
import Derived.Test.YtpbocficffbcbaaOpenS
import Derived.Test.YtpbocficffbcbaaEvOpen2
namespace Go.Proofs.Ytpbocficffbcbaa
open Go Go.RowKit
set_option linter.unusedVariables false

def run (s : St) : List Ev → St × Int × Int
  | [] => (s, 0, 0)
  | e :: t => if doN s e = 0 then ((run (doS s e) t).1, (run (doS s e) t).2.1 + 1, (run (doS s e) t).2.2) else (st0, 0, doN s e)
/-- The first i events were run; the state is cur. -/
def RunIs (s : St) (l : List Ev) (i : Nat) (cur : St) : Prop :=
  run s l = ((run cur (l.drop i)).1, (run cur (l.drop i)).2.1 + i, (run cur (l.drop i)).2.2)
theorem RunIs.zero (s : St) (l : List Ev) : RunIs s l 0 s := by simp [RunIs]
theorem RunIs.step {s : St} {l : List Ev} {i : Nat} {cur : St} {e : Ev} (h : RunIs s l i cur) (he : l[i]? = some e) (hd : doN cur e = 0) : RunIs s l (i + 1) (doS cur e) := by
  obtain ⟨hk, rfl⟩ := List.getElem?_eq_some_iff.1 he
  unfold RunIs at h ⊢
  rw [h, List.drop_eq_getElem_cons hk]
  simp only [run, hd, if_true]
  ext <;> simp
  omega
theorem RunIs.stop {s : St} {l : List Ev} {i : Nat} {cur : St} {e : Ev} (h : RunIs s l i cur) (he : l[i]? = some e) (hd : doN cur e ≠ 0) : run s l = (st0, (i : Int), doN cur e) := by
  obtain ⟨hk, rfl⟩ := List.getElem?_eq_some_iff.1 he
  unfold RunIs at h
  rw [h, List.drop_eq_getElem_cons hk]
  simp [run, hd]
theorem RunIs.fin {s : St} {l : List Ev} {i : Nat} {cur : St} (h : RunIs s l i cur) (hi : l.length ≤ i) : run s l = (cur, (i : Int), 0) := by
  unfold RunIs at h
  rw [h, List.drop_of_length_le hi]
  simp [run]
theorem run_ok {s : St} (ok : StOk s) (l : List Ev) : StOk (run s l).1 := by
  induction l generalizing s with
  | nil => exact ok
  | cons e t ih =>
    simp only [run]
    split
    · rename_i h
      exact ih (doS_ok ok h)
    · exact st0_ok

theorem results_cell_slots {P : Program} {fn : Func} {p q r : Tmp} {ty : TypeId} (h : fn.results = #[.cell p ty, .tmp q, .tmp r]) (tmps : Array Value) (w : World) (g : Nat) (t : TypeId) (cs : Array Value) (fr : Nat × Nat) (d : TypeDesc)
    (hp : tmps.getD p undef = .pointer (some ⟨g, 0, none⟩)) (hg : w.heap[g]? = some (.cells cs t fr))
    (hu : P.underlying ty = some d) (hd : (match d with | .struct _ | .array _ _ => true | _ => false) = true) (hi : (P.info? ty).map (·.size) = some cs.size) :
    (results fn tmps).run P w = .ok (.tuple #[.agg cs, tmps.getD q undef, tmps.getD r undef]) w := by
  have hp' : tmps[p]?.getD undef = .pointer (some ⟨g, 0, none⟩) := by simpa using hp
  simp [results, h, hp', asAddr, run_loadVar_row w g t ty cs fr d hg hu hd hi]

/-- Behind Run: f makes the error's value. -/
def RunTo (w : World) (f : Int → Value) (r : St × Int × Int) (x : Ending) (w' : World) : Prop :=
  ∃ cs, x = .returned (.tuple #[.agg cs, .int .i64 r.2.1, f r.2.2]) ∧ StO w.heap.size w' cs r.1 ∧ Below w.heap.size w w'

theorem StAt.ownStored {B G Z : Nat} {w w' : World} {s : St} {cs : Array Value} (h : StAt w B G s cs) (k : Upd (fun k => k = Z) w w') (hZ : Z < B) : StO B w' cs s :=
  h.own.upd k (fun i a c hi he ad hd hb => by have := h.own.fresh i a c hi he ad hd; change _ = _ at hb; omega)
theorem sizeEv (e : Ev) : (Try.prog.info? 64).map (·.size) = some (evA e).size := by
  have h := congrArg (Option.map (fun p => p.2.1)) Try.infoEv
  rw [Option.map_map] at h
  exact h
theorem StAt.mk13 {B0 B : Nat} {w1 w2 w3 : World} {c : Array Value} {s : St} (h : StO B0 w1 c s) (hB : B ≤ B0) (k : Below w1.heap.size w1 w2) {PU : Nat} (hobj : w3.heap[PU]? = some (.cells c 79 (0, 0))) (hupd : Upd (fun k => k = PU) w2 w3) (hp : PU < B0 ∨ w1.heap.size ≤ PU) : StAt w3 B PU s c := by
  have key : ∀ i a c', i < 12 → c[i]? = some (.slice a (lenOf s i) c') → ∀ ad, a = some ad → ad.block ≠ PU := fun i a c' hi he ad hd => by
    have h1 := h.fresh i a c' hi he ad hd
    have h2 := h.lt i a c' hi he ad hd
    omega
  exact ⟨hobj, ((h.all k).upd hupd (fun i a c' hi he ad hd hk => key i a c' hi he ad hd hk)).mono hB, key⟩
end Go.Proofs.Ytpbocficffbcbaa
namespace Go.Proofs.Ytpbocficffbcbaa
open Go Go.RowKit
set_option linter.unusedVariables false

set_option maxRecDepth 100000 in
set_option maxHeartbeats 1600000 in
theorem netRun (w : World) (cs : Array Value) (s : St) (h : StC w cs s) (ok : StOk s) (fits : Fits s 1000) (a : Option Addr) (n cap : Nat) (l : List Ev) (hl : SlAt w 6 a n cap (evs l)) (hn : n ≤ 1000) :
    Calls Try.prog 71 #[.agg cs, .slice a n cap] w (RunTo w (errV 32) (run s l)) := by
  have hsz : cs.size = 37 := h.size
  have Hln := Lib.hid (ev_len hl)
  have b0 : Below w.heap.size w ((w.alloc (.cells cs 79)).alloc (.cells zSt 79)) := ((Below.refl _ w).alloc (Nat.le_refl _) _).alloc (by simp) _
  have oc := alloc_obj (x := .cells zSt 79) (alloc_new w (.cells cs 79))
  have oz := alloc_new (w.alloc (.cells cs 79)) (.cells zSt 79)
  rw [World.size_alloc] at oz
  have Oc := Lib.hid oc
  have Oz := Lib.hid oz
  have H1 := Lib.hid (h.all b0)
  have B0 := Lib.hid b0
  have Ok := Lib.hid ok
  have Fi := Lib.hid fits
  have Hl := Lib.hid hl
  clear oc oz h b0 ok fits hl
  go_enter Try.func71, Try.ntmps71
  go_wp2_with (refine wpList_load_whole rfl 79 (.tmp 2) rfl w.heap.size rfl 79 cs (0, 0) Oc.out _ Try.underlying79 rfl (by rw [hsz]; exact Try.sizeSt) ?_)
  refine (stateCopy _ _ _ H1.out (fun i hi => (Fi.out.mono (by decide : 1000 ≤ 100000)).len i)).mono ?_
  rintro x wa ⟨cz, rfl, hown, hba⟩
  have hcz : cz.size = 37 := hown.size
  have h3 : w.heap.size + 2 ≤ wa.heap.size := by have := hba.size; simp at this; omega
  have Oz1 := Lib.hid (below_obj hba Oz.out (by simp))
  have On1 := Lib.hid (alloc_new wa (.cells zSt 79))
  have Ba := Lib.hid (B0.out.trans (hba.mono (by simp; omega)))
  have Hown := Lib.hid (hown.mono (show w.heap.size + 2 ≤ _ by simp))
  clear hba hown
  go_wp2_with (refine wpList_store_whole rfl 79 (.tmp 7) (.tmp 12) rfl wa.heap.size rfl 79 zSt cz rfl On1.out (by rw [hcz]; exact Try.sizeSt) (by rw [hcz]; rfl) Hown.out.c.one ?_; intro wb hobj hupd; have hst := Lib.hid (StAt.stored Hown.out hobj hupd); have Oz2 := Lib.hid (below_obj (stored_below hupd) Oz1.out (obj_lt Oz1.out)); have Bb := Lib.hid (Ba.out.trans ((stored_below hupd).mono Ba.out.size)); have hwb := obj_lt hobj; clear hobj hupd)
  go_loopw [15] (fun v wr => ∃ i : Nat, v = .int .i64 i ∧ i ≤ n ∧ ∃ cur cc, RunIs s l i cur ∧ StAt wr (w.heap.size + 2) wa.heap.size cur cc ∧ StOk cur ∧ Fits cur (1000 + i) ∧ Below w.heap.size w wr ∧ wr.heap[w.heap.size + 1]? = some (.cells zSt 79 (0, 0)) ∧ wa.heap.size < wr.heap.size) (fun v _ => n - (intOf v).toNat)
  case atStart => exact ⟨0, rfl, by omega, s, cz, RunIs.zero _ _, hst.out, Ok.out, Fi.out, Bb.out, Oz2.out, hwb⟩
  case round =>
    obtain ⟨i, rfl, hin, cur, cc, hrun, hst, hok, hfi, hbr, hoz, hwr⟩ := hrel
    have hcc := hst.own.size
    have Hrun := Lib.hid hrun
    have Hst := Lib.hid hst
    have Hok := Lib.hid hok
    have Hfi := Lib.hid hfi
    have Hbr := Lib.hid hbr
    have Hoz := Lib.hid hoz
    clear hrun hst hok hfi hbr hoz
    by_cases hi : i < n
    · obtain ⟨b1, o1, x, rfl, hx, hb1, ⟨xk, xa, xb, xc, xd, xe⟩⟩ := ev_at (Hl.out.all Hbr.out) hi
      have Hx := Lib.hid hx
      have hw1 := Hbr.out.size
      clear hx
      have hb3 := Lib.hid ((Below.refl _ wr).alloc (Nat.le_refl _) (.cells (evA x) 64))
      go_wp2_with fail
      clear xk xa xb xc xd xe
      have hw3 := hb3.out.size
      refine (do_ _ _ _ _ cur (Hst.out.all hb3.out) Hok.out (by omega) (Hfi.out.mono (by omega)) x).mono ?_
      rintro y w4 ⟨rfl, hu, cd, hst4⟩
      have hcd := hst4.own.size
      have hw4 := hu.size
      obtain ⟨m, hm⟩ : ∃ m, m = doN cur x := ⟨_, rfl⟩
      rw [← hm] at hst4 ⊢
      have Hm := Lib.hid hm
      have Hoz4 := Lib.hid (hu.obj (below_obj hb3.out Hoz.out (obj_lt Hoz.out)) (by intro hk; change _ = _ at hk; omega))
      have Hb4 := Lib.hid ((Hbr.out.trans (hb3.out.mono Hbr.out.size)).trans (hu.below (by omega) (fun k hk hb => by change _ = _ at hb; omega)))
      have Hst4 := Lib.hid hst4
      clear hm hu hst4
      by_cases hm0 : m = 0
      · subst hm0
        rw [errV_zero]
        have hst5 := Hst4.out
        rw [if_pos rfl] at hst5
        have Hst5 := Lib.hid hst5
        clear hst5
        go_wp2_with fail
        go_roundw
        case rel => exact ⟨i + 1, rfl, by omega, doS cur x, cd, Hrun.out.step Hx.out Hm.out.symm, Hst5.out, doS_ok Hok.out Hm.out.symm, (Hfi.out.do_ x).mono (by omega), Hb4.out, Hoz4.out, by omega⟩
        case measure => first | (simp [intOf]; done) | (simp [intOf]; omega)
      · have Hm0 := Lib.hid hm0
        rw [errV_pos _ _ hm0]
        clear hm0
        go_wp2_with (first | (refine wpList_store_whole rfl 79 (.tmp 4) (.tmp 24) rfl (w.heap.size + 1) rfl 79 zSt zSt rfl Hoz4.out Try.sizeSt rfl (zSt_O 0 w).c.one ?_; intro we hobj hupd))
        refine bodyPost_ret (results_cell_slots rfl _ we (w.heap.size + 1) 79 zSt (0, 0) _ rfl hobj Try.underlying79 rfl Try.sizeSt) rfl ?_
        rw [Hrun.out.stop Hx.out (by rw [← Hm.out]; exact Hm0.out), ← Hm.out]
        exact ⟨zSt, by rw [errV_pos _ _ Hm0.out]; rfl, zSt_O _ _, Hb4.out.trans (hupd.below (by have := Hb4.out.size; omega) (fun k hk hb => by change _ = _ at hb; omega))⟩
    · obtain rfl : i = n := by omega
      go_wp2_with (first | (refine wpList_load_whole rfl 79 (.tmp 7) rfl wa.heap.size rfl 79 cc (0, 0) Hst.out.obj _ Try.underlying79 rfl (by rw [hcc]; exact Try.sizeSt) ?_) | (refine wpList_store_whole rfl 79 (.tmp 4) (.tmp 28) rfl (w.heap.size + 1) rfl 79 zSt cc rfl Hoz.out (by rw [hcc]; exact Try.sizeSt) (by rw [hcc]; rfl) Hst.out.own.c.one ?_; intro we hobj hupd))
      refine bodyPost_ret (results_cell_slots rfl _ we (w.heap.size + 1) 79 cc (0, 0) _ rfl hobj Try.underlying79 rfl (by rw [hcc]; exact Try.sizeSt)) rfl ?_
      rw [Hrun.out.fin (by have := Hln.out; omega)]
      exact ⟨cc, by rw [errV_zero]; rfl, (Hst.out.ownStored hupd (by omega)).mono (by omega), Hbr.out.trans (hupd.below (by have := Hbr.out.size; omega) (fun k hk hb => by change _ = _ at hb; omega))⟩
end Go.Proofs.Ytpbocficffbcbaa
namespace Go.Proofs.Ytpbocficffbcbaa
open Go Go.RowKit
set_option linter.unusedVariables false

abbrev K3 := Int × Int × Int
def keyE (e : Ev) : K3 := (e.k, e.a, e.b)
def kcv3 (k : K3) : Value := .agg #[.int .i64 k.1, .int .i64 k.2.1, .int .i64 k.2.2]
def kcn (n : Int) : Value := .int .i64 n

/-- A field's event, taken into account. -/
def addS : List Ev → Ev → List Ev
  | [], e => [e]
  | x :: t, e => if keyE e = keyE x then { x with d := e.d } :: t else x :: addS t e
def addM (ms : List Ev) (e : Ev) : List Ev := if setsB e then ms else ms ++ [e]
def addT (ss : List Ev) (e : Ev) : List Ev := if setsB e then addS ss e else ss
def leftE (e : Ev) : Bool := decide (e.c ≠ e.d)
def endS (ms ss : List Ev) : List Ev := ms ++ ss.filter leftE
/-- The net, from what there is. -/
def netG (out ms ss : List Ev) : List Ev → List Ev
  | [] => out ++ endS ms ss
  | e :: t => if makesB e then netG (out ++ endS ms ss ++ [e]) [] [] t else netG out (addM ms e) (addT ss e) t
def netF (l : List Ev) : List Ev := netG [] [] [] l

/-- Where each field's event stands. -/
def kvs : List Ev → Int → List (K3 × Int)
  | [], _ => []
  | x :: t, i => (keyE x, i) :: kvs t (i + 1)
theorem kvs_append (ss : List Ev) (e : Ev) : ∀ i, kvs (ss ++ [e]) i = kvs ss i ++ [(keyE e, i + ss.length)] := by
  induction ss with
  | nil => intro i; simp [kvs]
  | cons x t ih =>
    intro i
    simp only [List.cons_append, kvs, ih, List.length_cons, List.cons.injEq, true_and, List.append_cancel_left_eq, Prod.mk.injEq, and_true]
    omega
theorem kvs_length (ss : List Ev) : ∀ i, (kvs ss i).length = ss.length := by
  induction ss with
  | nil => intro i; rfl
  | cons x t ih => intro i; simp [kvs, ih]
theorem addS_new {ss : List Ev} {e : Ev} : ∀ (i : Nat) (v : Int), fnd (keyE e) (kvs ss v) i = none → addS ss e = ss ++ [e] := by
  induction ss with
  | nil => intros; rfl
  | cons x t ih =>
    intro i v h
    simp only [kvs, fnd] at h
    split at h
    · cases h
    · rename_i hk
      simp only [addS, if_neg hk, List.cons_append]
      rw [ih _ _ h]
theorem fnd_none_all {ss : List Ev} {e : Ev} : ∀ (i j : Nat) (v u : Int), fnd (keyE e) (kvs ss v) i = none → fnd (keyE e) (kvs ss u) j = none := by
  induction ss with
  | nil => intros; rfl
  | cons x t ih =>
    intro i j v u h
    simp only [kvs, fnd] at h ⊢
    split at h
    · cases h
    · rename_i hk
      rw [if_neg hk]
      exact ih _ _ _ _ h
theorem put_kvs {ss : List Ev} {e : Ev} (h : fnd (keyE e) (kvs ss 0) 0 = none) : put (keyE e) (ss.length : Int) (kvs ss 0) = kvs (ss ++ [e]) 0 := by
  rw [put_new (fun i => fnd_none_all 0 i 0 0 h), kvs_append]
  simp
theorem addS_old {ss : List Ev} {e : Ev} : ∀ (i : Nat) (v : Int) (j : Nat) (u : Int), fnd (keyE e) (kvs ss v) i = some (j, u) → ∃ k x, j = i + k ∧ u = v + k ∧ ss[k]? = some x ∧ addS ss e = ss.set k { x with d := e.d } ∧ kvs (addS ss e) v = kvs ss v := by
  induction ss with
  | nil => intro i v j u h; cases h
  | cons x t ih =>
    intro i v j u h
    simp only [kvs, fnd] at h
    split at h
    · rename_i hk
      simp only [Option.some.injEq, Prod.mk.injEq] at h
      obtain ⟨rfl, rfl⟩ := h
      exact ⟨0, x, rfl, by simp, rfl, by rw [addS, if_pos hk]; rfl, by rw [addS, if_pos hk]; rfl⟩
    · rename_i hk
      obtain ⟨k, y, rfl, rfl, h1, h2, h3⟩ := ih _ _ _ _ h
      refine ⟨k + 1, y, by omega, by omega, by simpa using h1, by simp [addS, hk, h2], by simp only [addS, if_neg hk, kvs, h3]⟩

theorem key_equal (w : World) (x y : K3) : (Op.equal 164 (kcv3 x) (kcv3 y)).run Try.prog w = .ok (decide (x = y)) w := by
  obtain ⟨i, hi, _⟩ := info_parts Try.infoInt
  have h := equalIn_ints 9998 Try.underlying164 Try.underlying3 hi (by kernel_rfl) w [x.1, x.2.1, x.2.2] [y.1, y.2.1, y.2.2] rfl rfl
  rw [show decide (x = y) = decide ([x.1, x.2.1, x.2.2] = [y.1, y.2.1, y.2.2]) by
    obtain ⟨a, b, c⟩ := x
    obtain ⟨d, e, f⟩ := y
    simp [Prod.ext_iff]]
  exact h
theorem key_check (n : Nat) (w : World) (b : Bool) (k : K3) : (Instr.checkKey b (n + 2) 164 (kcv3 k)).run Try.prog w = .ok () w := by
  unfold kcv3
  obtain ⟨i, hi, _, hs, _⟩ := info_parts Try.infoInt
  simp [Instr.checkKey, part, isAgg, sizeOf, typeInfo, hi, hs, run_underlying Try.underlying164, run_underlying Try.underlying3, go_sem, List.range'_succ]
theorem keyLaw3 : KeyLaw Try.prog 164 kcv3 :=
  keyLaw_asked Try.underlying164 (fun _ _ => rfl) key_equal (fun w b k => key_check 9998 w b k) (fun k => by
    have gen : ∀ n, Instr.sameBits (n + 1) (kcv3 k) (kcv3 k) = true := by
      intro n
      simp [kcv3, Instr.sameBits, sameBits_int]
    exact gen 9999)

set_option maxRecDepth 100000 in
set_option maxHeartbeats 400000 in
theorem netKey (w : World) (e : Ev) : Calls Try.prog 122 #[evV e] w (fun x w' => x = .returned (kcv3 (keyE e)) ∧ Below w.heap.size w w') := by
  go_enter Try.func122, Try.ntmps122
  go_wp2_with fail
  have oz := alloc_new (w.alloc (.cells (evA e) 64)) (.cells #[.int .i64 e.k, .int .i64 e.a, .int .i64 e.b] 164)
  rw [World.size_alloc] at oz
  exact bodyPost_ret (results_cell_row rfl _ _ (w.heap.size + 1) 164 #[.int .i64 e.k, .int .i64 e.a, .int .i64 e.b] (0, 0) _ rfl oz Try.underlying164 rfl (by kernel_rfl)) rfl ⟨rfl, ((Below.refl _ w).alloc (Nat.le_refl _) _).alloc (by simp) _⟩

/-! ### in memory -/
structure SpanA where
  bs : Nat
  br : Nat
  ma : Option Addr
  mc : Nat
  sa : Option Addr
  sc : Nat
def SpanA.own (g : SpanA) (k : Nat) : Prop := k = g.bs ∨ k = g.br ∨ blk g.ma k ∨ blk g.sa k
structure SpanAt (w : World) (B : Nat) (g : SpanA) (ms ss : List Ev) : Prop where
  obj : w.heap[g.bs]? = some (.cells #[.slice g.ma ms.length g.mc, .slice g.sa ss.length g.sc, .map (some g.br)] 163 (0, 0))
  rm : RowAt w 64 6 g.ma ms.length g.mc (evs ms)
  rs : RowAt w 64 6 g.sa ss.length g.sc (evs ss)
  map : MapIs w g.br kcv3 kcn (kvs ss 0)
  dis : g.br ≠ g.bs ∧ ¬ blk g.ma g.bs ∧ ¬ blk g.sa g.bs ∧ ¬ blk g.ma g.br ∧ ¬ blk g.sa g.br ∧ ∀ k, blk g.ma k → ¬ blk g.sa k
  fr : ∀ k, g.own k → B ≤ k
theorem SpanAt.own_lt {w : World} {B : Nat} {g : SpanA} {ms ss : List Ev} (h : SpanAt w B g ms ss) : ∀ k, g.own k → k < w.heap.size := fun k hk => by
  rcases hk with rfl | rfl | ⟨ad, he, rfl⟩ | ⟨ad, he, rfl⟩
  · exact obj_lt h.obj
  · exact obj_lt h.map
  · exact h.rm.lt ad he
  · exact h.rs.lt ad he
theorem SpanAt.upd {S : Nat → Prop} {w w' : World} {B : Nat} {g : SpanA} {ms ss : List Ev} (h : SpanAt w B g ms ss) (k : Upd S w w') (hS : ∀ j, g.own j → ¬ S j) : SpanAt w' B g ms ss where
  obj := k.obj h.obj (hS _ (.inl rfl))
  rm := h.rm.upd k (fun ad he => hS _ (.inr (.inr (.inl ⟨ad, he, rfl⟩))))
  rs := h.rs.upd k (fun ad he => hS _ (.inr (.inr (.inr ⟨ad, he, rfl⟩))))
  map := k.obj h.map (hS _ (.inr (.inl rfl)))
  dis := h.dis
  fr := h.fr
theorem SpanAt.all {w w' : World} {B : Nat} {g : SpanA} {ms ss : List Ev} (h : SpanAt w B g ms ss) (k : Below w.heap.size w w') : SpanAt w' B g ms ss :=
  h.upd (Upd.of_below (S := fun _ => False) k) (fun _ _ f => f)

/-- Behind begin. -/
def NewSpan (w : World) (x : Ending) (w' : World) : Prop :=
  ∃ g : SpanA, x = .returned (.pointer (some ⟨g.bs, 0, none⟩)) ∧ SpanAt w' w.heap.size g [] [] ∧ Below w.heap.size w w'
set_option maxHeartbeats 400000 in
theorem netBegin (w : World) : Calls Try.prog 102 #[] w (NewSpan w) := by
  have hmm := @run_makeMap Try.prog
  go_enter Try.func102, Try.ntmps102
  go_wp2_with fail
  go_ret
  have oz := alloc_new (w.alloc (.map #[] 0)) (.cells #[.slice none 0 0, .slice none 0 0, .map (some w.heap.size)] 163)
  rw [World.size_alloc] at oz
  refine ⟨⟨w.heap.size + 1, w.heap.size, none, 0, none, 0⟩, by simp, ⟨oz, RowAt.null _ _ _, RowAt.null _ _ _, alloc_obj (alloc_new w _), ⟨by simp, ?_, ?_, ?_, ?_, ?_⟩, ?_⟩, ((Below.refl _ w).alloc (Nat.le_refl _) _).alloc (by simp) _⟩
  · rintro ⟨ad, he, _⟩; cases he
  · rintro ⟨ad, he, _⟩; cases he
  · rintro ⟨ad, he, _⟩; cases he
  · rintro ⟨ad, he, _⟩; cases he
  · rintro k ⟨ad, he, _⟩; cases he
  · rintro k (rfl | rfl | ⟨ad, he, _⟩ | ⟨ad, he, _⟩)
    · simp
    · simp
    · cases he
    · cases he
end Go.Proofs.Ytpbocficffbcbaa
namespace Go.Proofs.Ytpbocficffbcbaa
open Go Go.RowKit
set_option linter.unusedVariables false

/-- Behind add. -/
def AddTo (w : World) (B : Nat) (g : SpanA) (ms ss : List Ev) (x : Ending) (w' : World) : Prop :=
  x = .returned (.tuple #[]) ∧ ∃ g' : SpanA, g'.bs = g.bs ∧ SpanAt w' B g' ms ss ∧ Upd g.own w w' ∧ ∀ k, g'.own k → g.own k ∨ w.heap.size ≤ k

theorem evs_snoc (l : List Ev) (e : Ev) : evs (l ++ [e]) = evs l ++ evC e := by simp [evs]
theorem blk_loc {a a' : Option Addr} {n : Nat} (h : ∀ ad, a' = some ad → a = some ad ∨ n ≤ ad.block) {k : Nat} (hk : blk a' k) : blk a k ∨ n ≤ k := by
  obtain ⟨ad, he, rfl⟩ := hk
  rcases h ad he with h1 | h1
  · exact .inl ⟨ad, h1, rfl⟩
  · exact .inr h1

theorem SpanAt.pushM {w1 w2 : World} {B : Nat} {g : SpanA} {ms ss : List Ev} (h : SpanAt w1 B g ms ss) (hx : Upd (blk g.ma) w1 w2) {a' : Option Addr} {c' : Nat} {e : Ev} (hrow : RowAt w2 64 6 a' (ms.length + 1) c' (evs ms ++ evC e))
    (hloc : ∀ ad, a' = some ad → g.ma = some ad ∨ w1.heap.size ≤ ad.block) (hB : B ≤ w1.heap.size) :
    SpanAt (w2.setCell ⟨g.bs, 0, none⟩ (.slice a' (ms.length + 1) c')) B { g with ma := a', mc := c' } (ms ++ [e]) ss ∧ Upd g.own w1 (w2.setCell ⟨g.bs, 0, none⟩ (.slice a' (ms.length + 1) c')) ∧ ∀ k, SpanA.own { g with ma := a', mc := c' } k → g.own k ∨ w1.heap.size ≤ k := by
  obtain ⟨d1, d2, d3, d4, d5, d6⟩ := h.dis
  have hlt := h.own_lt
  have hbs := hlt g.bs (.inl rfl)
  have hbr := hlt g.br (.inr (.inl rfl))
  have hown : ∀ k, SpanA.own { g with ma := a', mc := c' } k → g.own k ∨ w1.heap.size ≤ k := fun k hk => by
    rcases hk with rfl | rfl | hk | hk
    · exact .inl (.inl rfl)
    · exact .inl (.inr (.inl rfl))
    · rcases blk_loc hloc hk with h1 | h1
      · exact .inl (.inr (.inr (.inl h1)))
      · exact .inr h1
    · exact .inl (.inr (.inr (.inr hk)))
  have hnew : ∀ k, blk a' k → k ≠ g.bs ∧ k ≠ g.br ∧ ¬ blk g.sa k := fun k hk => by
    rcases blk_loc hloc hk with h1 | h1
    · exact ⟨fun hq => d2 (hq ▸ h1), fun hq => d4 (hq ▸ h1), d6 k h1⟩
    · exact ⟨by omega, by omega, fun hq => by have := hlt k (.inr (.inr (.inr hq))); omega⟩
  refine ⟨⟨?_, ?_, ?_, ?_, ⟨d1, fun hq => (hnew _ hq).1 rfl, d3, fun hq => (hnew _ hq).2.1 rfl, d5, fun k hk => (hnew k hk).2.2⟩, fun k hk => ?_⟩, ?_, hown⟩
  · have := obj_set (hx.obj h.obj d2) 0 (.slice a' (ms.length + 1) c')
    simpa using this
  · rw [evs_snoc, List.length_append]
    exact hrow.setCell ⟨g.bs, 0, none⟩ (fun ad he hq => (hnew _ ⟨ad, he, rfl⟩).1 hq) _
  · exact (h.rs.upd hx (fun ad he hq => d6 _ hq ⟨ad, he, rfl⟩)).setCell ⟨g.bs, 0, none⟩ (fun ad he hq => d3 ⟨ad, he, hq⟩) _
  · exact setCell_obj (hx.obj h.map d4) d1
  · rcases hown k hk with h1 | h1
    · exact h.fr k h1
    · omega
  · exact (hx.mono (fun k _ hk => .inr (.inr (.inl hk)))).setCell ⟨g.bs, 0, none⟩ (fun _ => .inl rfl) _

theorem SpanAt.pushS {w1 wm w2 : World} {B : Nat} {g : SpanA} {ms ss : List Ev} (h : SpanAt w1 B g ms ss) {e : Ev} (hm : Upd (fun k => k = g.br) w1 wm) (hmap : MapIs wm g.br kcv3 kcn (kvs (ss ++ [e]) 0)) (hx : Upd (blk g.sa) wm w2) {a' : Option Addr} {c' : Nat}
    (hrow : RowAt w2 64 6 a' (ss.length + 1) c' (evs ss ++ evC e)) (hloc : ∀ ad, a' = some ad → g.sa = some ad ∨ w1.heap.size ≤ ad.block) (hB : B ≤ w1.heap.size) :
    SpanAt (w2.setCell ⟨g.bs, 1, none⟩ (.slice a' (ss.length + 1) c')) B { g with sa := a', sc := c' } ms (ss ++ [e]) ∧ Upd g.own w1 (w2.setCell ⟨g.bs, 1, none⟩ (.slice a' (ss.length + 1) c')) ∧ ∀ k, SpanA.own { g with sa := a', sc := c' } k → g.own k ∨ w1.heap.size ≤ k := by
  obtain ⟨d1, d2, d3, d4, d5, d6⟩ := h.dis
  have hlt := h.own_lt
  have hbs := hlt g.bs (.inl rfl)
  have hbr := hlt g.br (.inr (.inl rfl))
  have hown : ∀ k, SpanA.own { g with sa := a', sc := c' } k → g.own k ∨ w1.heap.size ≤ k := fun k hk => by
    rcases hk with rfl | rfl | hk | hk
    · exact .inl (.inl rfl)
    · exact .inl (.inr (.inl rfl))
    · exact .inl (.inr (.inr (.inl hk)))
    · rcases blk_loc hloc hk with h1 | h1
      · exact .inl (.inr (.inr (.inr h1)))
      · exact .inr h1
  have hnew : ∀ k, blk a' k → k ≠ g.bs ∧ k ≠ g.br ∧ ¬ blk g.ma k := fun k hk => by
    rcases blk_loc hloc hk with h1 | h1
    · exact ⟨fun hq => d3 (hq ▸ h1), fun hq => d5 (hq ▸ h1), fun hq => d6 k hq h1⟩
    · exact ⟨by omega, by omega, fun hq => by have := hlt k (.inr (.inr (.inl hq))); omega⟩
  refine ⟨⟨?_, ?_, ?_, ?_, ⟨d1, d2, fun hq => (hnew _ hq).1 rfl, d4, fun hq => (hnew _ hq).2.1 rfl, fun k hk hq => (hnew k hq).2.2 hk⟩, fun k hk => ?_⟩, ?_, hown⟩
  · have := obj_set (hx.obj (hm.obj h.obj (Ne.symm d1)) d3) 1 (.slice a' (ss.length + 1) c')
    simpa using this
  · exact ((h.rm.upd hm (fun ad he hq => d4 ⟨ad, he, hq⟩)).upd hx (fun ad he hq => d6 _ ⟨ad, he, rfl⟩ hq)).setCell ⟨g.bs, 1, none⟩ (fun ad he hq => d2 ⟨ad, he, hq⟩) _
  · rw [evs_snoc, List.length_append]
    exact hrow.setCell ⟨g.bs, 1, none⟩ (fun ad he hq => (hnew _ ⟨ad, he, rfl⟩).1 hq) _
  · exact setCell_obj (hx.obj hmap d5) d1
  · rcases hown k hk with h1 | h1
    · exact h.fr k h1
    · omega
  · exact ((hm.mono (fun k _ hk => .inr (.inl hk))).trans (hx.mono (T := g.own) (fun k _ hk => .inr (.inr (.inr hk)))) (fun _ _ h => h)).setCell ⟨g.bs, 1, none⟩ (fun _ => .inl rfl) _

theorem evs_set : ∀ (l : List Ev) (k : Nat) (x : Ev) (d : Int), l[k]? = some x → (evs l).set (k * 6 + 4) (.int .i64 d) = evs (l.set k { x with d := d })
  | [], k, x, d, h => by simp at h
  | y :: l, 0, x, d, h => by
    simp at h
    subst h
    rfl
  | y :: l, k + 1, x, d, h => by
    simp only [List.getElem?_cons_succ] at h
    have ih := evs_set l k x d h
    simp only [evs, List.flatMap_cons, List.set_cons_succ] at ih ⊢
    rw [List.set_append_right _ _ (by simp [evC]; omega), ← ih]
    congr 2
    simp [evC]
    omega
theorem SpanAt.setD {w1 : World} {B : Nat} {g : SpanA} {ms ss : List Ev} (h : SpanAt w1 B g ms ss) {b off k : Nat} {x : Ev} (d : Int) (hs : g.sa = some ⟨b, off, none⟩) (hx : ss[k]? = some x) (hkv : kvs (ss.set k { x with d := d }) 0 = kvs ss 0) :
    SpanAt (w1.setCell ⟨b, off + k * 6 + 4, none⟩ (.int .i64 d)) B g ms (ss.set k { x with d := d }) ∧ Upd g.own w1 (w1.setCell ⟨b, off + k * 6 + 4, none⟩ (.int .i64 d)) := by
  obtain ⟨d1, d2, d3, d4, d5, d6⟩ := h.dis
  have hb : blk g.sa b := ⟨_, hs, rfl⟩
  have hk := (List.getElem?_eq_some_iff.1 hx).1
  refine ⟨⟨?_, ?_, ?_, ?_, h.dis, h.fr⟩, (Upd.refl _ _).setCell ⟨b, off + k * 6 + 4, none⟩ (fun _ => .inr (.inr (.inr hb))) _⟩
  · rw [List.length_set]
    exact setCell_obj (p := ⟨b, off + k * 6 + 4, none⟩) h.obj (fun hq => d3 (by rw [hq]; exact hb))
  · exact h.rm.setCell ⟨b, off + k * 6 + 4, none⟩ (fun ad he hq => d6 _ ⟨ad, he, hq⟩ hb) _
  · have hr := h.rs
    rw [hs] at hr ⊢
    have := hr.setAt (k * 6 + 4) (by omega) (.int .i64 d) rfl
    rw [evs_set ss k x d hx, ← Nat.add_assoc] at this
    rw [List.length_set]
    exact this
  · rw [hkv]
    exact setCell_obj (p := ⟨b, off + k * 6 + 4, none⟩) h.map (fun hq => d5 (by rw [hq]; exact hb))
end Go.Proofs.Ytpbocficffbcbaa
namespace Go.Proofs.Ytpbocficffbcbaa
open Go Go.RowKit
set_option linter.unusedVariables false
set_option linter.unusedSimpArgs false

set_option maxRecDepth 100000 in
set_option maxHeartbeats 1600000 in
theorem addMove (w : World) (B : Nat) (g : SpanA) (ms ss : List Ev) (h : SpanAt w B g ms ss) (hm : ms.length ≤ 1000) (hs : ss.length ≤ 1000) (e : Ev) (he : setsB e = false) :
    Calls Try.prog 105 #[.pointer (some ⟨g.bs, 0, none⟩), evV e] w (AddTo w B g (ms ++ [e]) ss) := by
  have hB : B ≤ w.heap.size := by have := h.fr g.bs (.inl rfl); have := obj_lt h.obj; omega
  have b0 : Below w.heap.size w (w.alloc (.cells (evA e) 64)) := (Below.refl _ w).alloc (Nat.le_refl _) _
  have Oe := Lib.hid (alloc_new w (.cells (evA e) 64))
  have H0 := Lib.hid (h.all b0)
  have B0 := Lib.hid b0
  have hbw := h.own_lt
  have Hbw := Lib.hid hbw
  have hz0 : (w.alloc (.cells (evA e) 64)).heap.size = w.heap.size + 1 := by simp
  have hgb := hbw g.bs (.inl rfl)
  obtain ⟨x0, x1, x2, x3, x4, x5⟩ := EvCells.of Oe.out
  have He := Lib.hid he
  clear h b0 hbw he
  go_enter Try.func105, Try.ntmps105
  go_wp2_with fail
  clear x0 x1 x2 x3 x4 x5
  generalize (w.alloc (.cells (evA e) 64)) = w0 at *
  refine (sets _ e).mono ?_
  rintro x w1 ⟨rfl, hb1⟩
  rw [He.out]
  have Oe1 := Lib.hid (below_obj hb1 Oe.out (obj_lt Oe.out))
  have H1 := Lib.hid (H0.out.all hb1)
  have B1 := Lib.hid (B0.out.trans (hb1.mono (by omega)))
  have hw1 := hb1.size
  clear hb1
  have Hrow := Lib.hid H1.out.rm
  have Hobj := Lib.hid H1.out.obj
  have Hnb := Lib.hid H1.out.dis.2.1
  have HOe := Lib.hid Oe1.out
  have Hne := Lib.hid (show ¬ blk g.ma w.heap.size from fun hq => by have := Hbw.out _ (.inr (.inr (.inl hq))); omega)
  obtain ⟨mn, hmn⟩ : ∃ mn, mn = ms.length := ⟨_, rfl⟩
  rw [← hmn] at Hrow Hobj hm
  have Hmn := Lib.hid hmn
  clear hmn
  have hx : Upd (blk g.ma) w1 w1.drew := (Upd.refl _ _).drew
  have HT := Lib.hid (fun (x : World) (hu : Upd (blk g.ma) w1 x) => (⟨(hu.cell (p := ⟨g.bs, 0, none⟩) (obj_lt Hobj.out) Hnb.out).trans ((obj_cell Hobj.out 0).trans rfl), EvCells.of (hu.obj HOe.out Hne.out)⟩ : x.cell? ⟨g.bs, 0, none⟩ = some (.slice g.ma mn g.mc) ∧ EvCells x w.heap.size e))
  have HF := Lib.hid (fun (x : World) (hu : Upd (blk g.ma) w1 x) => obj_free (hu.obj Hobj.out Hnb.out) 0)
  go_wp2_with fail
  refine wp_region_T 10 (fun x => x.cell? ⟨g.bs, 0, none⟩ = some (.slice g.ma mn g.mc) ∧ x.cell? ⟨w.heap.size, 0, none⟩ = some (.int .i64 e.k) ∧ x.cell? ⟨w.heap.size, 1, none⟩ = some (.int .i64 e.a) ∧ x.cell? ⟨w.heap.size, 2, none⟩ = some (.int .i64 e.b) ∧ x.cell? ⟨w.heap.size, 3, none⟩ = some (.int .i64 e.c) ∧ x.cell? ⟨w.heap.size, 4, none⟩ = some (.int .i64 e.d) ∧ x.cell? ⟨w.heap.size, 5, none⟩ = some (.int .i64 e.e)) (by kernel_rfl) (HT.out _ hx) (fun hHeld => ?_)
  refine wpAnyT_takeU (i := 0) (oi := ⟨some 9, _, _, _, _, _⟩) (v := ?_) rfl (by kernel_rfl) (by kernel_rfl) (by kernel_rfl) (by kernel_rfl) (fun _ _ _ h => h) (Or.inl ⟨by rfl, ?_⟩) (fun _ => hHeld) ?_
  rotate_left
  · intro w' hS'
    (try dsimp only at hS')
    go_simp
    try with_reducible rfl
  try simp only [Act.put, List.setIfInBounds_toArray, List.set_cons_zero, List.set_cons_succ]
  refine wpAnyT_takeU (i := 1) (oi := ⟨some 10, _, _, _, _, _⟩) (v := ?_) rfl (by kernel_rfl) (by kernel_rfl) (by kernel_rfl) (by kernel_rfl) (fun _ _ _ h => h) (Or.inl ⟨by rfl, ?_⟩) (fun _ => hHeld) ?_
  rotate_left
  · intro w' hS'
    (try dsimp only at hS')
    go_simp
    try with_reducible rfl
  try simp only [Act.put, List.setIfInBounds_toArray, List.set_cons_zero, List.set_cons_succ]
  refine wpAnyT_takeU (i := 2) (oi := ⟨some 11, _, _, _, _, _⟩) (v := ?_) rfl (by kernel_rfl) (by kernel_rfl) (by kernel_rfl) (by kernel_rfl) (fun _ _ _ h => h) (Or.inl ⟨by rfl, ?_⟩) (fun _ => hHeld) ?_
  rotate_left
  · intro w' hS'
    (try dsimp only at hS')
    go_simp
    try with_reducible rfl
  try simp only [Act.put, List.setIfInBounds_toArray, List.set_cons_zero, List.set_cons_succ]
  refine wpAnyT_takeU (i := 3) (oi := ⟨some 12, _, _, _, _, _⟩) (v := ?_) rfl (by kernel_rfl) (by kernel_rfl) (by kernel_rfl) (by kernel_rfl) (fun _ _ _ h => h) (Or.inl ⟨by rfl, ?_⟩) (fun _ => hHeld) ?_
  rotate_left
  · intro w' hS'
    (try dsimp only at hS')
    go_simp
    try with_reducible rfl
  try simp only [Act.put, List.setIfInBounds_toArray, List.set_cons_zero, List.set_cons_succ]
  refine wpAnyT_take (i := 4) (oi := ⟨some 13, _, _, _, _, _⟩) (v := ?_) rfl (by kernel_rfl) (by kernel_rfl) (by kernel_rfl) (by kernel_rfl) (fun _ _ _ h => h) (Or.inl ⟨by rfl, ?_⟩) hHeld ?_
  rotate_left
  · intro w' hS'
    (try dsimp only at hS')
    go_simp
    try with_reducible rfl
  try simp only [Act.put, List.setIfInBounds_toArray, List.set_cons_zero, List.set_cons_succ]
  refine wpAnyT_take (i := 5) (oi := ⟨some 14, _, _, _, _, _⟩) (v := ?_) rfl (by kernel_rfl) (by kernel_rfl) (by kernel_rfl) (by kernel_rfl) (fun _ _ _ h => h) (Or.inl ⟨by rfl, ?_⟩) hHeld ?_
  rotate_left
  · intro w' hS'
    (try dsimp only at hS')
    go_simp
    try with_reducible rfl
  try simp only [Act.put, List.setIfInBounds_toArray, List.set_cons_zero, List.set_cons_succ]
  refine wpAnyT_all (rs := [6]) (by kernel_rfl) (by simp) ?_
  intro ix hix
  obtain rfl : ix = 6 := by simpa using hix
  clear hix
  refine wpOp_step (o := ⟨some 15, _, _, _, _, _⟩) rfl (fun K hK => ?_)
  have HK := Lib.hid hK
  clear hK
  go_simp
  replace hx : Upd (blk g.ma) w1 (w1.alloc (.cells (evA e) 64)).drew := ((Upd.refl _ _).alloc _).drew
  have Hlit := Lib.hid (((RowAt.lit w1 (evA e) 64 6 1 (by decide) rfl (by simp [Value.oneCell'])).sl).drew)
  have Hr := Lib.hid ((Hrow.out.alloc (.cells (evA e) 64)).drew)
  go_wp2_with fail
  refine HK.out _ _ ⟨fun _ => (HT.out _ hx), ?_⟩
  clear HK
  try clear hHeld
  have hHeld := (HT.out _ hx)
  try simp only [Act.put, List.setIfInBounds_toArray, List.set_cons_zero, List.set_cons_succ]
  refine wpAnyT_all (rs := [7]) (by kernel_rfl) (by simp) ?_
  intro ix hix
  obtain rfl : ix = 7 := by simpa using hix
  clear hix
  refine wpOp_step (o := ⟨some 16, _, _, _, _, _⟩) rfl (fun K hK => ?_)
  have HK := Lib.hid hK
  clear hK
  refine step_append_row rfl (.tmp 13) (.tmp 15) 40 rfl 64 (.agg #[.int .i64 0, .int .i64 0, .int .i64 0, .int .i64 0, .int .i64 0, .int .i64 0]) 6 48 Try.underlying40 Try.infoEv rfl (by decide) rfl rfl Hr.out Hlit.out (by unfold maxLen; omega) (by omega) ?_
  intro a' cap' w2 hrow hupd hloc hnil
  replace hx := hx.trans hupd (fun _ _ h => h)
  have Hrow2 := Lib.hid hrow
  have Hloc := Lib.hid hloc
  clear hrow hupd hloc hnil
  refine HK.out _ _ ⟨fun _ => (HT.out _ hx), ?_⟩
  clear HK
  try clear hHeld
  have hHeld := (HT.out _ hx)
  try simp only [Act.put, List.setIfInBounds_toArray, List.set_cons_zero, List.set_cons_succ]
  refine wpAnyT_takeU (i := 8) (oi := ⟨some 17, _, _, _, _, _⟩) (v := ?_) rfl (by kernel_rfl) (by kernel_rfl) (by kernel_rfl) (by kernel_rfl) (fun _ _ _ h => h) (Or.inl ⟨by rfl, ?_⟩) (fun _ => hHeld) ?_
  rotate_left
  · intro w' hS'
    (try dsimp only at hS')
    go_simp
    try with_reducible rfl
  try simp only [Act.put, List.setIfInBounds_toArray, List.set_cons_zero, List.set_cons_succ]
  refine wpAnyT_takeU (i := 9) (oi := ⟨some 18, _, _, _, _, _⟩) (v := ?_) rfl (by kernel_rfl) (by kernel_rfl) (by kernel_rfl) (by kernel_rfl) (fun _ _ _ h => h) (Or.inl ⟨by rfl, ?_⟩) (fun _ => hHeld) ?_
  rotate_left
  · intro w' hS'
    (try dsimp only at hS')
    go_simp
    try with_reducible rfl
  try simp only [Act.put, List.setIfInBounds_toArray, List.set_cons_zero, List.set_cons_succ]
  refine wpAnyT_all (rs := [10]) (by kernel_rfl) (by simp) ?_
  intro ix hix
  obtain rfl : ix = 10 := by simpa using hix
  clear hix
  refine wpOp_step (o := ⟨none, _, _, _, _, _⟩) rfl (fun K hK => ?_)
  have HK := Lib.hid hK
  clear hK
  have kf := HF.out _ hx
  have kc := (HT.out _ hx).1
  go_simp
  go_wp2_with fail
  refine HK.out _ _ ⟨tl (by kernel_rfl), ?_⟩
  clear HK
  try clear hHeld
  try simp only [Act.put, List.setIfInBounds_toArray, List.set_cons_zero, List.set_cons_succ]
  refine wpAnyT_done (by kernel_rfl) ?_ _
  have Hx := Lib.hid hx
  clear hx kf kc
  go_wp2_with fail
  refine bodyPost_ret (results_none rfl _ _ _) rfl ?_
  rw [Hmn.out] at Hrow2 ⊢
  have key := H1.out.pushM Hx.out (e := e) Hrow2.out (fun ad he => (Hloc.out ad he).imp id (fun h => by simp at h; omega)) (by omega)
  exact ⟨rfl, { g with ma := a', mc := cap' }, rfl, key.1, (Upd.of_below (S := g.own) B1.out).trans key.2.1 (fun _ _ h => h), fun k hk => (key.2.2 k hk).imp id (fun h => by omega)⟩

set_option maxRecDepth 100000 in
set_option maxHeartbeats 1600000 in
theorem addNew (w : World) (B : Nat) (g : SpanA) (ms ss : List Ev) (h : SpanAt w B g ms ss) (hm : ms.length ≤ 1000) (hs : ss.length ≤ 1000) (e : Ev) (he : setsB e = true) (hfn : fnd (keyE e) (kvs ss 0) 0 = none) :
    Calls Try.prog 105 #[.pointer (some ⟨g.bs, 0, none⟩), evV e] w (AddTo w B g ms (ss ++ [e])) := by
  have hB : B ≤ w.heap.size := by have := h.fr g.bs (.inl rfl); have := obj_lt h.obj; omega
  have b0 : Below w.heap.size w (w.alloc (.cells (evA e) 64)) := (Below.refl _ w).alloc (Nat.le_refl _) _
  have Oe := Lib.hid (alloc_new w (.cells (evA e) 64))
  have H0 := Lib.hid (h.all b0)
  have B0 := Lib.hid b0
  have hbw := h.own_lt
  have Hbw := Lib.hid hbw
  have hz0 : (w.alloc (.cells (evA e) 64)).heap.size = w.heap.size + 1 := by simp
  have hgb := hbw g.bs (.inl rfl)
  obtain ⟨x0, x1, x2, x3, x4, x5⟩ := EvCells.of Oe.out
  have He := Lib.hid he
  clear h b0 hbw he
  go_enter Try.func105, Try.ntmps105
  go_wp2_with fail
  clear x0 x1 x2 x3 x4 x5
  generalize (w.alloc (.cells (evA e) 64)) = w0 at *
  refine (sets _ e).mono ?_
  rintro x w1 ⟨rfl, hb1⟩
  rw [He.out]
  have Oe1 := Lib.hid (below_obj hb1 Oe.out (obj_lt Oe.out))
  have H1 := Lib.hid (H0.out.all hb1)
  have B1 := Lib.hid (B0.out.trans (hb1.mono (by omega)))
  have hw1 := hb1.size
  clear hb1
  have Hfn := Lib.hid hfn
  clear hfn
  have hl : ms.length = ms.length := rfl
  have Hx0 : Below w1.heap.size w1 w1.drew := (Below.refl _ _).drew
  have hx := Hx0
  clear Hx0 hl
  have HT := Lib.hid (fun (x : World) (hb : Below w1.heap.size w1 x) => (⟨(obj_cell (below_obj hb H1.out.obj (obj_lt H1.out.obj)) 2).trans rfl, EvCells.of (below_obj hb Oe1.out (obj_lt Oe1.out))⟩ : x.cell? ⟨g.bs, 2, none⟩ = some (.map (some g.br)) ∧ EvCells x w.heap.size e))
  go_wp2_with fail
  refine wp_region_held_drew (S := fun x => x.cell? ⟨g.bs, 2, none⟩ = some (.map (some g.br)) ∧ x.cell? ⟨w.heap.size, 0, none⟩ = some (.int .i64 e.k) ∧ x.cell? ⟨w.heap.size, 1, none⟩ = some (.int .i64 e.a) ∧ x.cell? ⟨w.heap.size, 2, none⟩ = some (.int .i64 e.b) ∧ x.cell? ⟨w.heap.size, 3, none⟩ = some (.int .i64 e.c) ∧ x.cell? ⟨w.heap.size, 4, none⟩ = some (.int .i64 e.d) ∧ x.cell? ⟨w.heap.size, 5, none⟩ = some (.int .i64 e.e)) (by kernel_rfl) (HT.out _ hx) (fun hHeld => ?_)
  refine wpAnyH_take (i := 0) (oi := ⟨some 20, _, _, _, _, _⟩) (v := ?_) rfl (by kernel_rfl) (by kernel_rfl) (by kernel_rfl) (fun _ _ _ h => h) (Or.inl ⟨by rfl, ?_⟩) hHeld ?_
  rotate_left
  · intro w' hS'
    (try dsimp only at hS')
    go_simp
    try with_reducible rfl
  try simp only [Act.put, List.setIfInBounds_toArray, List.set_cons_zero, List.set_cons_succ]
  refine wpAnyH_take (i := 1) (oi := ⟨some 21, _, _, _, _, _⟩) (v := ?_) rfl (by kernel_rfl) (by kernel_rfl) (by kernel_rfl) (fun _ _ _ h => h) (Or.inl ⟨by rfl, ?_⟩) hHeld ?_
  rotate_left
  · intro w' hS'
    (try dsimp only at hS')
    go_simp
    try with_reducible rfl
  try simp only [Act.put, List.setIfInBounds_toArray, List.set_cons_zero, List.set_cons_succ]
  refine wpAnyH_take (i := 2) (oi := ⟨some 22, _, _, _, _, _⟩) (v := ?_) rfl (by kernel_rfl) (by kernel_rfl) (by kernel_rfl) (fun _ _ _ h => h) (Or.inl ⟨by rfl, ?_⟩) hHeld ?_
  rotate_left
  · intro w' hS'
    (try dsimp only at hS')
    go_simp
    try with_reducible rfl
  try simp only [Act.put, List.setIfInBounds_toArray, List.set_cons_zero, List.set_cons_succ]
  refine wpAnyH_take (i := 3) (oi := ⟨some 23, _, _, _, _, _⟩) (v := ?_) rfl (by kernel_rfl) (by kernel_rfl) (by kernel_rfl) (fun _ _ _ h => h) (Or.inl ⟨by rfl, ?_⟩) hHeld ?_
  rotate_left
  · intro w' hS'
    (try dsimp only at hS')
    go_simp
    try with_reducible rfl
  try simp only [Act.put, List.setIfInBounds_toArray, List.set_cons_zero, List.set_cons_succ]
  refine wpAnyH_take (i := 4) (oi := ⟨some 24, _, _, _, _, _⟩) (v := ?_) rfl (by kernel_rfl) (by kernel_rfl) (by kernel_rfl) (fun _ _ _ h => h) (Or.inl ⟨by rfl, ?_⟩) hHeld ?_
  rotate_left
  · intro w' hS'
    (try dsimp only at hS')
    go_simp
    try with_reducible rfl
  try simp only [Act.put, List.setIfInBounds_toArray, List.set_cons_zero, List.set_cons_succ]
  refine wpAnyH_all (rs := [5]) (by kernel_rfl) (by simp) ?_
  intro ix hix
  obtain rfl : ix = 5 := by simpa using hix
  clear hix
  refine wpOp_step (o := ⟨some 25, _, _, _, _, _⟩) rfl (fun K hK => ?_)
  have HK := Lib.hid hK
  clear hK
  go_simp
  refine (netKey _ e).mono ?_
  rintro x wk ⟨rfl, hb⟩
  replace hx := hx.trans (hb.mono hx.size)
  clear hb
  go_wp2_with fail
  refine HK.out _ _ ⟨(HT.out _ hx), ?_⟩
  clear HK
  try clear hHeld
  have hHeld := (HT.out _ hx)
  try simp only [Act.put, List.setIfInBounds_toArray, List.set_cons_zero, List.set_cons_succ]
  refine wpAnyH_all (rs := [6]) (by kernel_rfl) (by simp) ?_
  intro ix hix
  obtain rfl : ix = 6 := by simpa using hix
  clear hix
  refine wpOp_step (o := ⟨some 26, _, _, _, _, _⟩) rfl (fun K hK => ?_)
  have HK := Lib.hid hK
  clear hK
  have hlu : (Instr.lookup 161 (.map (some g.br)) (kcv3 (keyE e)) true).run Try.prog wk = .ok (.tuple #[.int .i64 0, .bool false]) wk := by
    have hq := run_lookup_ok_is keyLaw3 Try.underlying161 (H1.out.all hx).map (z := .int .i64 0) (fun w => by kernel_rfl) (keyE e)
    rw [hq]
    unfold has
    rw [Hfn.out]
    rfl
  go_simp
  go_wp2_with fail
  refine HK.out _ _ ⟨(HT.out _ hx), ?_⟩
  clear HK
  try clear hHeld
  have hHeld := (HT.out _ hx)
  try simp only [Act.put, List.setIfInBounds_toArray, List.set_cons_zero, List.set_cons_succ]
  refine wpAnyH_take (i := 7) (oi := ⟨some 19, _, _, _, _, _⟩) (v := ?_) rfl (by kernel_rfl) (by kernel_rfl) (by kernel_rfl) (fun _ _ _ h => h) (Or.inl ⟨by rfl, ?_⟩) hHeld ?_
  rotate_left
  · intro w' hS'
    (try dsimp only at hS')
    go_simp
    try with_reducible rfl
  try simp only [Act.put, List.setIfInBounds_toArray, List.set_cons_zero, List.set_cons_succ]
  refine wpAnyH_take (i := 8) (oi := ⟨some 27, _, _, _, _, _⟩) (v := ?_) rfl (by kernel_rfl) (by kernel_rfl) (by kernel_rfl) (fun _ _ _ h => h) (Or.inl ⟨by rfl, ?_⟩) hHeld ?_
  rotate_left
  · intro w' hS'
    (try dsimp only at hS')
    go_simp
    try with_reducible rfl
  try simp only [Act.put, List.setIfInBounds_toArray, List.set_cons_zero, List.set_cons_succ]
  refine wpAnyH_take (i := 9) (oi := ⟨some 28, _, _, _, _, _⟩) (v := ?_) rfl (by kernel_rfl) (by kernel_rfl) (by kernel_rfl) (fun _ _ _ h => h) (Or.inl ⟨by rfl, ?_⟩) hHeld ?_
  rotate_left
  · intro w' hS'
    (try dsimp only at hS')
    go_simp
    try with_reducible rfl
  try simp only [Act.put, List.setIfInBounds_toArray, List.set_cons_zero, List.set_cons_succ]
  refine wpAnyH_take (i := 10) (oi := ⟨some 4, _, _, _, _, _⟩) (v := ?_) rfl (by kernel_rfl) (by kernel_rfl) (by kernel_rfl) (fun _ _ _ h => h) (Or.inl ⟨by rfl, ?_⟩) hHeld ?_
  rotate_left
  · intro w' hS'
    (try dsimp only at hS')
    go_simp
    try with_reducible rfl
  try simp only [Act.put, List.setIfInBounds_toArray, List.set_cons_zero, List.set_cons_succ]
  refine wpAnyH_take (i := 11) (oi := ⟨some 5, _, _, _, _, _⟩) (v := ?_) rfl (by kernel_rfl) (by kernel_rfl) (by kernel_rfl) (fun _ _ _ h => h) (Or.inl ⟨by rfl, ?_⟩) hHeld ?_
  rotate_left
  · intro w' hS'
    (try dsimp only at hS')
    go_simp
    try with_reducible rfl
  try simp only [Act.put, List.setIfInBounds_toArray, List.set_cons_zero, List.set_cons_succ]
  refine wpAnyH_done (by kernel_rfl) ?_ _
  clear hHeld HT
  have Oe2 := Lib.hid (below_obj hx Oe1.out (obj_lt Oe1.out))
  have H2 := Lib.hid (H1.out.all hx)
  have B2 := Lib.hid (B1.out.trans (hx.mono (by omega)))
  have hw2 := hx.size
  clear hx
  generalize wk = w2 at *
  obtain ⟨sn, hsn⟩ : ∃ sn, sn = ss.length := ⟨_, rfl⟩
  have Hobj := Lib.hid H2.out.obj
  rw [← hsn] at Hobj hs
  have Hsn := Lib.hid hsn
  clear hsn
  have hx : Below w2.heap.size w2 w2.drew := (Below.refl _ _).drew
  have HT := Lib.hid (fun (x : World) (hb : Below w2.heap.size w2 x) => (⟨(obj_cell (below_obj hb Hobj.out (obj_lt Hobj.out)) 2).trans rfl, (obj_cell (below_obj hb Hobj.out (obj_lt Hobj.out)) 1).trans rfl, EvCells.of (below_obj hb Oe2.out (obj_lt Oe2.out))⟩ : x.cell? ⟨g.bs, 2, none⟩ = some (.map (some g.br)) ∧ x.cell? ⟨g.bs, 1, none⟩ = some (.slice g.sa sn g.sc) ∧ EvCells x w.heap.size e))
  go_wp2_with fail
  refine wp_region_T 11 (fun x => x.cell? ⟨g.bs, 2, none⟩ = some (.map (some g.br)) ∧ x.cell? ⟨g.bs, 1, none⟩ = some (.slice g.sa sn g.sc) ∧ x.cell? ⟨w.heap.size, 0, none⟩ = some (.int .i64 e.k) ∧ x.cell? ⟨w.heap.size, 1, none⟩ = some (.int .i64 e.a) ∧ x.cell? ⟨w.heap.size, 2, none⟩ = some (.int .i64 e.b) ∧ x.cell? ⟨w.heap.size, 3, none⟩ = some (.int .i64 e.c) ∧ x.cell? ⟨w.heap.size, 4, none⟩ = some (.int .i64 e.d) ∧ x.cell? ⟨w.heap.size, 5, none⟩ = some (.int .i64 e.e)) (by kernel_rfl) (HT.out _ hx) (fun hHeld => ?_)
  refine wpAnyT_takeU (i := 0) (oi := ⟨some 31, _, _, _, _, _⟩) (v := ?_) rfl (by kernel_rfl) (by kernel_rfl) (by kernel_rfl) (by kernel_rfl) (fun _ _ _ h => h) (Or.inl ⟨by rfl, ?_⟩) (fun _ => hHeld) ?_
  rotate_left
  · intro w' hS'
    (try dsimp only at hS')
    go_simp
    try with_reducible rfl
  try simp only [Act.put, List.setIfInBounds_toArray, List.set_cons_zero, List.set_cons_succ]
  refine wpAnyT_takeU (i := 1) (oi := ⟨some 32, _, _, _, _, _⟩) (v := ?_) rfl (by kernel_rfl) (by kernel_rfl) (by kernel_rfl) (by kernel_rfl) (fun _ _ _ h => h) (Or.inl ⟨by rfl, ?_⟩) (fun _ => hHeld) ?_
  rotate_left
  · intro w' hS'
    (try dsimp only at hS')
    go_simp
    try with_reducible rfl
  try simp only [Act.put, List.setIfInBounds_toArray, List.set_cons_zero, List.set_cons_succ]
  refine wpAnyT_takeU (i := 2) (oi := ⟨some 33, _, _, _, _, _⟩) (v := ?_) rfl (by kernel_rfl) (by kernel_rfl) (by kernel_rfl) (by kernel_rfl) (fun _ _ _ h => h) (Or.inl ⟨by rfl, ?_⟩) (fun _ => hHeld) ?_
  rotate_left
  · intro w' hS'
    (try dsimp only at hS')
    go_simp
    try with_reducible rfl
  try simp only [Act.put, List.setIfInBounds_toArray, List.set_cons_zero, List.set_cons_succ]
  refine wpAnyT_take (i := 3) (oi := ⟨some 34, _, _, _, _, _⟩) (v := ?_) rfl (by kernel_rfl) (by kernel_rfl) (by kernel_rfl) (by kernel_rfl) (fun _ _ _ h => h) (Or.inl ⟨by rfl, ?_⟩) hHeld ?_
  rotate_left
  · intro w' hS'
    (try dsimp only at hS')
    go_simp
    try with_reducible rfl
  try simp only [Act.put, List.setIfInBounds_toArray, List.set_cons_zero, List.set_cons_succ]
  refine wpAnyT_take (i := 4) (oi := ⟨some 35, _, _, _, _, _⟩) (v := ?_) rfl (by kernel_rfl) (by kernel_rfl) (by kernel_rfl) (by kernel_rfl) (fun _ _ _ h => h) (Or.inl ⟨by rfl, ?_⟩) hHeld ?_
  rotate_left
  · intro w' hS'
    (try dsimp only at hS')
    go_simp
    try with_reducible rfl
  try simp only [Act.put, List.setIfInBounds_toArray, List.set_cons_zero, List.set_cons_succ]
  refine wpAnyT_takeU (i := 6) (oi := ⟨some 37, _, _, _, _, _⟩) (v := ?_) rfl (by kernel_rfl) (by kernel_rfl) (by kernel_rfl) (by kernel_rfl) (fun _ _ _ h => h) (Or.inl ⟨by rfl, ?_⟩) (fun _ => hHeld) ?_
  rotate_left
  · intro w' hS'
    (try dsimp only at hS')
    go_simp
    try with_reducible rfl
  try simp only [Act.put, List.setIfInBounds_toArray, List.set_cons_zero, List.set_cons_succ]
  refine wpAnyT_takeU (i := 7) (oi := ⟨some 38, _, _, _, _, _⟩) (v := ?_) rfl (by kernel_rfl) (by kernel_rfl) (by kernel_rfl) (by kernel_rfl) (fun _ _ _ h => h) (Or.inl ⟨by rfl, ?_⟩) (fun _ => hHeld) ?_
  rotate_left
  · intro w' hS'
    (try dsimp only at hS')
    go_simp
    try with_reducible rfl
  try simp only [Act.put, List.setIfInBounds_toArray, List.set_cons_zero, List.set_cons_succ]
  refine wpAnyT_takeU (i := 8) (oi := ⟨some 39, _, _, _, _, _⟩) (v := ?_) rfl (by kernel_rfl) (by kernel_rfl) (by kernel_rfl) (by kernel_rfl) (fun _ _ _ h => h) (Or.inl ⟨by rfl, ?_⟩) (fun _ => hHeld) ?_
  rotate_left
  · intro w' hS'
    (try dsimp only at hS')
    go_simp
    try with_reducible rfl
  try simp only [Act.put, List.setIfInBounds_toArray, List.set_cons_zero, List.set_cons_succ]
  refine wpAnyT_take (i := 9) (oi := ⟨some 40, _, _, _, _, _⟩) (v := ?_) rfl (by kernel_rfl) (by kernel_rfl) (by kernel_rfl) (by kernel_rfl) (fun _ _ _ h => h) (Or.inl ⟨by rfl, ?_⟩) hHeld ?_
  rotate_left
  · intro w' hS'
    (try dsimp only at hS')
    go_simp
    try with_reducible rfl
  try simp only [Act.put, List.setIfInBounds_toArray, List.set_cons_zero, List.set_cons_succ]
  refine wpAnyT_takeU (i := 10) (oi := ⟨some 41, _, _, _, _, _⟩) (v := ?_) rfl (by kernel_rfl) (by kernel_rfl) (by kernel_rfl) (by kernel_rfl) (fun _ _ _ h => h) (Or.inl ⟨by rfl, ?_⟩) (fun _ => hHeld) ?_
  rotate_left
  · intro w' hS'
    (try dsimp only at hS')
    go_simp
    try with_reducible rfl
  try simp only [Act.put, List.setIfInBounds_toArray, List.set_cons_zero, List.set_cons_succ]
  refine wpAnyT_all (rs := [5]) (by kernel_rfl) (by simp) ?_
  intro ix hix
  obtain rfl : ix = 5 := by simpa using hix
  clear hix
  refine wpOp_step (o := ⟨some 36, _, _, _, _, _⟩) rfl (fun K hK => ?_)
  have HK := Lib.hid hK
  clear hK
  go_simp
  refine (netKey _ e).mono ?_
  rintro x wk ⟨rfl, hb⟩
  replace hx := hx.trans (hb.mono hx.size)
  clear hb
  go_wp2_with fail
  refine HK.out _ _ ⟨fun _ => (HT.out _ hx), ?_⟩
  clear HK
  try clear hHeld
  have hHeld := (HT.out _ hx)
  try simp only [Act.put, List.setIfInBounds_toArray, List.set_cons_zero, List.set_cons_succ]
  refine wpAnyT_all (rs := [11]) (by kernel_rfl) (by simp) ?_
  intro ix hix
  obtain rfl : ix = 11 := by simpa using hix
  clear hix
  refine wpOp_step (o := ⟨none, _, _, _, _, _⟩) rfl (fun K hK => ?_)
  have HK := Lib.hid hK
  clear hK
  have H3 := Lib.hid (H2.out.all hx)
  obtain ⟨wm, hrun, hupd, hdr, hmap⟩ := run_mapUpdate_is keyLaw3 Try.underlying161 H3.out.map (keyE e) (ss.length : Int)
  rw [← Hsn.out] at hrun
  change (Instr.mapUpdate 161 (.map (some g.br)) (kcv3 (keyE e)) (.int .i64 (sn : Int))).run Try.prog wk = .ok () wm at hrun
  go_simp
  go_wp2_with fail
  refine HK.out _ _ ⟨tl (by kernel_rfl), ?_⟩
  clear HK
  try clear hHeld
  try simp only [Act.put, List.setIfInBounds_toArray, List.set_cons_zero, List.set_cons_succ]
  refine wpAnyT_done (by kernel_rfl) ?_ _
  have HTk := HT.out _ hx
  clear HT
  rw [put_kvs Hfn.out] at hmap
  have Hmap := Lib.hid hmap
  have Hupd := Lib.hid hupd
  have Oe3 := Lib.hid (below_obj hx Oe2.out (obj_lt Oe2.out))
  have B3 := Lib.hid (B2.out.trans (hx.mono (by have := B2.out.size; omega)))
  have hw3 := hx.size
  clear hx hmap hupd hrun hdr HTk
  have Oe4 := Lib.hid (Hupd.out.obj Oe3.out (by intro hq; change _ = _ at hq; have := Hbw.out g.br (.inr (.inl rfl)); omega))
  have Hrow := Lib.hid (H3.out.rs.upd Hupd.out (fun ad he hq => H3.out.dis.2.2.2.2.1 ⟨ad, he, hq⟩))
  have Hobj4 := Lib.hid (Hupd.out.obj H3.out.obj (fun hq => H3.out.dis.1 (Eq.symm hq)))
  have hwm := Hupd.out.size
  rw [← Hsn.out] at Hrow Hobj4
  clear Hobj
  have Hobj := Lib.hid Hobj4.out
  clear Hobj4
  have Hnb := Lib.hid H3.out.dis.2.2.1
  have HOe := Lib.hid Oe4.out
  have Hne := Lib.hid (show ¬ blk g.sa w.heap.size from fun hq => by have := Hbw.out _ (.inr (.inr (.inr hq))); omega)
  have hx : Upd (blk g.sa) wm wm.drew := (Upd.refl _ _).drew
  have HT := Lib.hid (fun (x : World) (hu : Upd (blk g.sa) wm x) => (⟨(hu.cell (p := ⟨g.bs, 1, none⟩) (obj_lt Hobj.out) Hnb.out).trans ((obj_cell Hobj.out 1).trans rfl), EvCells.of (hu.obj HOe.out Hne.out)⟩ : x.cell? ⟨g.bs, 1, none⟩ = some (.slice g.sa sn g.sc) ∧ EvCells x w.heap.size e))
  have HF := Lib.hid (fun (x : World) (hu : Upd (blk g.sa) wm x) => obj_free (hu.obj Hobj.out Hnb.out) 1)
  go_wp2_with fail
  refine wp_region_T 10 (fun x => x.cell? ⟨g.bs, 1, none⟩ = some (.slice g.sa sn g.sc) ∧ x.cell? ⟨w.heap.size, 0, none⟩ = some (.int .i64 e.k) ∧ x.cell? ⟨w.heap.size, 1, none⟩ = some (.int .i64 e.a) ∧ x.cell? ⟨w.heap.size, 2, none⟩ = some (.int .i64 e.b) ∧ x.cell? ⟨w.heap.size, 3, none⟩ = some (.int .i64 e.c) ∧ x.cell? ⟨w.heap.size, 4, none⟩ = some (.int .i64 e.d) ∧ x.cell? ⟨w.heap.size, 5, none⟩ = some (.int .i64 e.e)) (by kernel_rfl) (HT.out _ hx) (fun hHeld => ?_)
  refine wpAnyT_takeU (i := 0) (oi := ⟨some 42, _, _, _, _, _⟩) (v := ?_) rfl (by kernel_rfl) (by kernel_rfl) (by kernel_rfl) (by kernel_rfl) (fun _ _ _ h => h) (Or.inl ⟨by rfl, ?_⟩) (fun _ => hHeld) ?_
  rotate_left
  · intro w' hS'
    (try dsimp only at hS')
    go_simp
    try with_reducible rfl
  try simp only [Act.put, List.setIfInBounds_toArray, List.set_cons_zero, List.set_cons_succ]
  refine wpAnyT_takeU (i := 1) (oi := ⟨some 43, _, _, _, _, _⟩) (v := ?_) rfl (by kernel_rfl) (by kernel_rfl) (by kernel_rfl) (by kernel_rfl) (fun _ _ _ h => h) (Or.inl ⟨by rfl, ?_⟩) (fun _ => hHeld) ?_
  rotate_left
  · intro w' hS'
    (try dsimp only at hS')
    go_simp
    try with_reducible rfl
  try simp only [Act.put, List.setIfInBounds_toArray, List.set_cons_zero, List.set_cons_succ]
  refine wpAnyT_takeU (i := 2) (oi := ⟨some 44, _, _, _, _, _⟩) (v := ?_) rfl (by kernel_rfl) (by kernel_rfl) (by kernel_rfl) (by kernel_rfl) (fun _ _ _ h => h) (Or.inl ⟨by rfl, ?_⟩) (fun _ => hHeld) ?_
  rotate_left
  · intro w' hS'
    (try dsimp only at hS')
    go_simp
    try with_reducible rfl
  try simp only [Act.put, List.setIfInBounds_toArray, List.set_cons_zero, List.set_cons_succ]
  refine wpAnyT_takeU (i := 3) (oi := ⟨some 45, _, _, _, _, _⟩) (v := ?_) rfl (by kernel_rfl) (by kernel_rfl) (by kernel_rfl) (by kernel_rfl) (fun _ _ _ h => h) (Or.inl ⟨by rfl, ?_⟩) (fun _ => hHeld) ?_
  rotate_left
  · intro w' hS'
    (try dsimp only at hS')
    go_simp
    try with_reducible rfl
  try simp only [Act.put, List.setIfInBounds_toArray, List.set_cons_zero, List.set_cons_succ]
  refine wpAnyT_take (i := 4) (oi := ⟨some 46, _, _, _, _, _⟩) (v := ?_) rfl (by kernel_rfl) (by kernel_rfl) (by kernel_rfl) (by kernel_rfl) (fun _ _ _ h => h) (Or.inl ⟨by rfl, ?_⟩) hHeld ?_
  rotate_left
  · intro w' hS'
    (try dsimp only at hS')
    go_simp
    try with_reducible rfl
  try simp only [Act.put, List.setIfInBounds_toArray, List.set_cons_zero, List.set_cons_succ]
  refine wpAnyT_take (i := 5) (oi := ⟨some 47, _, _, _, _, _⟩) (v := ?_) rfl (by kernel_rfl) (by kernel_rfl) (by kernel_rfl) (by kernel_rfl) (fun _ _ _ h => h) (Or.inl ⟨by rfl, ?_⟩) hHeld ?_
  rotate_left
  · intro w' hS'
    (try dsimp only at hS')
    go_simp
    try with_reducible rfl
  try simp only [Act.put, List.setIfInBounds_toArray, List.set_cons_zero, List.set_cons_succ]
  refine wpAnyT_all (rs := [6]) (by kernel_rfl) (by simp) ?_
  intro ix hix
  obtain rfl : ix = 6 := by simpa using hix
  clear hix
  refine wpOp_step (o := ⟨some 48, _, _, _, _, _⟩) rfl (fun K hK => ?_)
  have HK := Lib.hid hK
  clear hK
  go_simp
  replace hx : Upd (blk g.sa) wm (wm.alloc (.cells (evA e) 64)).drew := ((Upd.refl _ _).alloc _).drew
  have Hlit := Lib.hid (((RowAt.lit wm (evA e) 64 6 1 (by decide) rfl (by simp [Value.oneCell'])).sl).drew)
  have Hr := Lib.hid ((Hrow.out.alloc (.cells (evA e) 64)).drew)
  go_wp2_with fail
  refine HK.out _ _ ⟨fun _ => (HT.out _ hx), ?_⟩
  clear HK
  try clear hHeld
  have hHeld := (HT.out _ hx)
  try simp only [Act.put, List.setIfInBounds_toArray, List.set_cons_zero, List.set_cons_succ]
  refine wpAnyT_all (rs := [7]) (by kernel_rfl) (by simp) ?_
  intro ix hix
  obtain rfl : ix = 7 := by simpa using hix
  clear hix
  refine wpOp_step (o := ⟨some 49, _, _, _, _, _⟩) rfl (fun K hK => ?_)
  have HK := Lib.hid hK
  clear hK
  refine step_append_row rfl (.tmp 46) (.tmp 48) 40 rfl 64 (.agg #[.int .i64 0, .int .i64 0, .int .i64 0, .int .i64 0, .int .i64 0, .int .i64 0]) 6 48 Try.underlying40 Try.infoEv rfl (by decide) rfl rfl Hr.out Hlit.out (by unfold maxLen; omega) (by omega) ?_
  intro a' cap' w2 hrow hupd hloc hnil
  replace hx := hx.trans hupd (fun _ _ h => h)
  have Hrow2 := Lib.hid hrow
  have Hloc := Lib.hid hloc
  clear hrow hupd hloc hnil
  refine HK.out _ _ ⟨fun _ => (HT.out _ hx), ?_⟩
  clear HK
  try clear hHeld
  have hHeld := (HT.out _ hx)
  try simp only [Act.put, List.setIfInBounds_toArray, List.set_cons_zero, List.set_cons_succ]
  refine wpAnyT_takeU (i := 8) (oi := ⟨some 50, _, _, _, _, _⟩) (v := ?_) rfl (by kernel_rfl) (by kernel_rfl) (by kernel_rfl) (by kernel_rfl) (fun _ _ _ h => h) (Or.inl ⟨by rfl, ?_⟩) (fun _ => hHeld) ?_
  rotate_left
  · intro w' hS'
    (try dsimp only at hS')
    go_simp
    try with_reducible rfl
  try simp only [Act.put, List.setIfInBounds_toArray, List.set_cons_zero, List.set_cons_succ]
  refine wpAnyT_takeU (i := 9) (oi := ⟨some 51, _, _, _, _, _⟩) (v := ?_) rfl (by kernel_rfl) (by kernel_rfl) (by kernel_rfl) (by kernel_rfl) (fun _ _ _ h => h) (Or.inl ⟨by rfl, ?_⟩) (fun _ => hHeld) ?_
  rotate_left
  · intro w' hS'
    (try dsimp only at hS')
    go_simp
    try with_reducible rfl
  try simp only [Act.put, List.setIfInBounds_toArray, List.set_cons_zero, List.set_cons_succ]
  refine wpAnyT_all (rs := [10]) (by kernel_rfl) (by simp) ?_
  intro ix hix
  obtain rfl : ix = 10 := by simpa using hix
  clear hix
  refine wpOp_step (o := ⟨none, _, _, _, _, _⟩) rfl (fun K hK => ?_)
  have HK := Lib.hid hK
  clear hK
  have kf := HF.out _ hx
  have kc := (HT.out _ hx).1
  go_simp
  go_wp2_with fail
  refine HK.out _ _ ⟨tl (by kernel_rfl), ?_⟩
  clear HK
  try clear hHeld
  try simp only [Act.put, List.setIfInBounds_toArray, List.set_cons_zero, List.set_cons_succ]
  refine wpAnyT_done (by kernel_rfl) ?_ _
  have Hx := Lib.hid hx
  clear hx kf kc
  go_wp2_with fail
  refine bodyPost_ret (results_none rfl _ _ _) rfl ?_
  rw [Hsn.out] at Hrow2 ⊢
  have key := H3.out.pushS (e := e) Hupd.out Hmap.out Hx.out Hrow2.out (fun ad he => (Hloc.out ad he).imp id (fun h => by simp at h; omega)) (by omega)
  exact ⟨rfl, { g with sa := a', sc := cap' }, rfl, key.1, (Upd.of_below (S := g.own) B3.out).trans key.2.1 (fun _ _ h => h), fun k hk => (key.2.2 k hk).imp id (fun h => by omega)⟩

set_option maxRecDepth 100000 in
set_option maxHeartbeats 1600000 in
theorem addOld (w : World) (B : Nat) (g : SpanA) (ms ss : List Ev) (h : SpanAt w B g ms ss) (hm : ms.length ≤ 1000) (hs : ss.length ≤ 1000) (e : Ev) (he : setsB e = true) (j : Nat) (y0 : Ev) (hfn : fnd (keyE e) (kvs ss 0) 0 = some (j, (j : Int))) (hy0 : ss[j]? = some y0) (hkv : kvs (ss.set j { y0 with d := e.d }) 0 = kvs ss 0) :
    Calls Try.prog 105 #[.pointer (some ⟨g.bs, 0, none⟩), evV e] w (AddTo w B g ms (ss.set j { y0 with d := e.d })) := by
  have hB : B ≤ w.heap.size := by have := h.fr g.bs (.inl rfl); have := obj_lt h.obj; omega
  have b0 : Below w.heap.size w (w.alloc (.cells (evA e) 64)) := (Below.refl _ w).alloc (Nat.le_refl _) _
  have Oe := Lib.hid (alloc_new w (.cells (evA e) 64))
  have H0 := Lib.hid (h.all b0)
  have B0 := Lib.hid b0
  have hbw := h.own_lt
  have Hbw := Lib.hid hbw
  have hz0 : (w.alloc (.cells (evA e) 64)).heap.size = w.heap.size + 1 := by simp
  have hgb := hbw g.bs (.inl rfl)
  obtain ⟨x0, x1, x2, x3, x4, x5⟩ := EvCells.of Oe.out
  have He := Lib.hid he
  clear h b0 hbw he
  go_enter Try.func105, Try.ntmps105
  go_wp2_with fail
  clear x0 x1 x2 x3 x4 x5
  generalize (w.alloc (.cells (evA e) 64)) = w0 at *
  refine (sets _ e).mono ?_
  rintro x w1 ⟨rfl, hb1⟩
  rw [He.out]
  have Oe1 := Lib.hid (below_obj hb1 Oe.out (obj_lt Oe.out))
  have H1 := Lib.hid (H0.out.all hb1)
  have B1 := Lib.hid (B0.out.trans (hb1.mono (by omega)))
  have hw1 := hb1.size
  clear hb1
  have Hfn := Lib.hid hfn
  have hj : j < ss.length := (List.getElem?_eq_some_iff.1 hy0).1
  have Hy0 := Lib.hid hy0
  have Hkv := Lib.hid hkv
  clear hfn hy0 hkv
  have hl : ms.length = ms.length := rfl
  have Hx0 : Below w1.heap.size w1 w1.drew := (Below.refl _ _).drew
  have hx := Hx0
  clear Hx0 hl
  have HT := Lib.hid (fun (x : World) (hb : Below w1.heap.size w1 x) => (⟨(obj_cell (below_obj hb H1.out.obj (obj_lt H1.out.obj)) 2).trans rfl, EvCells.of (below_obj hb Oe1.out (obj_lt Oe1.out))⟩ : x.cell? ⟨g.bs, 2, none⟩ = some (.map (some g.br)) ∧ EvCells x w.heap.size e))
  go_wp2_with fail
  refine wp_region_held_drew (S := fun x => x.cell? ⟨g.bs, 2, none⟩ = some (.map (some g.br)) ∧ x.cell? ⟨w.heap.size, 0, none⟩ = some (.int .i64 e.k) ∧ x.cell? ⟨w.heap.size, 1, none⟩ = some (.int .i64 e.a) ∧ x.cell? ⟨w.heap.size, 2, none⟩ = some (.int .i64 e.b) ∧ x.cell? ⟨w.heap.size, 3, none⟩ = some (.int .i64 e.c) ∧ x.cell? ⟨w.heap.size, 4, none⟩ = some (.int .i64 e.d) ∧ x.cell? ⟨w.heap.size, 5, none⟩ = some (.int .i64 e.e)) (by kernel_rfl) (HT.out _ hx) (fun hHeld => ?_)
  refine wpAnyH_take (i := 0) (oi := ⟨some 20, _, _, _, _, _⟩) (v := ?_) rfl (by kernel_rfl) (by kernel_rfl) (by kernel_rfl) (fun _ _ _ h => h) (Or.inl ⟨by rfl, ?_⟩) hHeld ?_
  rotate_left
  · intro w' hS'
    (try dsimp only at hS')
    go_simp
    try with_reducible rfl
  try simp only [Act.put, List.setIfInBounds_toArray, List.set_cons_zero, List.set_cons_succ]
  refine wpAnyH_take (i := 1) (oi := ⟨some 21, _, _, _, _, _⟩) (v := ?_) rfl (by kernel_rfl) (by kernel_rfl) (by kernel_rfl) (fun _ _ _ h => h) (Or.inl ⟨by rfl, ?_⟩) hHeld ?_
  rotate_left
  · intro w' hS'
    (try dsimp only at hS')
    go_simp
    try with_reducible rfl
  try simp only [Act.put, List.setIfInBounds_toArray, List.set_cons_zero, List.set_cons_succ]
  refine wpAnyH_take (i := 2) (oi := ⟨some 22, _, _, _, _, _⟩) (v := ?_) rfl (by kernel_rfl) (by kernel_rfl) (by kernel_rfl) (fun _ _ _ h => h) (Or.inl ⟨by rfl, ?_⟩) hHeld ?_
  rotate_left
  · intro w' hS'
    (try dsimp only at hS')
    go_simp
    try with_reducible rfl
  try simp only [Act.put, List.setIfInBounds_toArray, List.set_cons_zero, List.set_cons_succ]
  refine wpAnyH_take (i := 3) (oi := ⟨some 23, _, _, _, _, _⟩) (v := ?_) rfl (by kernel_rfl) (by kernel_rfl) (by kernel_rfl) (fun _ _ _ h => h) (Or.inl ⟨by rfl, ?_⟩) hHeld ?_
  rotate_left
  · intro w' hS'
    (try dsimp only at hS')
    go_simp
    try with_reducible rfl
  try simp only [Act.put, List.setIfInBounds_toArray, List.set_cons_zero, List.set_cons_succ]
  refine wpAnyH_take (i := 4) (oi := ⟨some 24, _, _, _, _, _⟩) (v := ?_) rfl (by kernel_rfl) (by kernel_rfl) (by kernel_rfl) (fun _ _ _ h => h) (Or.inl ⟨by rfl, ?_⟩) hHeld ?_
  rotate_left
  · intro w' hS'
    (try dsimp only at hS')
    go_simp
    try with_reducible rfl
  try simp only [Act.put, List.setIfInBounds_toArray, List.set_cons_zero, List.set_cons_succ]
  refine wpAnyH_all (rs := [5]) (by kernel_rfl) (by simp) ?_
  intro ix hix
  obtain rfl : ix = 5 := by simpa using hix
  clear hix
  refine wpOp_step (o := ⟨some 25, _, _, _, _, _⟩) rfl (fun K hK => ?_)
  have HK := Lib.hid hK
  clear hK
  go_simp
  refine (netKey _ e).mono ?_
  rintro x wk ⟨rfl, hb⟩
  replace hx := hx.trans (hb.mono hx.size)
  clear hb
  go_wp2_with fail
  refine HK.out _ _ ⟨(HT.out _ hx), ?_⟩
  clear HK
  try clear hHeld
  have hHeld := (HT.out _ hx)
  try simp only [Act.put, List.setIfInBounds_toArray, List.set_cons_zero, List.set_cons_succ]
  refine wpAnyH_all (rs := [6]) (by kernel_rfl) (by simp) ?_
  intro ix hix
  obtain rfl : ix = 6 := by simpa using hix
  clear hix
  refine wpOp_step (o := ⟨some 26, _, _, _, _, _⟩) rfl (fun K hK => ?_)
  have HK := Lib.hid hK
  clear hK
  have hlu : (Instr.lookup 161 (.map (some g.br)) (kcv3 (keyE e)) true).run Try.prog wk = .ok (.tuple #[.int .i64 (j : Int), .bool true]) wk := by
    have hq := run_lookup_ok_is keyLaw3 Try.underlying161 (H1.out.all hx).map (z := .int .i64 0) (fun w => by kernel_rfl) (keyE e)
    rw [hq]
    unfold has
    rw [Hfn.out]
    rfl
  go_simp
  go_wp2_with fail
  refine HK.out _ _ ⟨(HT.out _ hx), ?_⟩
  clear HK
  try clear hHeld
  have hHeld := (HT.out _ hx)
  try simp only [Act.put, List.setIfInBounds_toArray, List.set_cons_zero, List.set_cons_succ]
  refine wpAnyH_take (i := 7) (oi := ⟨some 19, _, _, _, _, _⟩) (v := ?_) rfl (by kernel_rfl) (by kernel_rfl) (by kernel_rfl) (fun _ _ _ h => h) (Or.inl ⟨by rfl, ?_⟩) hHeld ?_
  rotate_left
  · intro w' hS'
    (try dsimp only at hS')
    go_simp
    try with_reducible rfl
  try simp only [Act.put, List.setIfInBounds_toArray, List.set_cons_zero, List.set_cons_succ]
  refine wpAnyH_take (i := 8) (oi := ⟨some 27, _, _, _, _, _⟩) (v := ?_) rfl (by kernel_rfl) (by kernel_rfl) (by kernel_rfl) (fun _ _ _ h => h) (Or.inl ⟨by rfl, ?_⟩) hHeld ?_
  rotate_left
  · intro w' hS'
    (try dsimp only at hS')
    go_simp
    try with_reducible rfl
  try simp only [Act.put, List.setIfInBounds_toArray, List.set_cons_zero, List.set_cons_succ]
  refine wpAnyH_take (i := 9) (oi := ⟨some 28, _, _, _, _, _⟩) (v := ?_) rfl (by kernel_rfl) (by kernel_rfl) (by kernel_rfl) (fun _ _ _ h => h) (Or.inl ⟨by rfl, ?_⟩) hHeld ?_
  rotate_left
  · intro w' hS'
    (try dsimp only at hS')
    go_simp
    try with_reducible rfl
  try simp only [Act.put, List.setIfInBounds_toArray, List.set_cons_zero, List.set_cons_succ]
  refine wpAnyH_take (i := 10) (oi := ⟨some 4, _, _, _, _, _⟩) (v := ?_) rfl (by kernel_rfl) (by kernel_rfl) (by kernel_rfl) (fun _ _ _ h => h) (Or.inl ⟨by rfl, ?_⟩) hHeld ?_
  rotate_left
  · intro w' hS'
    (try dsimp only at hS')
    go_simp
    try with_reducible rfl
  try simp only [Act.put, List.setIfInBounds_toArray, List.set_cons_zero, List.set_cons_succ]
  refine wpAnyH_take (i := 11) (oi := ⟨some 5, _, _, _, _, _⟩) (v := ?_) rfl (by kernel_rfl) (by kernel_rfl) (by kernel_rfl) (fun _ _ _ h => h) (Or.inl ⟨by rfl, ?_⟩) hHeld ?_
  rotate_left
  · intro w' hS'
    (try dsimp only at hS')
    go_simp
    try with_reducible rfl
  try simp only [Act.put, List.setIfInBounds_toArray, List.set_cons_zero, List.set_cons_succ]
  refine wpAnyH_done (by kernel_rfl) ?_ _
  clear hHeld HT
  have Oe2 := Lib.hid (below_obj hx Oe1.out (obj_lt Oe1.out))
  have H2 := Lib.hid (H1.out.all hx)
  have B2 := Lib.hid (B1.out.trans (hx.mono (by omega)))
  have hw2 := hx.size
  clear hx
  generalize wk = w2 at *
  obtain ⟨sb, so, hsa, hsb, hsc⟩ := H2.out.rs.sl.nonempty (by omega)
  obtain ⟨_, y, hsa2, hy, hyb, hEv⟩ : ∃ b, ∃ y, g.sa = some ⟨b, so, none⟩ ∧ ss[j]? = some y ∧ b = sb ∧ EvAt w2 sb (so + j * 6) y := by
    obtain ⟨b, o, y, h1, h2, h3, h4⟩ := ev_at H2.out.rs.sl hj
    rw [hsa] at h1
    simp at h1
    obtain ⟨rfl, rfl⟩ := h1
    exact ⟨_, y, hsa, h2, rfl, h4⟩
  have kc := hEv.cd
  obtain ⟨_, cur, hcur, _, _⟩ := H2.out.rs.row _ hsa
  have kf := obj_free hcur (so + j * 6 + 4)
  have Hsa := Lib.hid hsa
  have Hsb : sb ≠ w.heap.size := fun hq => by have := Hbw.out sb (.inr (.inr (.inr ⟨_, hsa, rfl⟩))); omega
  obtain ⟨sn, hsn⟩ : ∃ sn, sn = ss.length := ⟨_, rfl⟩
  have Hobj := Lib.hid H2.out.obj
  rw [← hsn, hsa] at Hobj
  have Hsn := Lib.hid hsn
  rw [← hsn] at hj hs
  clear hsn hsa hsa2 hsc hyb hEv hcur
  have hji : (j : Int) < (sn : Int) := by omega
  have HT := Lib.hid (show w2.drew.cell? ⟨g.bs, 1, none⟩ = some (.slice (some ⟨sb, so, none⟩) sn g.sc) ∧ EvCells w2.drew w.heap.size e from ⟨(obj_cell Hobj.out 1).trans rfl, EvCells.of Oe2.out⟩)
  go_wp2_with fail
  refine wp_region_T 9 (fun x => x.cell? ⟨g.bs, 1, none⟩ = some (.slice (some ⟨sb, so, none⟩) sn g.sc) ∧ x.cell? ⟨w.heap.size, 0, none⟩ = some (.int .i64 e.k) ∧ x.cell? ⟨w.heap.size, 1, none⟩ = some (.int .i64 e.a) ∧ x.cell? ⟨w.heap.size, 2, none⟩ = some (.int .i64 e.b) ∧ x.cell? ⟨w.heap.size, 3, none⟩ = some (.int .i64 e.c) ∧ x.cell? ⟨w.heap.size, 4, none⟩ = some (.int .i64 e.d) ∧ x.cell? ⟨w.heap.size, 5, none⟩ = some (.int .i64 e.e)) (by kernel_rfl) HT.out (fun hHeld => ?_)
  refine wpAnyT_takeU (i := 0) (oi := ⟨some 52, _, _, _, _, _⟩) (v := ?_) rfl (by kernel_rfl) (by kernel_rfl) (by kernel_rfl) (by kernel_rfl) (fun _ _ _ h => h) (Or.inl ⟨by rfl, ?_⟩) (fun _ => hHeld) ?_
  rotate_left
  · intro w' hS'
    (try dsimp only at hS')
    go_simp
    try with_reducible rfl
  try simp only [Act.put, List.setIfInBounds_toArray, List.set_cons_zero, List.set_cons_succ]
  refine wpAnyT_takeU (i := 1) (oi := ⟨some 53, _, _, _, _, _⟩) (v := ?_) rfl (by kernel_rfl) (by kernel_rfl) (by kernel_rfl) (by kernel_rfl) (fun _ _ _ h => h) (Or.inl ⟨by rfl, ?_⟩) (fun _ => hHeld) ?_
  rotate_left
  · intro w' hS'
    (try dsimp only at hS')
    go_simp
    try with_reducible rfl
  try simp only [Act.put, List.setIfInBounds_toArray, List.set_cons_zero, List.set_cons_succ]
  refine wpAnyT_takeU (i := 2) (oi := ⟨some 54, _, _, _, _, _⟩) (v := ?_) rfl (by kernel_rfl) (by kernel_rfl) (by kernel_rfl) (by kernel_rfl) (fun _ _ _ h => h) (Or.inl ⟨by rfl, ?_⟩) (fun _ => hHeld) ?_
  rotate_left
  · intro w' hS'
    (try dsimp only at hS')
    go_simp
    try with_reducible rfl
  try simp only [Act.put, List.setIfInBounds_toArray, List.set_cons_zero, List.set_cons_succ]
  refine wpAnyT_take (i := 3) (oi := ⟨some 55, _, _, _, _, _⟩) (v := ?_) rfl (by kernel_rfl) (by kernel_rfl) (by kernel_rfl) (by kernel_rfl) (fun _ _ _ h => h) (Or.inl ⟨by rfl, ?_⟩) hHeld ?_
  rotate_left
  · intro w' hS'
    (try dsimp only at hS')
    go_simp
    try with_reducible rfl
  try simp only [Act.put, List.setIfInBounds_toArray, List.set_cons_zero, List.set_cons_succ]
  refine wpAnyT_takeU (i := 4) (oi := ⟨some 56, _, _, _, _, _⟩) (v := ?_) rfl (by kernel_rfl) (by kernel_rfl) (by kernel_rfl) (by kernel_rfl) (fun _ _ _ h => h) (Or.inl ⟨by rfl, ?_⟩) (fun _ => hHeld) ?_
  rotate_left
  · intro w' hS'
    (try dsimp only at hS')
    go_simp
    try with_reducible rfl
  try simp only [Act.put, List.setIfInBounds_toArray, List.set_cons_zero, List.set_cons_succ]
  refine wpAnyT_takeU (i := 5) (oi := ⟨some 57, _, _, _, _, _⟩) (v := ?_) rfl (by kernel_rfl) (by kernel_rfl) (by kernel_rfl) (by kernel_rfl) (fun _ _ _ h => h) (Or.inl ⟨by rfl, ?_⟩) (fun _ => hHeld) ?_
  rotate_left
  · intro w' hS'
    (try dsimp only at hS')
    go_simp
    try with_reducible rfl
  try simp only [Act.put, List.setIfInBounds_toArray, List.set_cons_zero, List.set_cons_succ]
  refine wpAnyT_take (i := 6) (oi := ⟨some 58, _, _, _, _, _⟩) (v := ?_) rfl (by kernel_rfl) (by kernel_rfl) (by kernel_rfl) (by kernel_rfl) (fun _ _ _ h => h) (Or.inl ⟨by rfl, ?_⟩) hHeld ?_
  rotate_left
  · intro w' hS'
    (try dsimp only at hS')
    go_simp
    try with_reducible rfl
  try simp only [Act.put, List.setIfInBounds_toArray, List.set_cons_zero, List.set_cons_succ]
  refine wpAnyT_takeU (i := 7) (oi := ⟨some 59, _, _, _, _, _⟩) (v := ?_) rfl (by kernel_rfl) (by kernel_rfl) (by kernel_rfl) (by kernel_rfl) (fun _ _ _ h => h) (Or.inl ⟨by rfl, ?_⟩) (fun _ => hHeld) ?_
  rotate_left
  · intro w' hS'
    (try dsimp only at hS')
    go_simp
    try with_reducible rfl
  try simp only [Act.put, List.setIfInBounds_toArray, List.set_cons_zero, List.set_cons_succ]
  refine wpAnyT_takeU (i := 8) (oi := ⟨some 60, _, _, _, _, _⟩) (v := ?_) rfl (by kernel_rfl) (by kernel_rfl) (by kernel_rfl) (by kernel_rfl) (fun _ _ _ h => h) (Or.inl ⟨by rfl, ?_⟩) (fun _ => hHeld) ?_
  rotate_left
  · intro w' hS'
    (try dsimp only at hS')
    go_simp
    try with_reducible rfl
  try simp only [Act.put, List.setIfInBounds_toArray, List.set_cons_zero, List.set_cons_succ]
  refine wpAnyT_all (rs := [9]) (by kernel_rfl) (by simp) ?_
  intro ix hix
  obtain rfl : ix = 9 := by simpa using hix
  clear hix
  refine wpOp_step (o := ⟨none, _, _, _, _, _⟩) rfl (fun K hK => ?_)
  have HK := Lib.hid hK
  clear hK
  go_simp
  go_wp2_with fail
  refine HK.out _ _ ⟨tl (by kernel_rfl), ?_⟩
  clear HK
  try clear hHeld
  try simp only [Act.put, List.setIfInBounds_toArray, List.set_cons_zero, List.set_cons_succ]
  refine wpAnyT_done (by kernel_rfl) ?_ _
  clear kf kc HT
  go_wp2_with fail
  refine bodyPost_ret (results_none rfl _ _ _) rfl ?_
  have key := SpanAt.setD (w1 := w2.drew) (H2.out.all (Below.refl _ _).drew) e.d Hsa.out Hy0.out Hkv.out
  exact ⟨rfl, g, rfl, key.1, (Upd.of_below (S := g.own) (B2.out.drew)).trans key.2 (fun _ _ h => h), fun k hk => .inl hk⟩

theorem netAdd (w : World) (B : Nat) (g : SpanA) (ms ss : List Ev) (h : SpanAt w B g ms ss) (hm : ms.length ≤ 1000) (hs : ss.length ≤ 1000) (e : Ev) :
    Calls Try.prog 105 #[.pointer (some ⟨g.bs, 0, none⟩), evV e] w (AddTo w B g (addM ms e) (addT ss e)) := by
  unfold addM addT
  cases he : setsB e with
  | false => exact addMove w B g ms ss h hm hs e he
  | true =>
    simp only [if_true]
    cases hf : fnd (keyE e) (kvs ss 0) 0 with
    | none =>
      rw [addS_new 0 0 hf]
      exact addNew w B g ms ss h hm hs e he hf
    | some x =>
      obtain ⟨j, u⟩ := x
      obtain ⟨k, y, rfl, rfl, h1, h2, h3⟩ := addS_old 0 0 j u hf
      rw [h2] at h3 ⊢
      exact addOld w B g ms ss h hm hs e he k y (by simpa using hf) h1 h3
end Go.Proofs.Ytpbocficffbcbaa
namespace Go.Proofs.Ytpbocficffbcbaa
open Go Go.RowKit
set_option linter.unusedVariables false

theorem GrE.app {B : Nat} {w wr w' : World} {m : Value} {n : Nat} {ys zs : List Ev} {a a' : Option Addr} {c c' k : Nat} (h : GrE B w wr m n ys a c) (hu : Upd (blk a) wr w') (hl : ∀ ad, a' = some ad → a = some ad ∨ wr.heap.size ≤ ad.block) (hk : zs.length = k)
    (hr : RowAt w' 64 6 a' (n + k) c' (evs ys ++ evs zs)) : GrE B w w' (.slice a' (n + k) c') (n + k) (ys ++ zs) a' c' where
  len := by rw [List.length_append, h.len, hk]
  m := rfl
  row := by simpa [evs] using hr
  fr := h.fr.step h.le hl
  bel := h.bel.trans (appendBelow h.fr h.le hu)
  le := Nat.le_trans h.le hu.size
theorem GrE.other {S : Nat → Prop} {B : Nat} {w wr w' : World} {m : Value} {n : Nat} {ys : List Ev} {a : Option Addr} {c : Nat} (h : GrE B w wr m n ys a c) (hu : Upd S wr w') (hd : ∀ k, blk a k → ¬ S k) (hB : ∀ k, S k → B ≤ k) : GrE B w w' m n ys a c where
  len := h.len
  m := h.m
  row := h.row.upd hu (fun ad he => hd _ ⟨ad, he, rfl⟩)
  fr := h.fr
  bel := h.bel.trans (hu.below h.le (fun k hk hs => by have := hB k hs; omega))
  le := Nat.le_trans h.le hu.size
theorem SpanAt.mono {w : World} {B C : Nat} {g : SpanA} {ms ss : List Ev} (h : SpanAt w B g ms ss) (hC : C ≤ B) : SpanAt w C g ms ss := ⟨h.obj, h.rm, h.rs, h.map, h.dis, fun k hk => Nat.le_trans hC (h.fr k hk)⟩
theorem addM_len (ms : List Ev) (e : Ev) : (addM ms e).length + (if setsB e then 1 else 0) = ms.length + 1 := by unfold addM; split <;> simp
theorem addS_len (ss : List Ev) (e : Ev) : (addS ss e).length ≤ ss.length + 1 := by
  induction ss with
  | nil => simp [addS]
  | cons x t ih => simp only [addS]; split <;> simp; omega
theorem add_len (ms ss : List Ev) (e : Ev) : (addM ms e).length + (addT ss e).length ≤ ms.length + ss.length + 1 := by
  have := addS_len ss e
  unfold addM addT
  split
  · omega
  · simp; omega
theorem endS_len (ms ss : List Ev) : (endS ms ss).length ≤ ms.length + ss.length := by
  have := List.length_filter_le leftE ss
  simp [endS]; omega

set_option maxRecDepth 100000 in
set_option maxHeartbeats 800000 in
theorem netEnd (w : World) (B : Nat) (g : SpanA) (ms ss : List Ev) (h : SpanAt w B g ms ss) (hm : ms.length ≤ 1000) (hs : ss.length ≤ 1000) :
    Calls Try.prog 104 #[.pointer (some ⟨g.bs, 0, none⟩)] w (NewEvs w (endS ms ss)) := by
  have y0 : w.cell? ⟨g.bs, 0, none⟩ = some (.slice g.ma ms.length g.mc) := (obj_cell h.obj 0).trans rfl
  have hob := Lib.hid h.obj
  have Hrs := Lib.hid h.rs
  have hrm := h.rm.sl
  obtain ⟨mn, hmn⟩ : ∃ mn, mn = ms.length := ⟨_, rfl⟩
  obtain ⟨sn, hsn⟩ : ∃ sn, sn = ss.length := ⟨_, rfl⟩
  rw [← hmn] at y0 hob hrm hm
  rw [← hsn] at hob Hrs hs
  have Hmn := Lib.hid hmn
  have Hsn := Lib.hid hsn
  clear h hmn hsn
  go_enter Try.func104, Try.ntmps104
  go_wp2_with fail
  refine (cloneEvs _ _ _ _ _ hrm (by omega)).mono ?_
  rintro x w1 ⟨a1, c1, rfl, hr1, hf1, hb1, hn1⟩
  have y1 : w1.cell? ⟨g.bs, 1, none⟩ = some (.slice g.sa sn g.sc) := (obj_cell (below_obj hb1 hob.out (obj_lt hob.out)) 1).trans rfl
  have Hg := Lib.hid (show GrE w.heap.size w w1 (.slice a1 mn c1) mn ms a1 c1 from ⟨Hmn.out.symm, rfl, hr1, hf1, hb1, hb1.size⟩)
  clear hr1 hf1 hb1 hn1 hrm y0
  go_wp2_with fail
  clear y1
  go_loopw [3, 16] (fun m v wr => ∃ j : Nat, v = .int .i64 j ∧ j ≤ sn ∧ ∃ ys a' c', ys = ms ++ (ss.take j).filter leftE ∧ ys.length ≤ mn + j ∧ GrE w.heap.size w wr m ys.length ys a' c') (fun _ v _ => sn - (intOf v).toNat)
  case atStart => exact ⟨0, rfl, by omega, ms, a1, c1, by simp, by rw [← Hmn.out]; omega, by rw [← Hmn.out]; exact Hg.out⟩
  case round =>
    obtain ⟨j, rfl, hj, ys, a', c', hys, hyl, hg⟩ := hrel
    have Hys := Lib.hid hys
    clear hys
    by_cases hlt : j < sn
    · obtain ⟨b1, o1, x, hsa, hx, hb1, hev⟩ := ev_at (Hrs.out.sl.all hg.bel) hlt
      obtain ⟨xk, xa, xb, xc, xd, xe⟩ := hev
      have hsa1 := hsa
      have Htk := Lib.hid (ev_take hx)
      clear hx
      obtain rfl := hg.m
      have g2 := hg.step ((Below.refl _ wr).alloc (Nat.le_refl _) (.cells (evA x) 64))
      obtain ⟨yn, hyn⟩ : ∃ yn, yn = ys.length := ⟨_, rfl⟩
      rw [← hyn] at hyl g2 hg ⊢
      have Hyn := Lib.hid hyn
      have hxe := EvCells.of (alloc_new wr (.cells (evA x) 64))
      obtain ⟨z0, z1, z2, z3, z4, z5⟩ := hxe
      have Hg2 := Lib.hid g2
      clear hyn g2 hg
      rw [hsa1]
      by_cases hcd : x.c = x.d
      · have hne : (x.c != x.d) = false := by simp [hcd]
        have Hf := Lib.hid (show leftE x = false by simp [leftE, hcd])
        clear hcd
        go_wp2_with fail
        go_roundw
        case rel => exact ⟨j + 1, rfl, by omega, ys, a', c', by rw [Htk.out, List.filter_append, Hys.out]; simp [Hf.out], by rw [← Hyn.out]; omega, by rw [← Hyn.out]; exact Hg2.out⟩
        case measure => first | (simp [intOf]; done) | (simp [intOf]; omega)
      · have hne : (x.c != x.d) = true := by simp [hcd]
        have Hf := Lib.hid (show leftE x = true by simp [leftE, hcd])
        clear hcd
        have hlit := (RowAt.lit (wr.alloc (.cells (evA x) 64)) (evA x) 64 6 1 (by decide) rfl (by simp [Value.oneCell'])).sl
        rw [World.size_alloc] at hlit
        have Hlit := Lib.hid hlit
        clear hlit
        go_wp2_with (at_builtin; refine wp_append rfl (.tmp 25) (.tmp 27) 40 rfl 64 (.agg #[.int .i64 0, .int .i64 0, .int .i64 0, .int .i64 0, .int .i64 0, .int .i64 0]) 6 48 Try.underlying40 Try.infoEv rfl (by decide) rfl rfl (Hg2.out.row.alloc _) Hlit.out (by unfold maxLen; omega) (by omega) ?_; intro a3 c3 W3 hrow3 hupd3 hloc3 hnil3; have g3 := Lib.hid (Hg2.out.snoc (x := x) hupd3 hloc3 hrow3))
        go_roundw
        case rel => exact ⟨j + 1, rfl, by omega, ys ++ [x], a3, c3, by rw [Htk.out, List.filter_append, Hys.out]; simp [Hf.out], by simp; rw [← Hyn.out]; omega, by simp; rw [← Hyn.out]; exact g3.out⟩
        case measure => first | (simp [intOf]; done) | (simp [intOf]; omega)
    · obtain rfl : j = sn := by omega
      have hfin : ys = endS ms ss := by rw [Hys.out, List.take_of_length_le (by rw [← Hsn.out]; omega)]; rfl
      subst hfin
      obtain rfl := hg.m
      have Hg := Lib.hid hg
      clear hg
      go_wp2_with fail
      go_ret
      exact ⟨a', c', rfl, Hg.out.row, Hg.out.fr, Hg.out.bel⟩
end Go.Proofs.Ytpbocficffbcbaa
namespace Go.Proofs.Ytpbocficffbcbaa
open Go Go.RowKit
set_option linter.unusedVariables false
set_option linter.unusedSimpArgs false

set_option maxRecDepth 100000 in
set_option maxHeartbeats 3200000 in
theorem netNet (w : World) (a : Option Addr) (n cap : Nat) (l : List Ev) (h : SlAt w 6 a n cap (evs l)) (hn : n ≤ 500) :
    Calls Try.prog 70 #[.slice a n cap] w (NewEvs w (netF l)) := by
  have Hln := Lib.hid (ev_len h)
  have Hl := Lib.hid h
  clear h
  go_enter Try.func70, Try.ntmps70
  go_wp2_with fail
  refine (netBegin _).mono ?_
  rintro x w1 ⟨g1, rfl, hs1, hb1⟩
  have Hs1 := Lib.hid hs1
  have Hg1 := Lib.hid (GrE.null w |>.step hb1)
  clear hs1 hb1
  go_wp2_with fail
  go_loopw [3, 4, 10] (fun m p v wr => ∃ j : Nat, v = .int .i64 j ∧ j ≤ n ∧ ∃ out ms ss g a' c', netG [] [] [] l = netG out ms ss (l.drop j) ∧ GrE w.heap.size w wr m out.length out a' c' ∧ p = .pointer (some ⟨SpanA.bs g, 0, none⟩) ∧ SpanAt wr w.heap.size g ms ss ∧ (∀ k, blk a' k → ¬ SpanA.own g k) ∧ out.length + ms.length + ss.length ≤ j) (fun _ _ v _ => n - (intOf v).toNat)
  case atStart => exact ⟨0, rfl, by omega, [], [], [], g1, none, 0, rfl, Hg1.out, rfl, Hs1.out, fun k hk => (by obtain ⟨ad, he, _⟩ := hk; cases he), by simp⟩
  case round =>
    obtain ⟨j, rfl, hj, out, ms, ss, g, a1, c1, hnet, hg, rfl, hsp, hdis, hlen⟩ := hrel
    have Hnet := Lib.hid hnet
    have Hsp := Lib.hid hsp
    have Hdis := Lib.hid hdis
    obtain rfl := hg.m
    obtain ⟨on, hon⟩ : ∃ on, on = out.length := ⟨_, rfl⟩
    rw [← hon] at hg hlen ⊢
    have Hon := Lib.hid hon
    have Hg := Lib.hid hg
    have hgl := hg.le
    clear hnet hg hsp hdis hon
    by_cases hlt : j < n
    · obtain ⟨b1, o1, x, rfl, hx, hb1, ⟨xk, xa, xb, xc, xd, xe⟩⟩ := ev_at (Hl.out.all Hg.out.bel) hlt
      have hdr : l.drop j = x :: l.drop (j + 1) := by
        obtain ⟨hk, rfl⟩ := List.getElem?_eq_some_iff.1 hx
        exact List.drop_eq_getElem_cons hk
      have Hdr := Lib.hid hdr
      clear hx hdr
      obtain ⟨z0, z1, z2, z3, z4, z5⟩ := EvCells.of (alloc_new wr (.cells (evA x) 64))
      have Oe := Lib.hid (alloc_new wr (.cells (evA x) 64))
      have hb2 := (Below.refl _ wr).alloc (Nat.le_refl _) (.cells (evA x) 64)
      have Hb2 := Lib.hid hb2
      clear hb2
      go_wp2_with fail
      clear z0 z1 z2 z3 z4 z5 xk xa xb xc xd xe
      generalize (wr.alloc (.cells (evA x) 64)) = w2 at *
      refine (cuts _ x).mono ?_
      rintro y w3 ⟨rfl, hb3⟩
      have Hb3 := Lib.hid (Hb2.out.trans (hb3.mono Hb2.out.size))
      have Oe3 := Lib.hid (below_obj hb3 Oe.out (obj_lt Oe.out))
      have Hsp3 := Lib.hid (Hsp.out.all Hb3.out)
      have Hg3 := Lib.hid (Hg.out.step Hb3.out)
      have hw3 := Hb3.out.size
      have hwe := obj_lt Oe3.out
      clear hb3
      obtain ⟨mb, hmb⟩ : ∃ mb, mb = makesB x := ⟨_, rfl⟩
      rw [← hmb]
      have Hmb := Lib.hid hmb
      clear hmb
      cases mb
      · obtain ⟨z0, z1, z2, z3, z4, z5⟩ := EvCells.of Oe3.out
        go_wp2_with fail
        clear z0 z1 z2 z3 z4 z5
        refine (netAdd _ _ g ms ss Hsp3.out (by omega) (by omega) x).mono ?_
        rintro y w4 ⟨rfl, g', hbs, hsp4, hu, hown⟩
        have Hsp4 := Lib.hid hsp4
        have Hg4 := Lib.hid (Hg3.out.other hu Hdis.out Hsp3.out.fr)
        have Hown := Lib.hid hown
        rw [← hbs]
        clear hsp4 hu hown
        go_wp2_with fail
        go_roundw
        case rel => exact ⟨j + 1, rfl, by omega, out, addM ms x, addT ss x, g', a1, c1, by rw [Hnet.out, Hdr.out]; simp only [netG, ← Hmb.out, Bool.false_eq_true, if_false], by rw [← Hon.out]; exact Hg4.out, by first | rfl | rw [hbs], Hsp4.out, fun k hk hq => (Hown.out k hq).elim (Hdis.out k hk) (fun h => by obtain ⟨ad, he, rfl⟩ := hk; have := Hg3.out.row.lt ad he; omega), by have := add_len ms ss x; rw [← Hon.out]; omega⟩
        case measure => first | (simp [intOf]; done) | (simp [intOf]; omega)
      · obtain ⟨es, hes⟩ : ∃ es, es = endS ms ss := ⟨_, rfl⟩
        obtain ⟨en, hen⟩ : ∃ en, en = es.length := ⟨_, rfl⟩
        have hel : en ≤ ms.length + ss.length := by have := endS_len ms ss; rw [hen, hes]; exact this
        have Hes := Lib.hid hes
        have Hen := Lib.hid hen
        clear hes hen
        have Hnw := Lib.hid (show ¬ blk a1 wr.heap.size from fun hq => by obtain ⟨ad, he, hq⟩ := hq; have := Hg.out.row.lt ad he; omega)
        have Hnz := Lib.hid (show ∀ k, blk a1 k → k < w3.heap.size from fun k hq => by obtain ⟨ad, he, rfl⟩ := hq; exact Hg3.out.row.lt ad he)
        have hx : Upd (blk a1) w3 w3.drew := (Upd.refl _ _).drew
        have HG := Lib.hid (Hg3.out.step (Below.refl _ w3).drew)
        have HT := Lib.hid (fun (y : World) (hu : Upd (blk a1) w3 y) => EvCells.of (hu.obj Oe3.out Hnw.out))
        go_wp2_with fail
        refine wp_region_held_drew (S := fun y => y.cell? ⟨wr.heap.size, 0, none⟩ = some (.int .i64 x.k) ∧ y.cell? ⟨wr.heap.size, 1, none⟩ = some (.int .i64 x.a) ∧ y.cell? ⟨wr.heap.size, 2, none⟩ = some (.int .i64 x.b) ∧ y.cell? ⟨wr.heap.size, 3, none⟩ = some (.int .i64 x.c) ∧ y.cell? ⟨wr.heap.size, 4, none⟩ = some (.int .i64 x.d) ∧ y.cell? ⟨wr.heap.size, 5, none⟩ = some (.int .i64 x.e)) (by kernel_rfl) (HT.out _ hx) (fun hHeld => ?_)
        refine wpAnyH_take (i := 0) (oi := ⟨some 16, _, _, _, _, _⟩) (v := ?_) rfl (by kernel_rfl) (by kernel_rfl) (by kernel_rfl) (fun _ _ _ h => h) (Or.inl ⟨by rfl, ?_⟩) hHeld ?_
        rotate_left
        · intro w' hS'
          (try dsimp only at hS')
          go_simp
          try with_reducible rfl
        try simp only [Act.put, List.setIfInBounds_toArray, List.set_cons_zero, List.set_cons_succ]
        refine wpAnyH_take (i := 1) (oi := ⟨some 17, _, _, _, _, _⟩) (v := ?_) rfl (by kernel_rfl) (by kernel_rfl) (by kernel_rfl) (fun _ _ _ h => h) (Or.inl ⟨by rfl, ?_⟩) hHeld ?_
        rotate_left
        · intro w' hS'
          (try dsimp only at hS')
          go_simp
          try with_reducible rfl
        try simp only [Act.put, List.setIfInBounds_toArray, List.set_cons_zero, List.set_cons_succ]
        refine wpAnyH_take (i := 4) (oi := ⟨some 20, _, _, _, _, _⟩) (v := ?_) rfl (by kernel_rfl) (by kernel_rfl) (by kernel_rfl) (fun _ _ _ h => h) (Or.inl ⟨by rfl, ?_⟩) hHeld ?_
        rotate_left
        · intro w' hS'
          (try dsimp only at hS')
          go_simp
          try with_reducible rfl
        try simp only [Act.put, List.setIfInBounds_toArray, List.set_cons_zero, List.set_cons_succ]
        refine wpAnyH_all (rs := [2, 5]) (by kernel_rfl) (by simp) ?_
        intro ix hix
        have hix' : ix = 2 ∨ ix = 5 := by simpa using hix
        clear hix
        rcases hix' with rfl | rfl
        · skip
          refine wpOp_step (o := ⟨some 18, _, _, _, _, _⟩) rfl (fun K hK => ?_)
          have HK := Lib.hid hK
          clear hK
          go_simp
          refine (netEnd _ _ g ms ss (Hsp3.out.upd hx (fun k hk hq => Hdis.out k hq hk)) (by omega) (by omega)).mono ?_
          rw [← Hes.out]
          rintro y w4 ⟨ae, ce, rfl, hre, hfe, hb⟩
          rw [← Hen.out] at hre ⊢
          have Hre := Lib.hid hre.sl
          have HG := Lib.hid (HG.out.step hb)
          have hs4 := hb.size
          have hxs := hx.size
          replace hx := hx.trans (Upd.of_below (S := fun _ => False) hb) (fun _ _ f => f.elim)
          clear hre hfe hb
          go_wp2_with fail
          refine HK.out _ _ ⟨(HT.out _ hx), ?_⟩
          clear HK
          try clear hHeld
          have hHeld := (HT.out _ hx)
          try simp only [Act.put, List.setIfInBounds_toArray, List.set_cons_zero, List.set_cons_succ]
          refine wpAnyH_all (rs := [3, 5]) (by kernel_rfl) (by simp) ?_
          intro ix hix
          have hix' : ix = 3 ∨ ix = 5 := by simpa using hix
          clear hix
          rcases hix' with rfl | rfl
          · skip
            refine wpOp_step (o := ⟨some 19, _, _, _, _, _⟩) rfl (fun K hK => ?_)
            have HK := Lib.hid hK
            clear hK
            refine step_append_row rfl (.tmp 16) (.tmp 18) 40 rfl 64 (.agg #[.int .i64 0, .int .i64 0, .int .i64 0, .int .i64 0, .int .i64 0, .int .i64 0]) 6 48 Try.underlying40 Try.infoEv rfl (by decide) rfl rfl HG.out.row Hre.out (by unfold maxLen; omega) (by omega) ?_
            intro a2 c2 w5 hrow hupd hloc hnil
            have hs5 := hupd.size
            replace hx := hx.trans hupd (fun _ _ h => h)
            have Hloc := Lib.hid hloc
            have HG := Lib.hid (HG.out.app hupd hloc Hen.out.symm hrow)
            clear hrow hupd hloc hnil
            refine HK.out _ _ ⟨(HT.out _ hx), ?_⟩
            clear HK
            try clear hHeld
            have hHeld := (HT.out _ hx)
            try simp only [Act.put, List.setIfInBounds_toArray, List.set_cons_zero, List.set_cons_succ]
            refine wpAnyH_all (rs := [5]) (by kernel_rfl) (by simp) ?_
            intro ix hix
            obtain rfl : ix = 5 := by simpa using hix
            clear hix
            refine wpOp_step (o := ⟨some 21, _, _, _, _, _⟩) rfl (fun K hK => ?_)
            have HK := Lib.hid hK
            clear hK
            go_simp
            replace hx := hx.alloc (.cells (evA x) 64)
            have HG := Lib.hid (HG.out.step ((Below.refl _ w5).alloc (Nat.le_refl _) (.cells (evA x) 64)))
            have Hlit := Lib.hid ((RowAt.lit w5 (evA x) 64 6 1 (by decide) rfl (by simp [Value.oneCell'])).sl)
            go_wp2_with fail
            refine HK.out _ _ ⟨(HT.out _ hx), ?_⟩
            clear HK
            try clear hHeld
            have hHeld := (HT.out _ hx)
            try simp only [Act.put, List.setIfInBounds_toArray, List.set_cons_zero, List.set_cons_succ]
            refine wpAnyH_all (rs := [6]) (by kernel_rfl) (by simp) ?_
            intro ix hix
            obtain rfl : ix = 6 := by simpa using hix
            clear hix
            refine wpOp_step (o := ⟨some 22, _, _, _, _, _⟩) rfl (fun K hK => ?_)
            have HK := Lib.hid hK
            clear hK
            refine step_append_row rfl (.tmp 19) (.tmp 21) 40 rfl 64 (.agg #[.int .i64 0, .int .i64 0, .int .i64 0, .int .i64 0, .int .i64 0, .int .i64 0]) 6 48 Try.underlying40 Try.infoEv rfl (by decide) rfl rfl HG.out.row Hlit.out (by unfold maxLen; omega) (by omega) ?_
            intro a3 c3 w6 hrow hupd hloc hnil
            have HG := Lib.hid (HG.out.app (zs := [x]) hupd hloc rfl hrow)
            replace hx := hx.trans hupd (fun k hk hq => (blk_loc Hloc.out hq).elim id (fun h => by (try simp at h); omega))
            clear hrow hupd hloc hnil
            refine HK.out _ _ ⟨(HT.out _ hx), ?_⟩
            clear HK
            try clear hHeld
            have hHeld := (HT.out _ hx)
            try simp only [Act.put, List.setIfInBounds_toArray, List.set_cons_zero, List.set_cons_succ]
            refine wpAnyH_take (i := 7) (oi := ⟨some 3, _, _, _, _, _⟩) (v := ?_) rfl (by kernel_rfl) (by kernel_rfl) (by kernel_rfl) (fun _ _ _ h => h) (Or.inl ⟨by rfl, ?_⟩) hHeld ?_
            rotate_left
            · intro w' hS'
              (try dsimp only at hS')
              go_simp
              try with_reducible rfl
            try simp only [Act.put, List.setIfInBounds_toArray, List.set_cons_zero, List.set_cons_succ]
            refine wpAnyH_done (by kernel_rfl) ?_ _
            clear hHeld HT
            go_wp2_with fail
            refine (netBegin _).mono ?_
            rintro y w7 ⟨g', rfl, hsp7, hb7⟩
            have Hsp7 := Lib.hid hsp7
            have HG7 := Lib.hid (HG.out.step hb7)
            have hlt6 := HG.out.row.lt
            have Hlt6 := Lib.hid hlt6
            have hs7 := HG.out.le
            clear hsp7 hb7 hlt6
            go_wp2_with fail
            go_roundw
            case rel => exact ⟨j + 1, rfl, by omega, out ++ es ++ [x], [], [], g', a3, c3, by rw [Hnet.out, Hdr.out]; simp only [netG, ← Hmb.out, if_true, Hes.out], HG7.out.to _ _ (show on + en + 1 = (out ++ es ++ [x]).length by rw [List.length_append, List.length_append, ← Hon.out, ← Hen.out]; rfl) rfl, rfl, Hsp7.out.mono hs7, fun k hk hq => (by obtain ⟨ad, he, rfl⟩ := hk; have h1 := Hlt6.out ad he; have h2 := Hsp7.out.fr _ hq; omega), by simp; rw [← Hon.out, ← Hen.out]; omega⟩
            case measure => first | (simp [intOf]; done) | (simp [intOf]; omega)
          · skip
            refine wpOp_step (o := ⟨some 21, _, _, _, _, _⟩) rfl (fun K hK => ?_)
            have HK := Lib.hid hK
            clear hK
            go_simp
            replace hx := hx.alloc (.cells (evA x) 64)
            have HG := Lib.hid (HG.out.step ((Below.refl _ w4).alloc (Nat.le_refl _) (.cells (evA x) 64)))
            have Hlit := Lib.hid ((RowAt.lit w4 (evA x) 64 6 1 (by decide) rfl (by simp [Value.oneCell'])).sl)
            have Hre := Lib.hid (Hre.out.alloc (.cells (evA x) 64))
            have hlp : ∀ ad, some (⟨w4.heap.size, 0, none⟩ : Addr) = some ad → 0 < 1 → ¬ blk a1 ad.block := fun ad he _ hq => by obtain rfl := Option.some.inj he; have := Hnz.out _ hq; simp at this; omega
            go_wp2_with fail
            refine HK.out _ _ ⟨(HT.out _ hx), ?_⟩
            clear HK
            try clear hHeld
            have hHeld := (HT.out _ hx)
            try simp only [Act.put, List.setIfInBounds_toArray, List.set_cons_zero, List.set_cons_succ]
            refine wpAnyH_all (rs := [3]) (by kernel_rfl) (by simp) ?_
            intro ix hix
            obtain rfl : ix = 3 := by simpa using hix
            clear hix
            refine wpOp_step (o := ⟨some 19, _, _, _, _, _⟩) rfl (fun K hK => ?_)
            have HK := Lib.hid hK
            clear hK
            refine step_append_row rfl (.tmp 16) (.tmp 18) 40 rfl 64 (.agg #[.int .i64 0, .int .i64 0, .int .i64 0, .int .i64 0, .int .i64 0, .int .i64 0]) 6 48 Try.underlying40 Try.infoEv rfl (by decide) rfl rfl HG.out.row Hre.out (by unfold maxLen; omega) (by omega) ?_
            intro a2 c2 w5 hrow hupd hloc hnil
            have Hlit := Lib.hid (Hlit.out.upd hupd hlp)
            have hs5 := hupd.size
            replace hx := hx.trans hupd (fun _ _ h => h)
            have Hloc := Lib.hid hloc
            have HG := Lib.hid (HG.out.app hupd hloc Hen.out.symm hrow)
            clear hrow hupd hloc hnil
            refine HK.out _ _ ⟨(HT.out _ hx), ?_⟩
            clear HK
            try clear hHeld
            have hHeld := (HT.out _ hx)
            try simp only [Act.put, List.setIfInBounds_toArray, List.set_cons_zero, List.set_cons_succ]
            refine wpAnyH_all (rs := [6]) (by kernel_rfl) (by simp) ?_
            intro ix hix
            obtain rfl : ix = 6 := by simpa using hix
            clear hix
            refine wpOp_step (o := ⟨some 22, _, _, _, _, _⟩) rfl (fun K hK => ?_)
            have HK := Lib.hid hK
            clear hK
            refine step_append_row rfl (.tmp 19) (.tmp 21) 40 rfl 64 (.agg #[.int .i64 0, .int .i64 0, .int .i64 0, .int .i64 0, .int .i64 0, .int .i64 0]) 6 48 Try.underlying40 Try.infoEv rfl (by decide) rfl rfl HG.out.row Hlit.out (by unfold maxLen; omega) (by omega) ?_
            intro a3 c3 w6 hrow hupd hloc hnil
            have HG := Lib.hid (HG.out.app (zs := [x]) hupd hloc rfl hrow)
            replace hx := hx.trans hupd (fun k hk hq => (blk_loc Hloc.out hq).elim id (fun h => by (try simp at h); omega))
            clear hrow hupd hloc hnil
            refine HK.out _ _ ⟨(HT.out _ hx), ?_⟩
            clear HK
            try clear hHeld
            have hHeld := (HT.out _ hx)
            try simp only [Act.put, List.setIfInBounds_toArray, List.set_cons_zero, List.set_cons_succ]
            refine wpAnyH_take (i := 7) (oi := ⟨some 3, _, _, _, _, _⟩) (v := ?_) rfl (by kernel_rfl) (by kernel_rfl) (by kernel_rfl) (fun _ _ _ h => h) (Or.inl ⟨by rfl, ?_⟩) hHeld ?_
            rotate_left
            · intro w' hS'
              (try dsimp only at hS')
              go_simp
              try with_reducible rfl
            try simp only [Act.put, List.setIfInBounds_toArray, List.set_cons_zero, List.set_cons_succ]
            refine wpAnyH_done (by kernel_rfl) ?_ _
            clear hHeld HT
            go_wp2_with fail
            refine (netBegin _).mono ?_
            rintro y w7 ⟨g', rfl, hsp7, hb7⟩
            have Hsp7 := Lib.hid hsp7
            have HG7 := Lib.hid (HG.out.step hb7)
            have hlt6 := HG.out.row.lt
            have Hlt6 := Lib.hid hlt6
            have hs7 := HG.out.le
            clear hsp7 hb7 hlt6
            go_wp2_with fail
            go_roundw
            case rel => exact ⟨j + 1, rfl, by omega, out ++ es ++ [x], [], [], g', a3, c3, by rw [Hnet.out, Hdr.out]; simp only [netG, ← Hmb.out, if_true, Hes.out], HG7.out.to _ _ (show on + en + 1 = (out ++ es ++ [x]).length by rw [List.length_append, List.length_append, ← Hon.out, ← Hen.out]; rfl) rfl, rfl, Hsp7.out.mono hs7, fun k hk hq => (by obtain ⟨ad, he, rfl⟩ := hk; have h1 := Hlt6.out ad he; have h2 := Hsp7.out.fr _ hq; omega), by simp; rw [← Hon.out, ← Hen.out]; omega⟩
            case measure => first | (simp [intOf]; done) | (simp [intOf]; omega)
        · skip
          refine wpOp_step (o := ⟨some 21, _, _, _, _, _⟩) rfl (fun K hK => ?_)
          have HK := Lib.hid hK
          clear hK
          go_simp
          replace hx : Upd (blk a1) w3 (w3.alloc (.cells (evA x) 64)).drew := ((Upd.refl _ _).alloc _).drew
          have hbb := ((Below.refl _ w3).alloc (Nat.le_refl _) (.cells (evA x) 64)).drew
          have HG := Lib.hid (Hg3.out.step hbb)
          have Hlit := Lib.hid (((RowAt.lit w3 (evA x) 64 6 1 (by decide) rfl (by simp [Value.oneCell'])).sl).drew)
          have hlp : ∀ ad, some (⟨w3.heap.size, 0, none⟩ : Addr) = some ad → 0 < 1 → ¬ blk a1 ad.block := fun ad he _ hq => by obtain rfl := Option.some.inj he; have := Hnz.out _ hq; (try simp at this); (try omega)
          clear hbb
          go_wp2_with fail
          refine HK.out _ _ ⟨(HT.out _ hx), ?_⟩
          clear HK
          try clear hHeld
          have hHeld := (HT.out _ hx)
          try simp only [Act.put, List.setIfInBounds_toArray, List.set_cons_zero, List.set_cons_succ]
          refine wpAnyH_all (rs := [2]) (by kernel_rfl) (by simp) ?_
          intro ix hix
          obtain rfl : ix = 2 := by simpa using hix
          clear hix
          refine wpOp_step (o := ⟨some 18, _, _, _, _, _⟩) rfl (fun K hK => ?_)
          have HK := Lib.hid hK
          clear hK
          go_simp
          refine (netEnd _ _ g ms ss (Hsp3.out.upd hx (fun k hk hq => Hdis.out k hq hk)) (by omega) (by omega)).mono ?_
          rw [← Hes.out]
          rintro y w4 ⟨ae, ce, rfl, hre, hfe, hb⟩
          rw [← Hen.out] at hre ⊢
          have Hre := Lib.hid hre.sl
          have HG := Lib.hid (HG.out.step hb)
          have hs4 := hb.size
          have Hlit := Lib.hid (Hlit.out.all hb)
          have hxs := hx.size
          replace hx := hx.trans (Upd.of_below (S := fun _ => False) hb) (fun _ _ f => f.elim)
          clear hre hfe hb
          go_wp2_with fail
          refine HK.out _ _ ⟨(HT.out _ hx), ?_⟩
          clear HK
          try clear hHeld
          have hHeld := (HT.out _ hx)
          try simp only [Act.put, List.setIfInBounds_toArray, List.set_cons_zero, List.set_cons_succ]
          refine wpAnyH_all (rs := [3]) (by kernel_rfl) (by simp) ?_
          intro ix hix
          obtain rfl : ix = 3 := by simpa using hix
          clear hix
          refine wpOp_step (o := ⟨some 19, _, _, _, _, _⟩) rfl (fun K hK => ?_)
          have HK := Lib.hid hK
          clear hK
          refine step_append_row rfl (.tmp 16) (.tmp 18) 40 rfl 64 (.agg #[.int .i64 0, .int .i64 0, .int .i64 0, .int .i64 0, .int .i64 0, .int .i64 0]) 6 48 Try.underlying40 Try.infoEv rfl (by decide) rfl rfl HG.out.row Hre.out (by unfold maxLen; omega) (by omega) ?_
          intro a2 c2 w5 hrow hupd hloc hnil
          have Hlit := Lib.hid (Hlit.out.upd hupd hlp)
          have hs5 := hupd.size
          replace hx := hx.trans hupd (fun _ _ h => h)
          have Hloc := Lib.hid hloc
          have HG := Lib.hid (HG.out.app hupd hloc Hen.out.symm hrow)
          clear hrow hupd hloc hnil
          refine HK.out _ _ ⟨(HT.out _ hx), ?_⟩
          clear HK
          try clear hHeld
          have hHeld := (HT.out _ hx)
          try simp only [Act.put, List.setIfInBounds_toArray, List.set_cons_zero, List.set_cons_succ]
          refine wpAnyH_all (rs := [6]) (by kernel_rfl) (by simp) ?_
          intro ix hix
          obtain rfl : ix = 6 := by simpa using hix
          clear hix
          refine wpOp_step (o := ⟨some 22, _, _, _, _, _⟩) rfl (fun K hK => ?_)
          have HK := Lib.hid hK
          clear hK
          refine step_append_row rfl (.tmp 19) (.tmp 21) 40 rfl 64 (.agg #[.int .i64 0, .int .i64 0, .int .i64 0, .int .i64 0, .int .i64 0, .int .i64 0]) 6 48 Try.underlying40 Try.infoEv rfl (by decide) rfl rfl HG.out.row Hlit.out (by unfold maxLen; omega) (by omega) ?_
          intro a3 c3 w6 hrow hupd hloc hnil
          have HG := Lib.hid (HG.out.app (zs := [x]) hupd hloc rfl hrow)
          replace hx := hx.trans hupd (fun k hk hq => (blk_loc Hloc.out hq).elim id (fun h => by (try simp at h); omega))
          clear hrow hupd hloc hnil
          refine HK.out _ _ ⟨(HT.out _ hx), ?_⟩
          clear HK
          try clear hHeld
          have hHeld := (HT.out _ hx)
          try simp only [Act.put, List.setIfInBounds_toArray, List.set_cons_zero, List.set_cons_succ]
          refine wpAnyH_take (i := 7) (oi := ⟨some 3, _, _, _, _, _⟩) (v := ?_) rfl (by kernel_rfl) (by kernel_rfl) (by kernel_rfl) (fun _ _ _ h => h) (Or.inl ⟨by rfl, ?_⟩) hHeld ?_
          rotate_left
          · intro w' hS'
            (try dsimp only at hS')
            go_simp
            try with_reducible rfl
          try simp only [Act.put, List.setIfInBounds_toArray, List.set_cons_zero, List.set_cons_succ]
          refine wpAnyH_done (by kernel_rfl) ?_ _
          clear hHeld HT
          go_wp2_with fail
          refine (netBegin _).mono ?_
          rintro y w7 ⟨g', rfl, hsp7, hb7⟩
          have Hsp7 := Lib.hid hsp7
          have HG7 := Lib.hid (HG.out.step hb7)
          have hlt6 := HG.out.row.lt
          have Hlt6 := Lib.hid hlt6
          have hs7 := HG.out.le
          clear hsp7 hb7 hlt6
          go_wp2_with fail
          go_roundw
          case rel => exact ⟨j + 1, rfl, by omega, out ++ es ++ [x], [], [], g', a3, c3, by rw [Hnet.out, Hdr.out]; simp only [netG, ← Hmb.out, if_true, Hes.out], HG7.out.to _ _ (show on + en + 1 = (out ++ es ++ [x]).length by rw [List.length_append, List.length_append, ← Hon.out, ← Hen.out]; rfl) rfl, rfl, Hsp7.out.mono hs7, fun k hk hq => (by obtain ⟨ad, he, rfl⟩ := hk; have h1 := Hlt6.out ad he; have h2 := Hsp7.out.fr _ hq; omega), by simp; rw [← Hon.out, ← Hen.out]; omega⟩
          case measure => first | (simp [intOf]; done) | (simp [intOf]; omega)
    · obtain rfl : j = n := by omega
      have hfin : netF l = out ++ endS ms ss := by
        unfold netF
        rw [Hnet.out, List.drop_of_length_le (by have := Hln.out; omega)]
        rfl
      obtain ⟨es, hes⟩ : ∃ es, es = endS ms ss := ⟨_, rfl⟩
      obtain ⟨en, hen⟩ : ∃ en, en = es.length := ⟨_, rfl⟩
      have hel : en ≤ ms.length + ss.length := by have := endS_len ms ss; rw [hen, hes]; exact this
      rw [← hes] at hfin
      have Hfin := Lib.hid hfin
      have Hes := Lib.hid hes
      have Hen := Lib.hid hen
      clear hes hen hfin
      go_wp2_with fail
      refine (netEnd _ _ g ms ss Hsp.out (by omega) (by omega)).mono ?_
      rw [← Hes.out]
      rintro y w4 ⟨ae, ce, rfl, hre, hfe, hb⟩
      rw [← Hen.out] at hre ⊢
      have Hre := Lib.hid hre.sl
      have HG := Lib.hid (Hg.out.step hb)
      clear hre hfe hb
      go_wp2_with (at_builtin; refine wp_append rfl (.tmp 28) (.tmp 30) 40 rfl 64 (.agg #[.int .i64 0, .int .i64 0, .int .i64 0, .int .i64 0, .int .i64 0, .int .i64 0]) 6 48 Try.underlying40 Try.infoEv rfl (by decide) rfl rfl HG.out.row Hre.out (by unfold maxLen; omega) (by omega) ?_; intro a3 c3 w5 hrow hupd hloc hnil; have HG5 := Lib.hid (HG.out.app hupd hloc Hen.out.symm hrow); clear hrow hupd hloc hnil)
      go_ret
      have hl5 : (netF l).length = on + en := by rw [Hfin.out, List.length_append, ← Hon.out, ← Hen.out]
      refine ⟨a3, c3, by rw [hl5]; rfl, ?_, HG5.out.fr, HG5.out.bel⟩
      rw [hl5, Hfin.out]
      exact HG5.out.row
end Go.Proofs.Ytpbocficffbcbaa
namespace Go.Proofs.Ytpbocficffbcbaa
open Go Go.RowKit
set_option linter.unusedVariables false

def eA13 : Ev := ⟨3, 0, 0, 20, 17, 0⟩
def eB13 : Ev := ⟨3, 0, 0, 17, 20, 0⟩
def eM13 : Ev := ⟨0, 0, 0, 0, 0, 0⟩
theorem net13 : netF [eA13, eB13, eM13] = [eM13] := by decide

set_option maxRecDepth 100000 in
set_option maxHeartbeats 800000 in
theorem alive13 (w : World) : Calls Try.prog 69 #[] w (fun x w' => x = .returned (.bool true) ∧ Below w.heap.size w w') := by
  have q := ev_eql
  have b1 : Below w.heap.size w ((w.alloc (.cells (evA eA13) 64)).alloc (.cells (evA eB13) 64)) := ((Below.refl _ w).alloc (Nat.le_refl _) _).alloc (by simp) _
  have hl := (RowAt.lit ((w.alloc (.cells (evA eA13) 64)).alloc (.cells (evA eB13) 64)) #[.int .i64 3, .int .i64 0, .int .i64 0, .int .i64 20, .int .i64 17, .int .i64 0, .int .i64 3, .int .i64 0, .int .i64 0, .int .i64 17, .int .i64 20, .int .i64 0, .int .i64 0, .int .i64 0, .int .i64 0, .int .i64 0, .int .i64 0, .int .i64 0] 64 6 3 (by decide) rfl (by simp [Value.oneCell'])).sl
  rw [World.size_alloc, World.size_alloc] at hl
  have Hl := Lib.hid hl
  have b2 := b1.alloc (by simp; omega) (.cells #[.int .i64 3, .int .i64 0, .int .i64 0, .int .i64 20, .int .i64 17, .int .i64 0, .int .i64 3, .int .i64 0, .int .i64 0, .int .i64 17, .int .i64 20, .int .i64 0, .int .i64 0, .int .i64 0, .int .i64 0, .int .i64 0, .int .i64 0, .int .i64 0] 64)
  have B2 := Lib.hid b2
  clear hl b1 b2
  go_enter Try.func69, Try.ntmps69
  go_wp2_with fail
  refine (netNet _ _ 3 3 [eA13, eB13, eM13] Hl.out (by decide)).mono ?_
  rintro x w2 ⟨a, c, rfl, hr, hf, hb⟩
  rw [net13] at hr ⊢
  obtain ⟨b, o, y, rfl, hy, hbl, ⟨yk, ya, yb, yc, yd, ye⟩⟩ := ev_at (k := 0) hr.sl (by decide)
  obtain rfl : eM13 = y := by simpa using hy
  have Bd := Lib.hid (B2.out.trans (hb.mono B2.out.size))
  simp only [eM13, Nat.zero_mul, Nat.add_zero] at yk ya yb yc yd ye
  clear hr hf hb hy
  have qq := fun w => q w eM13 eM13
  simp only [eM13] at qq
  clear q
  simp only [List.length_singleton]
  go_wp2_with fail
  go_ret
  exact ⟨rfl, Bd.out⟩
end Go.Proofs.Ytpbocficffbcbaa
namespace Go.Proofs.Ytpbocficffbcbaa
open Go Go.RowKit
set_option linter.unusedVariables false

theorem wpList_load_midG {P : Program} {ops : Array Oper} {rest : List Oper} {op : Oper} {a : Act} {w : World} {Q : Exit → Act → World → Prop} (hw : Region.wanted op (yielded ops a.tmps) = true) (ty : TypeId) (x : Operand) (ho : op.op = .load ty x)
    (b o : Nat) (hx : a.eval x = .pointer (some ⟨b, o, none⟩)) (cs : List Value) (d : TypeDesc) (hc : w.rangeAt b o cs)
    (hu : P.underlying ty = some d) (hd : d.isRow = true) (hi : (P.info? ty).map (·.size) = some cs.length)
    (h : wpList P ops Q rest (a.put op.dst (.agg cs.toArray)) w) : wpList P ops Q (op :: rest) a w :=
  wpList_step fun K hK => by
    rw [if_pos hw]
    exact wp_load_mid ty x ho b o hx cs d hc hu hd hi (hK _ _ h)

/-- The same state? -/
def stEq (a b : St) : Bool := decide (a.o = b.o) && (decide (a.p = b.p) && decide (a.l = b.l))
theorem stEq_iff {a b : St} : stEq a b = true ↔ a = b := by
  obtain ⟨o, l, p⟩ := a
  obtain ⟨o', l', p'⟩ := b
  simp only [stEq, Bool.and_eq_true, decide_eq_true_eq, St.mk.injEq]
  constructor
  · rintro ⟨h1, h2, h3⟩
    exact ⟨h1, h3, h2⟩
  · rintro ⟨h1, h2, h3⟩
    exact ⟨h1, h3, h2⟩
theorem stEq_self (a : St) : stEq a a = true := stEq_iff.2 rfl
theorem p_split {p q : List Int} (hp : p.length = 25) (hq : q.length = 25) : p = q ↔ p.take 18 = q.take 18 ∧ p.drop 18 = q.drop 18 := by
  constructor
  · rintro rfl
    exact ⟨rfl, rfl⟩
  · rintro ⟨h1, h2⟩
    rw [← List.take_append_drop 18 p, ← List.take_append_drop 18 q, h1, h2]
theorem range_num {w : World} {cs : Array Value} {s : St} (h : StC w cs s) (hp : s.p.length = 25) {b : Nat} {fr : Nat × Nat} {t : TypeId} (hb : w.heap[b]? = some (.cells cs t fr)) (o k : Nat) (hok : o + k ≤ 25) : w.rangeAt b (12 + o) (objC ((s.p.drop o).take k)) := fun j v hv => by
  rw [cell_of_row w b _ cs t fr hb]
  have hj : j < k := by
    have := (List.getElem?_eq_some_iff.1 hv).1
    simp [objC] at this
    omega
  rw [show 12 + o + j = 12 + (o + j) by omega, h.num (o + j) (by omega), ← hv]
  simp [objC, hj, List.getElem?_drop, List.getD, show o + j < s.p.length by omega]

set_option maxRecDepth 100000 in
set_option maxHeartbeats 1600000 in
theorem states (w : World) (ca cb : Array Value) (sa sb : St) (ha : StC w ca sa) (hb : StC w cb sb) (oka : StOk sa) (okb : StOk sb) (r : Bool) (hr : r = stEq sa sb) :
    Calls Try.prog 59 #[.agg ca, .agg cb] w (fun x w' => x = .returned (.bool r) ∧ Below w.heap.size w w') := by
  have b0 : Below w.heap.size w ((w.alloc (.cells ca 79)).alloc (.cells cb 79)) := ((Below.refl _ w).alloc (Nat.le_refl _) _).alloc (by simp) _
  have oa := alloc_obj (x := .cells cb 79) (alloc_new w (.cells ca 79))
  have ob := alloc_new (w.alloc (.cells ca 79)) (.cells cb 79)
  rw [World.size_alloc] at ob
  have ha1 := ha.all b0
  have hb1 := hb.all b0
  obtain ⟨a0, c0, e0, r0⟩ := ha1.sl 0 (by decide)
  obtain ⟨a1, c1, e1, r1⟩ := hb1.sl 0 (by decide)
  have k0 : ((w.alloc (.cells ca 79)).alloc (.cells cb 79)).cell? ⟨w.heap.size, 0, none⟩ = some (.slice a0 sa.o.length c0) := (obj_cell oa 0).trans e0
  have k1 : ((w.alloc (.cells ca 79)).alloc (.cells cb 79)).cell? ⟨w.heap.size + 1, 0, none⟩ = some (.slice a1 sb.o.length c1) := (obj_cell ob 0).trans e1
  have q1 : ∀ w, (binOp .neq 76 (.agg (objC ((sa.p.drop 0).take 18)).toArray) (.agg (objC ((sb.p.drop 0).take 18)).toArray)).run Try.prog w = .ok (.bool (decide (sa.p.take 18 ≠ sb.p.take 18))) w := fun w => play_neq w _ _ (by simp [oka.p]) (by simp [okb.p])
  have q2 : ∀ w, (binOp .neq 77 (.agg (objC ((sa.p.drop 18).take 7)).toArray) (.agg (objC ((sb.p.drop 18).take 7)).toArray)).run Try.prog w = .ok (.bool (decide (sa.p.drop 18 ≠ sb.p.drop 18))) w := fun w => by
    rw [List.take_of_length_le (by simp [oka.p]), List.take_of_length_le (by simp [okb.p])]
    exact game_neq w _ _ (by simp [oka.p]) (by simp [okb.p])
  have ra1 := range_num ha1 oka.p oa 0 18 (by decide)
  have rb1 := range_num hb1 okb.p ob 0 18 (by decide)
  have ra2 := range_num ha1 oka.p oa 18 7 (by decide)
  have rb2 := range_num hb1 okb.p ob 18 7 (by decide)
  have la1 : (objC ((sa.p.drop 0).take 18)).length = 18 := by simp [objC, oka.p]
  have lb1 : (objC ((sb.p.drop 0).take 18)).length = 18 := by simp [objC, okb.p]
  have la2 : (objC ((sa.p.drop 18).take 7)).length = 7 := by simp [objC, oka.p]
  have lb2 : (objC ((sb.p.drop 18).take 7)).length = 7 := by simp [objC, okb.p]
  have hps := p_split oka.p okb.p
  generalize objC ((sa.p.drop 0).take 18) = za1 at *
  generalize objC ((sb.p.drop 0).take 18) = zb1 at *
  generalize objC ((sa.p.drop 18).take 7) = za2 at *
  generalize objC ((sb.p.drop 18).take 7) = zb2 at *
  have Ra1 := Lib.hid ra1
  have Rb1 := Lib.hid rb1
  have Ra2 := Lib.hid ra2
  have Rb2 := Lib.hid rb2
  have La1 := Lib.hid la1
  have Lb1 := Lib.hid lb1
  have La2 := Lib.hid la2
  have Lb2 := Lib.hid lb2
  have Hps := Lib.hid hps
  have Hr := Lib.hid hr
  have Oka := Lib.hid oka
  have Okb := Lib.hid okb
  have B0 := Lib.hid b0
  have hz1 : w.heap.size + 2 = ((w.alloc (.cells ca 79)).alloc (.cells cb 79)).heap.size := by simp
  have HA := Lib.hid (fun (x : World) (hb : Below ((w.alloc (.cells ca 79)).alloc (.cells cb 79)).heap.size ((w.alloc (.cells ca 79)).alloc (.cells cb 79)) x) => (⟨below_obj hb oa (by omega), ha1.all hb⟩ : x.heap[w.heap.size]? = some (.cells ca 79 (0, 0)) ∧ StC x ca sa))
  have HB := Lib.hid (fun (x : World) (hb : Below ((w.alloc (.cells ca 79)).alloc (.cells cb 79)).heap.size ((w.alloc (.cells ca 79)).alloc (.cells cb 79)) x) => (⟨below_obj hb ob (by omega), hb1.all hb⟩ : x.heap[w.heap.size + 1]? = some (.cells cb 79 (0, 0)) ∧ StC x cb sb))
  have hx : Below ((w.alloc (.cells ca 79)).alloc (.cells cb 79)).heap.size ((w.alloc (.cells ca 79)).alloc (.cells cb 79)) ((w.alloc (.cells ca 79)).alloc (.cells cb 79)) := Below.refl _ _
  have hc0 := r0.le
  have hm0 := r0.max
  have hm1 := r1.max
  have hc1 := r1.le
  unfold maxLen at hm0 hm1
  change sa.o.length ≤ c0 at hc0
  change sb.o.length ≤ c1 at hc1
  obtain ⟨n, hn⟩ : ∃ n, n = sa.o.length := ⟨_, rfl⟩
  obtain ⟨m, hm⟩ : ∃ m, m = sb.o.length := ⟨_, rfl⟩
  rw [← hn] at k0 hc0
  rw [← hm] at k1 hc1
  have Hn := Lib.hid hn
  have Hm := Lib.hid hm
  have Q1 := Lib.hid q1
  have Q2 := Lib.hid q2
  have Hz1 := Lib.hid hz1
  clear ra1 rb1 ra2 rb2 la1 lb1 la2 lb2 hps hr oka okb b0 oa ob ha1 hb1 r0 r1 e0 e1 hn hm q1 q2 ha hb hz1
  go_enter Try.func59, Try.ntmps59
  by_cases hnm : n = m
  rotate_left
  · have hne : (n != m) = true := by simp [hnm]
    have hne2 : ((n : Int) != (m : Int)) = true := by simp; omega
    have Hf := Lib.hid (show r = false by rw [Hr.out, Bool.eq_false_iff]; intro h; rw [stEq_iff] at h; have h1 := Hn.out; have h2 := Hm.out; rw [h] at h1; omega)
    clear hnm
    go_wp2_with fail
    go_ret
    exact ⟨ret_bool Hf.out.symm, B0.out⟩
  subst hnm
  by_cases hp1 : sa.p.take 18 = sb.p.take 18
  rotate_left
  · have q1 : ∀ w, (binOp .neq 76 (.agg za1.toArray) (.agg zb1.toArray)).run Try.prog w = .ok (.bool true) w := fun w => (Q1.out w).trans (by simp [hp1])
    have Hf := Lib.hid (show r = false by rw [Hr.out, Bool.eq_false_iff]; intro h; rw [stEq_iff] at h; exact hp1 (by rw [h]))
    clear hp1
    go_wp2_with (first | (refine wpList_load_midG rfl 76 (.tmp 15) rfl w.heap.size 12 rfl za1 _ Ra1.out Try.underlying76 rfl (by rw [La1.out]; kernel_rfl) ?_) | (refine wpList_load_midG rfl 76 (.tmp 17) rfl (w.heap.size + 1) 12 rfl zb1 _ Rb1.out Try.underlying76 rfl (by rw [Lb1.out]; kernel_rfl) ?_) | (refine wpList_load_midG rfl 77 (.tmp 22) rfl w.heap.size 30 rfl za2 _ Ra2.out Try.underlying77 rfl (by rw [La2.out]; kernel_rfl) ?_) | (refine wpList_load_midG rfl 77 (.tmp 24) rfl (w.heap.size + 1) 30 rfl zb2 _ Rb2.out Try.underlying77 rfl (by rw [Lb2.out]; kernel_rfl) ?_))
    go_ret
    exact ⟨ret_bool Hf.out.symm, B0.out⟩
  have q1 : ∀ w, (binOp .neq 76 (.agg za1.toArray) (.agg zb1.toArray)).run Try.prog w = .ok (.bool false) w := fun w => (Q1.out w).trans (by simp [hp1])
  have Hp1 := Lib.hid hp1
  clear hp1
  by_cases hp2 : sa.p.drop 18 = sb.p.drop 18
  rotate_left
  · have q2 : ∀ w, (binOp .neq 77 (.agg za2.toArray) (.agg zb2.toArray)).run Try.prog w = .ok (.bool true) w := fun w => (Q2.out w).trans (by simp [hp2])
    have Hf := Lib.hid (show r = false by rw [Hr.out, Bool.eq_false_iff]; intro h; rw [stEq_iff] at h; exact hp2 (by rw [h]))
    clear hp2
    go_wp2_with (first | (refine wpList_load_midG rfl 76 (.tmp 15) rfl w.heap.size 12 rfl za1 _ Ra1.out Try.underlying76 rfl (by rw [La1.out]; kernel_rfl) ?_) | (refine wpList_load_midG rfl 76 (.tmp 17) rfl (w.heap.size + 1) 12 rfl zb1 _ Rb1.out Try.underlying76 rfl (by rw [Lb1.out]; kernel_rfl) ?_) | (refine wpList_load_midG rfl 77 (.tmp 22) rfl w.heap.size 30 rfl za2 _ Ra2.out Try.underlying77 rfl (by rw [La2.out]; kernel_rfl) ?_) | (refine wpList_load_midG rfl 77 (.tmp 24) rfl (w.heap.size + 1) 30 rfl zb2 _ Rb2.out Try.underlying77 rfl (by rw [Lb2.out]; kernel_rfl) ?_))
    go_ret
    exact ⟨ret_bool Hf.out.symm, B0.out⟩
  have q2 : ∀ w, (binOp .neq 77 (.agg za2.toArray) (.agg zb2.toArray)).run Try.prog w = .ok (.bool false) w := fun w => (Q2.out w).trans (by simp [hp2])
  have Hp := Lib.hid (Hps.out.2 ⟨Hp1.out, hp2⟩)
  clear hp2
  go_wp2_with (first | (refine wpList_load_midG rfl 76 (.tmp 15) rfl w.heap.size 12 rfl za1 _ Ra1.out Try.underlying76 rfl (by rw [La1.out]; kernel_rfl) ?_) | (refine wpList_load_midG rfl 76 (.tmp 17) rfl (w.heap.size + 1) 12 rfl zb1 _ Rb1.out Try.underlying76 rfl (by rw [Lb1.out]; kernel_rfl) ?_) | (refine wpList_load_midG rfl 77 (.tmp 22) rfl w.heap.size 30 rfl za2 _ Ra2.out Try.underlying77 rfl (by rw [La2.out]; kernel_rfl) ?_) | (refine wpList_load_midG rfl 77 (.tmp 24) rfl (w.heap.size + 1) 30 rfl zb2 _ Rb2.out Try.underlying77 rfl (by rw [Lb2.out]; kernel_rfl) ?_))
  clear q1 q2 k0 k1
  generalize ((w.alloc (.cells ca 79)).alloc (.cells cb 79)) = w1 at *
  go_loopw [31] (fun i wr => ∃ j : Nat, j ≤ n ∧ i = .int .i64 j ∧ Below w1.heap.size w1 wr ∧ sa.o.take j = sb.o.take j) (fun i _ => n - (intOf i).toNat)
  case atStart => exact ⟨0, Nat.zero_le _, rfl, hx, by simp⟩
  case round =>
    obtain ⟨j, hj, rfl, hxr, heq⟩ := hrel
    have Heq := Lib.hid heq
    clear heq hx
    by_cases hlt : j < n
    · obtain ⟨oa, ha⟩ := HA.out wr hxr
      obtain ⟨ob, hb⟩ := HB.out wr hxr
      obtain ⟨a0, c0', e0, r0⟩ := ha.sl 0 (by decide)
      obtain ⟨a1, c1', e1, r1⟩ := hb.sl 0 (by decide)
      change SlAt wr 18 a0 sa.o.length c0' (objs sa.o) at r0
      change SlAt wr 18 a1 sb.o.length c1' (objs sb.o) at r1
      have k0 : wr.cell? ⟨w.heap.size, 0, none⟩ = some (.slice a0 sa.o.length c0') := (obj_cell oa 0).trans e0
      have k1 : wr.cell? ⟨w.heap.size + 1, 0, none⟩ = some (.slice a1 sb.o.length c1') := (obj_cell ob 0).trans e1
      obtain ⟨ba, pa, rfl, hba, rga⟩ := obj_at r0 Oka.out.o rfl (k := j) (by have := Hn.out; omega)
      obtain ⟨bb, pb, rfl, hbb, rgb⟩ := obj_at r1 Okb.out.o rfl (k := j) (by have := Hm.out; omega)
      rw [← Hn.out] at k0
      rw [← Hm.out] at k1
      have hta := take_snoc sa.o j [] (by have := Hn.out; omega)
      have htb := take_snoc sb.o j [] (by have := Hm.out; omega)
      have h18a := obj_len Oka.out (i := j) (by have := Hn.out; omega)
      have h18b := obj_len Okb.out (i := j) (by have := Hm.out; omega)
      obtain ⟨xa, hxa⟩ : ∃ x, x = sa.o.getD j [] := ⟨_, rfl⟩
      obtain ⟨xb, hxb⟩ : ∃ x, x = sb.o.getD j [] := ⟨_, rfl⟩
      rw [← hxa] at hta h18a rga
      rw [← hxb] at htb h18b rgb
      have Hta := Lib.hid hta
      have Htb := Lib.hid htb
      have H18a := Lib.hid h18a
      have H18b := Lib.hid h18b
      have Hxa := Lib.hid hxa
      have Hxb := Lib.hid hxb
      have hji : (j : Int) < (n : Int) := by omega
      have HT := Lib.hid (show wr.drew.cell? ⟨w.heap.size, 0, none⟩ = some (.slice (some ⟨ba, pa, none⟩) n c0') ∧ wr.drew.cell? ⟨w.heap.size + 1, 0, none⟩ = some (.slice (some ⟨bb, pb, none⟩) n c1') ∧ wr.drew.rangeAt ba (pa + j * 18) (objC xa) ∧ wr.drew.rangeAt bb (pb + j * 18) (objC xb) from ⟨k0, k1, rga, rgb⟩)
      clear hta htb h18a h18b hxa hxb oa ob ha hb e0 e1 r0 r1 k0 k1 rga rgb
      go_wp2_with fail
      by_cases hxy : xa = xb
      · have q : ∀ w, (binOp .neq 108 (.agg (objC xa).toArray) (.agg (objC xb).toArray)).run Try.prog w = .ok (.bool false) w := fun w => (obj_neq w xa xb H18a.out H18b.out).trans (by simp [hxy])
        have Hxy := Lib.hid hxy
        clear hxy
        refine wp_region_held_drew (S := fun x => x.cell? ⟨w.heap.size, 0, none⟩ = some (.slice (some ⟨ba, pa, none⟩) n c0') ∧ x.cell? ⟨w.heap.size + 1, 0, none⟩ = some (.slice (some ⟨bb, pb, none⟩) n c1') ∧ x.rangeAt ba (pa + j * 18) (objC xa) ∧ x.rangeAt bb (pb + j * 18) (objC xb)) (by kernel_rfl) HT.out (fun hHeld => ?_)
        refine wpAnyH_take (i := 0) (oi := ⟨some 34, _, _, _, _, _⟩) (v := ?_) rfl (by kernel_rfl) (by kernel_rfl) (by kernel_rfl) (fun _ _ _ h => h) (Or.inl ⟨by rfl, ?_⟩) hHeld ?_
        rotate_left
        · intro w' hS'
          (try dsimp only at hS')
          go_simp
          try with_reducible rfl
        try simp only [Act.put, List.setIfInBounds_toArray, List.set_cons_zero, List.set_cons_succ]
        refine wpAnyH_take (i := 1) (oi := ⟨some 35, _, _, _, _, _⟩) (v := ?_) rfl (by kernel_rfl) (by kernel_rfl) (by kernel_rfl) (fun _ _ _ h => h) (Or.inl ⟨by rfl, ?_⟩) hHeld ?_
        rotate_left
        · intro w' hS'
          (try dsimp only at hS')
          go_simp
          try with_reducible rfl
        try simp only [Act.put, List.setIfInBounds_toArray, List.set_cons_zero, List.set_cons_succ]
        refine wpAnyH_take (i := 2) (oi := ⟨some 36, _, _, _, _, _⟩) (v := ?_) rfl (by kernel_rfl) (by kernel_rfl) (by kernel_rfl) (fun _ _ _ h => h) (Or.inl ⟨by rfl, ?_⟩) hHeld ?_
        rotate_left
        · intro w' hS'
          (try dsimp only at hS')
          go_simp
          try with_reducible rfl
        try simp only [Act.put, List.setIfInBounds_toArray, List.set_cons_zero, List.set_cons_succ]
        refine wpAnyH_take (i := 3) (oi := ⟨some 37, _, _, _, _, _⟩) (v := ?_) rfl (by kernel_rfl) (by kernel_rfl) (by kernel_rfl) (fun _ _ _ h => h) (Or.inl ⟨by rfl, ?_⟩) hHeld ?_
        rotate_left
        · intro w' hS'
          (try dsimp only at hS')
          go_simp
          try with_reducible rfl
        try simp only [Act.put, List.setIfInBounds_toArray, List.set_cons_zero, List.set_cons_succ]
        refine wpAnyH_take (i := 4) (oi := ⟨some 38, _, _, _, _, _⟩) rfl (by kernel_rfl) (by kernel_rfl) (by kernel_rfl) (fun _ _ _ h => h) (yieldsIf_load_mid rfl 108 (.tmp 37) rfl ba (pa + j * 18) rfl (objC xa) _ (fun w hw => hw.2.2.1) Try.underlying108 rfl (by rw [objC, List.length_map, H18a.out]; kernel_rfl)) hHeld ?_
        try simp only [Act.put, List.setIfInBounds_toArray, List.set_cons_zero, List.set_cons_succ]
        refine wpAnyH_take (i := 5) (oi := ⟨some 39, _, _, _, _, _⟩) (v := ?_) rfl (by kernel_rfl) (by kernel_rfl) (by kernel_rfl) (fun _ _ _ h => h) (Or.inl ⟨by rfl, ?_⟩) hHeld ?_
        rotate_left
        · intro w' hS'
          (try dsimp only at hS')
          go_simp
          try with_reducible rfl
        try simp only [Act.put, List.setIfInBounds_toArray, List.set_cons_zero, List.set_cons_succ]
        refine wpAnyH_take (i := 6) (oi := ⟨some 40, _, _, _, _, _⟩) (v := ?_) rfl (by kernel_rfl) (by kernel_rfl) (by kernel_rfl) (fun _ _ _ h => h) (Or.inl ⟨by rfl, ?_⟩) hHeld ?_
        rotate_left
        · intro w' hS'
          (try dsimp only at hS')
          go_simp
          try with_reducible rfl
        try simp only [Act.put, List.setIfInBounds_toArray, List.set_cons_zero, List.set_cons_succ]
        refine wpAnyH_take (i := 7) (oi := ⟨some 41, _, _, _, _, _⟩) (v := ?_) rfl (by kernel_rfl) (by kernel_rfl) (by kernel_rfl) (fun _ _ _ h => h) (Or.inl ⟨by rfl, ?_⟩) hHeld ?_
        rotate_left
        · intro w' hS'
          (try dsimp only at hS')
          go_simp
          try with_reducible rfl
        try simp only [Act.put, List.setIfInBounds_toArray, List.set_cons_zero, List.set_cons_succ]
        refine wpAnyH_take (i := 8) (oi := ⟨some 42, _, _, _, _, _⟩) (v := ?_) rfl (by kernel_rfl) (by kernel_rfl) (by kernel_rfl) (fun _ _ _ h => h) (Or.inl ⟨by rfl, ?_⟩) hHeld ?_
        rotate_left
        · intro w' hS'
          (try dsimp only at hS')
          go_simp
          try with_reducible rfl
        try simp only [Act.put, List.setIfInBounds_toArray, List.set_cons_zero, List.set_cons_succ]
        refine wpAnyH_take (i := 9) (oi := ⟨some 43, _, _, _, _, _⟩) rfl (by kernel_rfl) (by kernel_rfl) (by kernel_rfl) (fun _ _ _ h => h) (yieldsIf_load_mid rfl 108 (.tmp 42) rfl bb (pb + j * 18) rfl (objC xb) _ (fun w hw => hw.2.2.2) Try.underlying108 rfl (by rw [objC, List.length_map, H18b.out]; kernel_rfl)) hHeld ?_
        try simp only [Act.put, List.setIfInBounds_toArray, List.set_cons_zero, List.set_cons_succ]
        refine wpAnyH_take (i := 10) (oi := ⟨some 44, _, _, _, _, _⟩) (v := ?_) rfl (by kernel_rfl) (by kernel_rfl) (by kernel_rfl) (fun _ _ _ h => h) (Or.inl ⟨by rfl, ?_⟩) hHeld ?_
        rotate_left
        · intro w' hS'
          (try dsimp only at hS')
          go_simp
          try with_reducible rfl
        try simp only [Act.put, List.setIfInBounds_toArray, List.set_cons_zero, List.set_cons_succ]
        refine wpAnyH_done (by kernel_rfl) ?_ _
        clear q
        go_wp2_with fail
        go_roundw
        case rel => exact ⟨j + 1, by omega, by go_num, hxr.drew, by rw [Hta.out, Htb.out, Heq.out, Hxy.out]⟩
        case measure => simp [intOf]; omega
      · have q : ∀ w, (binOp .neq 108 (.agg (objC xa).toArray) (.agg (objC xb).toArray)).run Try.prog w = .ok (.bool true) w := fun w => (obj_neq w xa xb H18a.out H18b.out).trans (by simp [hxy])
        have Hf := Lib.hid (show r = false by rw [Hr.out, Bool.eq_false_iff]; intro h; rw [stEq_iff] at h; exact hxy (by rw [Hxa.out, Hxb.out, h]))
        clear hxy
        refine wp_region_held_drew (S := fun x => x.cell? ⟨w.heap.size, 0, none⟩ = some (.slice (some ⟨ba, pa, none⟩) n c0') ∧ x.cell? ⟨w.heap.size + 1, 0, none⟩ = some (.slice (some ⟨bb, pb, none⟩) n c1') ∧ x.rangeAt ba (pa + j * 18) (objC xa) ∧ x.rangeAt bb (pb + j * 18) (objC xb)) (by kernel_rfl) HT.out (fun hHeld => ?_)
        refine wpAnyH_take (i := 0) (oi := ⟨some 34, _, _, _, _, _⟩) (v := ?_) rfl (by kernel_rfl) (by kernel_rfl) (by kernel_rfl) (fun _ _ _ h => h) (Or.inl ⟨by rfl, ?_⟩) hHeld ?_
        rotate_left
        · intro w' hS'
          (try dsimp only at hS')
          go_simp
          try with_reducible rfl
        try simp only [Act.put, List.setIfInBounds_toArray, List.set_cons_zero, List.set_cons_succ]
        refine wpAnyH_take (i := 1) (oi := ⟨some 35, _, _, _, _, _⟩) (v := ?_) rfl (by kernel_rfl) (by kernel_rfl) (by kernel_rfl) (fun _ _ _ h => h) (Or.inl ⟨by rfl, ?_⟩) hHeld ?_
        rotate_left
        · intro w' hS'
          (try dsimp only at hS')
          go_simp
          try with_reducible rfl
        try simp only [Act.put, List.setIfInBounds_toArray, List.set_cons_zero, List.set_cons_succ]
        refine wpAnyH_take (i := 2) (oi := ⟨some 36, _, _, _, _, _⟩) (v := ?_) rfl (by kernel_rfl) (by kernel_rfl) (by kernel_rfl) (fun _ _ _ h => h) (Or.inl ⟨by rfl, ?_⟩) hHeld ?_
        rotate_left
        · intro w' hS'
          (try dsimp only at hS')
          go_simp
          try with_reducible rfl
        try simp only [Act.put, List.setIfInBounds_toArray, List.set_cons_zero, List.set_cons_succ]
        refine wpAnyH_take (i := 3) (oi := ⟨some 37, _, _, _, _, _⟩) (v := ?_) rfl (by kernel_rfl) (by kernel_rfl) (by kernel_rfl) (fun _ _ _ h => h) (Or.inl ⟨by rfl, ?_⟩) hHeld ?_
        rotate_left
        · intro w' hS'
          (try dsimp only at hS')
          go_simp
          try with_reducible rfl
        try simp only [Act.put, List.setIfInBounds_toArray, List.set_cons_zero, List.set_cons_succ]
        refine wpAnyH_take (i := 4) (oi := ⟨some 38, _, _, _, _, _⟩) rfl (by kernel_rfl) (by kernel_rfl) (by kernel_rfl) (fun _ _ _ h => h) (yieldsIf_load_mid rfl 108 (.tmp 37) rfl ba (pa + j * 18) rfl (objC xa) _ (fun w hw => hw.2.2.1) Try.underlying108 rfl (by rw [objC, List.length_map, H18a.out]; kernel_rfl)) hHeld ?_
        try simp only [Act.put, List.setIfInBounds_toArray, List.set_cons_zero, List.set_cons_succ]
        refine wpAnyH_take (i := 5) (oi := ⟨some 39, _, _, _, _, _⟩) (v := ?_) rfl (by kernel_rfl) (by kernel_rfl) (by kernel_rfl) (fun _ _ _ h => h) (Or.inl ⟨by rfl, ?_⟩) hHeld ?_
        rotate_left
        · intro w' hS'
          (try dsimp only at hS')
          go_simp
          try with_reducible rfl
        try simp only [Act.put, List.setIfInBounds_toArray, List.set_cons_zero, List.set_cons_succ]
        refine wpAnyH_take (i := 6) (oi := ⟨some 40, _, _, _, _, _⟩) (v := ?_) rfl (by kernel_rfl) (by kernel_rfl) (by kernel_rfl) (fun _ _ _ h => h) (Or.inl ⟨by rfl, ?_⟩) hHeld ?_
        rotate_left
        · intro w' hS'
          (try dsimp only at hS')
          go_simp
          try with_reducible rfl
        try simp only [Act.put, List.setIfInBounds_toArray, List.set_cons_zero, List.set_cons_succ]
        refine wpAnyH_take (i := 7) (oi := ⟨some 41, _, _, _, _, _⟩) (v := ?_) rfl (by kernel_rfl) (by kernel_rfl) (by kernel_rfl) (fun _ _ _ h => h) (Or.inl ⟨by rfl, ?_⟩) hHeld ?_
        rotate_left
        · intro w' hS'
          (try dsimp only at hS')
          go_simp
          try with_reducible rfl
        try simp only [Act.put, List.setIfInBounds_toArray, List.set_cons_zero, List.set_cons_succ]
        refine wpAnyH_take (i := 8) (oi := ⟨some 42, _, _, _, _, _⟩) (v := ?_) rfl (by kernel_rfl) (by kernel_rfl) (by kernel_rfl) (fun _ _ _ h => h) (Or.inl ⟨by rfl, ?_⟩) hHeld ?_
        rotate_left
        · intro w' hS'
          (try dsimp only at hS')
          go_simp
          try with_reducible rfl
        try simp only [Act.put, List.setIfInBounds_toArray, List.set_cons_zero, List.set_cons_succ]
        refine wpAnyH_take (i := 9) (oi := ⟨some 43, _, _, _, _, _⟩) rfl (by kernel_rfl) (by kernel_rfl) (by kernel_rfl) (fun _ _ _ h => h) (yieldsIf_load_mid rfl 108 (.tmp 42) rfl bb (pb + j * 18) rfl (objC xb) _ (fun w hw => hw.2.2.2) Try.underlying108 rfl (by rw [objC, List.length_map, H18b.out]; kernel_rfl)) hHeld ?_
        try simp only [Act.put, List.setIfInBounds_toArray, List.set_cons_zero, List.set_cons_succ]
        refine wpAnyH_take (i := 10) (oi := ⟨some 44, _, _, _, _, _⟩) (v := ?_) rfl (by kernel_rfl) (by kernel_rfl) (by kernel_rfl) (fun _ _ _ h => h) (Or.inl ⟨by rfl, ?_⟩) hHeld ?_
        rotate_left
        · intro w' hS'
          (try dsimp only at hS')
          go_simp
          try with_reducible rfl
        try simp only [Act.put, List.setIfInBounds_toArray, List.set_cons_zero, List.set_cons_succ]
        refine wpAnyH_done (by kernel_rfl) ?_ _
        clear q
        go_wp2_with fail
        go_ret
        exact ⟨ret_bool Hf.out.symm, B0.out.trans (hxr.drew.mono B0.out.size)⟩
    · obtain rfl : j = n := by omega
      have Ho := Lib.hid (show sa.o = sb.o by have := Heq.out; rwa [List.take_of_length_le (by have := Hn.out; omega), List.take_of_length_le (by have := Hm.out; omega)] at this)
      clear Heq
      go_wp2_with fail
      go_loopw [46] (fun i wr => ∃ z : Nat, z ≤ 11 ∧ i = .int .i64 z ∧ Below w1.heap.size w1 wr ∧ sa.l.take z = sb.l.take z) (fun i _ => 11 - (intOf i).toNat)
      case atStart => exact ⟨0, Nat.zero_le _, rfl, hxr, by simp⟩
      case round =>
        obtain ⟨z, hz, rfl, hxs, heq⟩ := hrel
        have Heq := Lib.hid heq
        clear heq hxr
        by_cases hlt2 : z < 11
        · obtain ⟨oa, ha⟩ := HA.out _ hxs
          obtain ⟨ob, hb⟩ := HB.out _ hxs
          obtain ⟨a0, c0', e0, r0⟩ := ha.sl (1 + z) (by omega)
          obtain ⟨a1, c1', e1, r1⟩ := hb.sl (1 + z) (by omega)
          have k0 := (obj_cell oa (1 + z)).trans e0
          have k1 := (obj_cell ob (1 + z)).trans e1
          have hta := take_snoc sa.l z [] (by have := Oka.out.l; omega)
          have htb := take_snoc sb.l z [] (by have := Okb.out.l; omega)
          simp only [lenOf, rowOf, szOf, if_neg (show 1 + z ≠ 0 by omega), Nat.add_sub_cancel_left] at k0 k1 r0 r1
          have Hra := Lib.hid r0
          have Hrb := Lib.hid r1
          obtain ⟨xa, hxa⟩ : ∃ x, x = sa.l.getD z [] := ⟨_, rfl⟩
          obtain ⟨xb, hxb⟩ : ∃ x, x = sb.l.getD z [] := ⟨_, rfl⟩
          rw [← hxa] at hta k0 Hra
          rw [← hxb] at htb k1 Hrb
          have hzi : (z : Int) < 11 := by omega
          obtain ⟨na, hna⟩ : ∃ x, x = xa.length := ⟨_, rfl⟩
          obtain ⟨nb, hnb⟩ : ∃ x, x = xb.length := ⟨_, rfl⟩
          rw [← hna] at k0 Hra
          rw [← hnb] at k1 Hrb
          have Hta := Lib.hid hta
          have Htb := Lib.hid htb
          have Hxa := Lib.hid hxa
          have Hxb := Lib.hid hxb
          have hx2 : Below wr.heap.size wr wr.drew := (Below.refl _ _).drew
          have HT := Lib.hid (fun (x : World) (hb : Below wr.heap.size wr x) => (⟨(hb.cell (p := ⟨w.heap.size, 1 + z, none⟩) (obj_lt oa)).trans k0, (hb.cell (p := ⟨w.heap.size + 1, 1 + z, none⟩) (obj_lt ob)).trans k1⟩ : x.cell? ⟨w.heap.size, 1 + z, none⟩ = some (.slice a0 na c0') ∧ x.cell? ⟨w.heap.size + 1, 1 + z, none⟩ = some (.slice a1 nb c1')))
          clear hta htb hxa hxb oa ob ha hb e0 e1 r0 r1 k0 k1 hna hnb
          go_wp2_with fail
          by_cases hxy : xa = xb
          · have Hd := Lib.hid (show decide (xa = xb) = true by simp [hxy])
            have Hxy := Lib.hid hxy
            clear hxy
            refine wp_region_held_drew (S := fun x => x.cell? ⟨w.heap.size, 1 + z, none⟩ = some (.slice a0 na c0') ∧ x.cell? ⟨w.heap.size + 1, 1 + z, none⟩ = some (.slice a1 nb c1')) (by kernel_rfl) (HT.out _ hx2) (fun hHeld => ?_)
            refine wpAnyH_take (i := 0) (oi := ⟨some 49, _, _, _, _, _⟩) (v := ?_) rfl (by kernel_rfl) (by kernel_rfl) (by kernel_rfl) (fun _ _ _ h => h) (Or.inl ⟨by rfl, ?_⟩) hHeld ?_
            rotate_left
            · intro w' hS'
              (try dsimp only at hS')
              go_simp
              try with_reducible rfl
            try simp only [Act.put, List.setIfInBounds_toArray, List.set_cons_zero, List.set_cons_succ]
            refine wpAnyH_take (i := 1) (oi := ⟨some 50, _, _, _, _, _⟩) (v := ?_) rfl (by kernel_rfl) (by kernel_rfl) (by kernel_rfl) (fun _ _ _ h => h) (Or.inl ⟨by rfl, ?_⟩) hHeld ?_
            rotate_left
            · intro w' hS'
              (try dsimp only at hS')
              go_simp
              try with_reducible rfl
            try simp only [Act.put, List.setIfInBounds_toArray, List.set_cons_zero, List.set_cons_succ]
            refine wpAnyH_take (i := 2) (oi := ⟨some 51, _, _, _, _, _⟩) (v := ?_) rfl (by kernel_rfl) (by kernel_rfl) (by kernel_rfl) (fun _ _ _ h => h) (Or.inl ⟨by rfl, ?_⟩) hHeld ?_
            rotate_left
            · intro w' hS'
              (try dsimp only at hS')
              go_simp
              try with_reducible rfl
            try simp only [Act.put, List.setIfInBounds_toArray, List.set_cons_zero, List.set_cons_succ]
            refine wpAnyH_take (i := 3) (oi := ⟨some 52, _, _, _, _, _⟩) (v := ?_) rfl (by kernel_rfl) (by kernel_rfl) (by kernel_rfl) (fun _ _ _ h => h) (Or.inl ⟨by rfl, ?_⟩) hHeld ?_
            rotate_left
            · intro w' hS'
              (try dsimp only at hS')
              go_simp
              try with_reducible rfl
            try simp only [Act.put, List.setIfInBounds_toArray, List.set_cons_zero, List.set_cons_succ]
            refine wpAnyH_take (i := 4) (oi := ⟨some 53, _, _, _, _, _⟩) (v := ?_) rfl (by kernel_rfl) (by kernel_rfl) (by kernel_rfl) (fun _ _ _ h => h) (Or.inl ⟨by rfl, ?_⟩) hHeld ?_
            rotate_left
            · intro w' hS'
              (try dsimp only at hS')
              go_simp
              try with_reducible rfl
            try simp only [Act.put, List.setIfInBounds_toArray, List.set_cons_zero, List.set_cons_succ]
            refine wpAnyH_take (i := 5) (oi := ⟨some 54, _, _, _, _, _⟩) (v := ?_) rfl (by kernel_rfl) (by kernel_rfl) (by kernel_rfl) (fun _ _ _ h => h) (Or.inl ⟨by rfl, ?_⟩) hHeld ?_
            rotate_left
            · intro w' hS'
              (try dsimp only at hS')
              go_simp
              try with_reducible rfl
            try simp only [Act.put, List.setIfInBounds_toArray, List.set_cons_zero, List.set_cons_succ]
            refine wpAnyH_take (i := 6) (oi := ⟨some 55, _, _, _, _, _⟩) (v := ?_) rfl (by kernel_rfl) (by kernel_rfl) (by kernel_rfl) (fun _ _ _ h => h) (Or.inl ⟨by rfl, ?_⟩) hHeld ?_
            rotate_left
            · intro w' hS'
              (try dsimp only at hS')
              go_simp
              try with_reducible rfl
            try simp only [Act.put, List.setIfInBounds_toArray, List.set_cons_zero, List.set_cons_succ]
            refine wpAnyH_take (i := 7) (oi := ⟨some 56, _, _, _, _, _⟩) (v := ?_) rfl (by kernel_rfl) (by kernel_rfl) (by kernel_rfl) (fun _ _ _ h => h) (Or.inl ⟨by rfl, ?_⟩) hHeld ?_
            rotate_left
            · intro w' hS'
              (try dsimp only at hS')
              go_simp
              try with_reducible rfl
            try simp only [Act.put, List.setIfInBounds_toArray, List.set_cons_zero, List.set_cons_succ]
            refine wpAnyH_all (rs := [8]) (by kernel_rfl) (by simp) ?_
            intro ix hix
            obtain rfl : ix = 8 := by simpa using hix
            clear hix
            refine wpOp_step (o := ⟨some 57, _, _, _, _, _⟩) rfl (fun K hK => ?_)
            have HK := Lib.hid hK
            clear hK
            go_simp
            refine (ints _ a0 a1 na nb c0' c1' xa xb (Hra.out.all hx2) (Hrb.out.all hx2)).mono ?_
            rintro x w5 ⟨rfl, hq⟩
            rw [Hd.out]
            replace hx2 := hx2.trans (hq.below _)
            clear hq
            go_wp2_with fail
            refine HK.out _ _ ⟨(HT.out _ hx2), ?_⟩
            clear HK
            try clear hHeld
            have hHeld := (HT.out _ hx2)
            try simp only [Act.put, List.setIfInBounds_toArray, List.set_cons_zero, List.set_cons_succ]
            refine wpAnyH_take (i := 9) (oi := ⟨some 58, _, _, _, _, _⟩) (v := ?_) rfl (by kernel_rfl) (by kernel_rfl) (by kernel_rfl) (fun _ _ _ h => h) (Or.inl ⟨by rfl, ?_⟩) hHeld ?_
            rotate_left
            · intro w' hS'
              (try dsimp only at hS')
              go_simp
              try with_reducible rfl
            try simp only [Act.put, List.setIfInBounds_toArray, List.set_cons_zero, List.set_cons_succ]
            refine wpAnyH_done (by kernel_rfl) ?_ _
            go_wp2_with fail
            go_roundw
            case rel => exact ⟨z + 1, by omega, by go_num, hxs.trans (hx2.mono hxs.size), by rw [Hta.out, Htb.out, Heq.out, Hxy.out]⟩
            case measure => simp [intOf]; omega
          · have Hd := Lib.hid (show decide (xa = xb) = false by simp [hxy])
            have Hf := Lib.hid (show r = false by rw [Hr.out, Bool.eq_false_iff]; intro h; rw [stEq_iff] at h; exact hxy (by rw [Hxa.out, Hxb.out, h]))
            clear hxy
            refine wp_region_held_drew (S := fun x => x.cell? ⟨w.heap.size, 1 + z, none⟩ = some (.slice a0 na c0') ∧ x.cell? ⟨w.heap.size + 1, 1 + z, none⟩ = some (.slice a1 nb c1')) (by kernel_rfl) (HT.out _ hx2) (fun hHeld => ?_)
            refine wpAnyH_take (i := 0) (oi := ⟨some 49, _, _, _, _, _⟩) (v := ?_) rfl (by kernel_rfl) (by kernel_rfl) (by kernel_rfl) (fun _ _ _ h => h) (Or.inl ⟨by rfl, ?_⟩) hHeld ?_
            rotate_left
            · intro w' hS'
              (try dsimp only at hS')
              go_simp
              try with_reducible rfl
            try simp only [Act.put, List.setIfInBounds_toArray, List.set_cons_zero, List.set_cons_succ]
            refine wpAnyH_take (i := 1) (oi := ⟨some 50, _, _, _, _, _⟩) (v := ?_) rfl (by kernel_rfl) (by kernel_rfl) (by kernel_rfl) (fun _ _ _ h => h) (Or.inl ⟨by rfl, ?_⟩) hHeld ?_
            rotate_left
            · intro w' hS'
              (try dsimp only at hS')
              go_simp
              try with_reducible rfl
            try simp only [Act.put, List.setIfInBounds_toArray, List.set_cons_zero, List.set_cons_succ]
            refine wpAnyH_take (i := 2) (oi := ⟨some 51, _, _, _, _, _⟩) (v := ?_) rfl (by kernel_rfl) (by kernel_rfl) (by kernel_rfl) (fun _ _ _ h => h) (Or.inl ⟨by rfl, ?_⟩) hHeld ?_
            rotate_left
            · intro w' hS'
              (try dsimp only at hS')
              go_simp
              try with_reducible rfl
            try simp only [Act.put, List.setIfInBounds_toArray, List.set_cons_zero, List.set_cons_succ]
            refine wpAnyH_take (i := 3) (oi := ⟨some 52, _, _, _, _, _⟩) (v := ?_) rfl (by kernel_rfl) (by kernel_rfl) (by kernel_rfl) (fun _ _ _ h => h) (Or.inl ⟨by rfl, ?_⟩) hHeld ?_
            rotate_left
            · intro w' hS'
              (try dsimp only at hS')
              go_simp
              try with_reducible rfl
            try simp only [Act.put, List.setIfInBounds_toArray, List.set_cons_zero, List.set_cons_succ]
            refine wpAnyH_take (i := 4) (oi := ⟨some 53, _, _, _, _, _⟩) (v := ?_) rfl (by kernel_rfl) (by kernel_rfl) (by kernel_rfl) (fun _ _ _ h => h) (Or.inl ⟨by rfl, ?_⟩) hHeld ?_
            rotate_left
            · intro w' hS'
              (try dsimp only at hS')
              go_simp
              try with_reducible rfl
            try simp only [Act.put, List.setIfInBounds_toArray, List.set_cons_zero, List.set_cons_succ]
            refine wpAnyH_take (i := 5) (oi := ⟨some 54, _, _, _, _, _⟩) (v := ?_) rfl (by kernel_rfl) (by kernel_rfl) (by kernel_rfl) (fun _ _ _ h => h) (Or.inl ⟨by rfl, ?_⟩) hHeld ?_
            rotate_left
            · intro w' hS'
              (try dsimp only at hS')
              go_simp
              try with_reducible rfl
            try simp only [Act.put, List.setIfInBounds_toArray, List.set_cons_zero, List.set_cons_succ]
            refine wpAnyH_take (i := 6) (oi := ⟨some 55, _, _, _, _, _⟩) (v := ?_) rfl (by kernel_rfl) (by kernel_rfl) (by kernel_rfl) (fun _ _ _ h => h) (Or.inl ⟨by rfl, ?_⟩) hHeld ?_
            rotate_left
            · intro w' hS'
              (try dsimp only at hS')
              go_simp
              try with_reducible rfl
            try simp only [Act.put, List.setIfInBounds_toArray, List.set_cons_zero, List.set_cons_succ]
            refine wpAnyH_take (i := 7) (oi := ⟨some 56, _, _, _, _, _⟩) (v := ?_) rfl (by kernel_rfl) (by kernel_rfl) (by kernel_rfl) (fun _ _ _ h => h) (Or.inl ⟨by rfl, ?_⟩) hHeld ?_
            rotate_left
            · intro w' hS'
              (try dsimp only at hS')
              go_simp
              try with_reducible rfl
            try simp only [Act.put, List.setIfInBounds_toArray, List.set_cons_zero, List.set_cons_succ]
            refine wpAnyH_all (rs := [8]) (by kernel_rfl) (by simp) ?_
            intro ix hix
            obtain rfl : ix = 8 := by simpa using hix
            clear hix
            refine wpOp_step (o := ⟨some 57, _, _, _, _, _⟩) rfl (fun K hK => ?_)
            have HK := Lib.hid hK
            clear hK
            go_simp
            refine (ints _ a0 a1 na nb c0' c1' xa xb (Hra.out.all hx2) (Hrb.out.all hx2)).mono ?_
            rintro x w5 ⟨rfl, hq⟩
            rw [Hd.out]
            replace hx2 := hx2.trans (hq.below _)
            clear hq
            go_wp2_with fail
            refine HK.out _ _ ⟨(HT.out _ hx2), ?_⟩
            clear HK
            try clear hHeld
            have hHeld := (HT.out _ hx2)
            try simp only [Act.put, List.setIfInBounds_toArray, List.set_cons_zero, List.set_cons_succ]
            refine wpAnyH_take (i := 9) (oi := ⟨some 58, _, _, _, _, _⟩) (v := ?_) rfl (by kernel_rfl) (by kernel_rfl) (by kernel_rfl) (fun _ _ _ h => h) (Or.inl ⟨by rfl, ?_⟩) hHeld ?_
            rotate_left
            · intro w' hS'
              (try dsimp only at hS')
              go_simp
              try with_reducible rfl
            try simp only [Act.put, List.setIfInBounds_toArray, List.set_cons_zero, List.set_cons_succ]
            refine wpAnyH_done (by kernel_rfl) ?_ _
            go_wp2_with fail
            go_ret
            exact ⟨ret_bool Hf.out.symm, B0.out.trans ((hxs.trans (hx2.mono hxs.size)).mono B0.out.size)⟩
        · obtain rfl : z = 11 := by omega
          have Ht := Lib.hid (show r = true by
            have hl : sa.l = sb.l := by have := Heq.out; rwa [List.take_of_length_le (by have := Oka.out.l; omega), List.take_of_length_le (by have := Okb.out.l; omega)] at this
            rw [Hr.out, stEq, Ho.out, Hp.out, hl]
            simp)
          clear Heq
          go_wp2_with fail
          go_ret
          exact ⟨ret_bool Ht.out.symm, B0.out.trans (hxs.mono B0.out.size)⟩
end Go.Proofs.Ytpbocficffbcbaa
namespace Go.Proofs.Ytpbocficffbcbaa
open Go Go.RowKit
set_option linter.unusedVariables false

theorem lists_get {cs : Array Value} (hs : cs.size = 37) (j : Nat) (hj : j < 11) : ((cs.extract 1 (1 + 11)).toList.toArray)[j]? = cs[1 + j]? := by
  simp only [Array.toArray_toList, Array.getElem?_extract]
  rw [if_pos (by omega)]
theorem run_index_ls (w : World) (ls : Array Value) (j : Nat) (hj : j < 11) (v : Value) (hv : ls[j]? = some v) : (Instr.index 74 (.agg ls) (.int .i64 j)).run Try.prog w = .ok v w := by
  have h1 : Try.prog.cellsOf 22 = 1 := by kernel_rfl
  have hi : (Try.prog.info? 22).map (·.size) = some 1 := by kernel_rfl
  cases hq : Try.prog.info? 22 with
  | none => simp [hq] at hi
  | some i =>
    have hs : i.size = 1 := by simpa [hq] using hi
    simp [Instr.index, asIntOf, Sem.run_bind, run_underlying Try.underlying74 w, sizeOf, typeInfo, hq, hs, part, isAgg, hv]
    intro hh
    omega

/-- Is a state larger than is looked at? -/
def longB (s : St) (most : Nat) : Bool := decide (most < s.o.length) || (List.range 11).any (fun i => decide (most + 10 < (s.l.getD i []).length))
theorem longB_fits {s : St} {most : Nat} (ok : StOk s) (h : longB s most = false) : Fits s (most + 10) := by
  simp only [longB, Bool.or_eq_false_iff, decide_eq_false_iff_not, List.any_eq_false, List.mem_range, decide_eq_true_eq, Nat.not_lt] at h
  refine ⟨by omega, fun i => ?_⟩
  by_cases hi : i < 11
  · exact h.2 i hi
  · rw [show s.l.getD i [] = [] by simp [List.getD, List.getElem?_eq_none (show s.l.length ≤ i by rw [ok.l]; omega)]]
    simp
theorem longB_true {s : St} {most k : Nat} (hk : k < 11) (h : most + 10 < (s.l.getD k []).length) : longB s most = true := by
  simp only [longB, Bool.or_eq_true, List.any_eq_true, List.mem_range, decide_eq_true_eq]
  exact .inr ⟨k, hk, h⟩
theorem longB_false {s : St} {most : Nat} (h0 : s.o.length ≤ most) (h : ∀ k, k < 11 → (s.l.getD k []).length ≤ most + 10) : longB s most = false := by
  simp only [longB, Bool.or_eq_false_iff, decide_eq_false_iff_not, List.any_eq_false, List.mem_range, decide_eq_true_eq, Nat.not_lt]
  exact ⟨h0, h⟩

set_option maxRecDepth 100000 in
set_option maxHeartbeats 800000 in
theorem long (w : World) (cs : Array Value) (s : St) (h : StC w cs s) (most : Nat) (hm : most ≤ 1000) (r : Bool) (hr : r = longB s most) :
    Calls Try.prog 55 #[.agg cs, .int .i64 most] w (fun e w' => e = .returned (.bool r) ∧ Below w.heap.size w w') := by
  have hsz := h.size
  have b0 : Below w.heap.size w (w.alloc (.cells cs 79)) := ((Below.refl _ w).alloc (Nat.le_refl _) _)
  have ob := alloc_new w (.cells cs 79)
  obtain ⟨a0, c0, e0, r0⟩ := h.sl 0 (by decide)
  have k0 : (w.alloc (.cells cs 79)).cell? ⟨w.heap.size, 0, none⟩ = some (.slice a0 s.o.length c0) := (obj_cell ob 0).trans e0
  have hl0 := r0.le
  have hm0 := r0.max
  unfold maxLen at hm0
  change s.o.length ≤ c0 at hl0
  have hR := World.rangeAt_of_block ob 1 11
  have hls := lists_get hsz
  have hx : ∀ j, j < 11 → ∃ a c, ((cs.extract 1 (1 + 11)).toList.toArray)[j]? = some (.slice a (s.l.getD j []).length c) ∧ (s.l.getD j []).length ≤ c ∧ c ≤ 9223372036854775807 := fun j hj => by
    obtain ⟨a, c, h1, h2⟩ := h.sl (1 + j) (by omega)
    have hn : lenOf s (1 + j) = (s.l.getD j []).length := by simp [lenOf, Nat.add_sub_cancel_left]
    rw [hn] at h1 h2
    exact ⟨a, c, (hls j hj).trans h1, h2.le, h2.max⟩
  have hll : (cs.extract 1 (1 + 11)).toList.length = 11 := by simp; omega
  generalize (cs.extract 1 (1 + 11)).toList = ls at hR hx hll
  have Hr := Lib.hid hr
  have HR := Lib.hid hR
  have Hx := Lib.hid hx
  have Hll := Lib.hid hll
  have B0 := Lib.hid b0
  obtain ⟨n, hn⟩ : ∃ n, n = s.o.length := ⟨_, rfl⟩
  rw [← hn] at k0 hl0
  have Hn := Lib.hid hn
  clear hr hR hx hll b0 ob hls h r0 e0 hn
  go_enter Try.func55, Try.ntmps55
  by_cases hlt : most < n
  · go_wp2_with fail
    go_ret
    exact ⟨ret_bool (by rw [Hr.out]; simp [longB]; have := Hn.out; omega), B0.out⟩
  · have hge : n ≤ most := by omega
    clear hlt
    go_wp2_with (refine wpList_load_mid rfl 74 (.tmp 12) rfl w.heap.size 1 rfl ls _ HR.out Try.underlying74 rfl (by rw [Hll.out]; kernel_rfl) ?_)
    go_loop [14] (fun i => ∃ k : Nat, k ≤ 11 ∧ i = .int .i64 k ∧ ∀ j, j < k → (s.l.getD j []).length ≤ most + 10) (fun i => 11 - (intOf i).toNat)
    case atStart => exact ⟨0, by omega, rfl, fun j hj => absurd hj (Nat.not_lt_zero _)⟩
    case round =>
      obtain ⟨k, hk, rfl, hrel⟩ := hrel
      have Hrel := Lib.hid hrel
      clear hrel
      by_cases hlt : k < 11
      · obtain ⟨a, c, h1, h2, h3⟩ := Hx.out k hlt
        have q := fun w => run_index_ls w _ k hlt _ h1
        obtain ⟨m, hm⟩ : ∃ m, m = (s.l.getD k []).length := ⟨_, rfl⟩
        rw [← hm] at h2 q
        have Hm := Lib.hid hm
        clear hm h1
        by_cases hbig : most + 10 < m
        · go_wp2_with fail
          go_ret
          exact ⟨ret_bool (by rw [Hr.out]; exact (longB_true hlt (by have := Hm.out; omega)).symm), B0.out⟩
        · go_wp2_with fail
          go_round
          case rel => exact ⟨k + 1, by omega, by go_num, fun j hj => by
            by_cases hjk : j = k
            · subst hjk; have := Hm.out; omega
            · exact Hrel.out j (by omega)⟩
          case measure => simp [intOf]; omega
      · obtain rfl : k = 11 := by omega
        go_wp2_with fail
        go_ret
        exact ⟨ret_bool (by rw [Hr.out]; exact (longB_false (by have := Hn.out; omega) Hrel.out).symm), B0.out⟩
end Go.Proofs.Ytpbocficffbcbaa
namespace Go.Proofs.Ytpbocficffbcbaa
open Go Go.RowKit
set_option linter.unusedVariables false

theorem addM_len' (ms ss : List Ev) (e : Ev) : (addM ms e).length + (addT ss e).length ≤ ms.length + ss.length + 1 := by
  have key : ∀ ss : List Ev, (addS ss e).length ≤ ss.length + 1 := by
    intro ss
    induction ss with
    | nil => simp [addS]
    | cons x t ih => simp only [addS]; split <;> simp; omega
  have := key ss
  unfold addM addT
  split
  · omega
  · simp; omega
theorem netG_len (l : List Ev) : ∀ out ms ss, (netG out ms ss l).length ≤ out.length + ms.length + ss.length + l.length := by
  induction l with
  | nil =>
    intro out ms ss
    have := List.length_filter_le leftE ss
    simp [netG, endS]
    omega
  | cons e t ih =>
    intro out ms ss
    simp only [netG]
    split
    · have h1 := ih (out ++ endS ms ss ++ [e]) [] []
      have := List.length_filter_le leftE ss
      simp [endS] at h1 ⊢
      omega
    · have h1 := ih out (addM ms e) (addT ss e)
      have h2 := addM_len' ms ss e
      simp
      omega
theorem netF_len (l : List Ev) : (netF l).length ≤ l.length := by
  have := netG_len l [] [] []
  simpa [netF] using this

/-! ### the net of a net -/
def keyNe (x y : Ev) : Prop := keyE x ≠ keyE y
structure Inv (ms ss : List Ev) : Prop where
  m : ∀ e ∈ ms, setsB e = false ∧ makesB e = false
  s : ∀ e ∈ ss, setsB e = true ∧ makesB e = false
  k : ss.Pairwise keyNe
theorem Inv.nil : Inv [] [] := ⟨by simp, by simp, .nil⟩
theorem addS_mem {ss : List Ev} {e x : Ev} (h : x ∈ addS ss e) : (∃ y ∈ ss, keyE x = keyE y ∧ x.k = y.k) ∨ x = e := by
  induction ss with
  | nil => simp [addS] at h; exact .inr h
  | cons y t ih =>
    simp only [addS] at h
    split at h
    · rcases List.mem_cons.1 h with rfl | h
      · exact .inl ⟨y, by simp, rfl, rfl⟩
      · exact .inl ⟨x, by simp [h], rfl, rfl⟩
    · rcases List.mem_cons.1 h with rfl | h
      · exact .inl ⟨x, by simp, rfl, rfl⟩
      · rcases ih h with ⟨z, hz, h1⟩ | h1
        · exact .inl ⟨z, by simp [hz], h1⟩
        · exact .inr h1
theorem addS_pair {ss : List Ev} {e : Ev} (h : ss.Pairwise keyNe) : (addS ss e).Pairwise keyNe := by
  induction ss with
  | nil => simp [addS]
  | cons y t ih =>
    obtain ⟨h1, h2⟩ := List.pairwise_cons.1 h
    simp only [addS]
    split
    · exact List.pairwise_cons.2 ⟨fun z hz => h1 z hz, h2⟩
    · rename_i hk
      refine List.pairwise_cons.2 ⟨fun z hz => ?_, ih h2⟩
      rcases addS_mem hz with ⟨u, hu, h3, _⟩ | rfl
      · intro hq
        exact h1 u hu (hq.trans h3)
      · exact fun hq => hk hq.symm
theorem sets_of_k {x y : Ev} (h : x.k = y.k) : setsB x = setsB y ∧ makesB x = makesB y := by simp [setsB, makesB, h]
theorem Inv.add {ms ss : List Ev} (h : Inv ms ss) {e : Ev} (he : makesB e = false) : Inv (addM ms e) (addT ss e) := by
  unfold addM addT
  cases hs : setsB e with
  | false =>
    refine ⟨fun x hx => ?_, h.s, h.k⟩
    rcases List.mem_append.1 hx with h1 | h1
    · exact h.m x h1
    · rw [List.mem_singleton.1 h1]; exact ⟨hs, he⟩
  | true =>
    refine ⟨h.m, fun x hx => ?_, addS_pair h.k⟩
    rcases addS_mem hx with ⟨y, hy, _, h2⟩ | rfl
    · rw [(sets_of_k h2).1, (sets_of_k h2).2]; exact h.s y hy
    · exact ⟨hs, he⟩
theorem netG_out (l : List Ev) : ∀ out ms ss, netG out ms ss l = out ++ netG [] ms ss l := by
  induction l with
  | nil => intro out ms ss; simp [netG]
  | cons e t ih =>
    intro out ms ss
    simp only [netG]
    split
    · rw [ih, ih ([] ++ endS ms ss ++ [e])]
      simp
    · exact ih _ _ _
theorem netG_moves {ms : List Ev} (h : ∀ e ∈ ms, setsB e = false ∧ makesB e = false) : ∀ out ms0 ss0 rest, netG out ms0 ss0 (ms ++ rest) = netG out (ms0 ++ ms) ss0 rest := by
  induction ms with
  | nil => intros; simp
  | cons e t ih =>
    intro out ms0 ss0 rest
    obtain ⟨h1, h2⟩ := h e (by simp)
    rw [List.cons_append, netG, h2, if_neg (by simp), addM, addT, h1, if_neg (by simp), if_neg (by simp), ih (fun x hx => h x (by simp [hx]))]
    simp
theorem addS_last {ss : List Ev} {e : Ev} (h : ∀ x ∈ ss, keyNe x e) : addS ss e = ss ++ [e] := by
  induction ss with
  | nil => rfl
  | cons x t ih =>
    rw [addS, if_neg (fun hq => h x (by simp) hq.symm), ih (fun y hy => h y (by simp [hy]))]
    rfl
theorem netG_sets {ss : List Ev} (h : ∀ e ∈ ss, setsB e = true ∧ makesB e = false) : ∀ out ms0 ss0 rest, (ss0 ++ ss).Pairwise keyNe → netG out ms0 ss0 (ss ++ rest) = netG out ms0 (ss0 ++ ss) rest := by
  induction ss with
  | nil => intros; simp
  | cons e t ih =>
    intro out ms0 ss0 rest hp
    obtain ⟨h1, h2⟩ := h e (by simp)
    rw [List.cons_append, netG, h2, if_neg (by simp), addM, addT, h1, if_pos rfl, if_pos rfl,
      addS_last (fun x hx => (List.pairwise_append.1 hp).2.2 x hx e (by simp)), ih (fun x hx => h x (by simp [hx])) _ _ _ _ (by simpa using hp)]
    simp
theorem netG_end {ms ss : List Ev} (h : Inv ms ss) (out rest : List Ev) : netG out [] [] (endS ms ss ++ rest) = netG out ms (ss.filter leftE) rest := by
  unfold endS
  rw [List.append_assoc, netG_moves h.m, netG_sets (fun e he => h.s e (List.mem_filter.1 he).1) _ _ _ _ (by simpa using h.k.filter _)]
  simp
theorem endS_filter (ms ss : List Ev) : endS ms (ss.filter leftE) = endS ms ss := by simp [endS]
theorem netG_net (l : List Ev) : ∀ out ms ss, Inv ms ss → netG out [] [] (netG [] ms ss l) = netG out ms ss l := by
  induction l with
  | nil =>
    intro out ms ss h
    have := netG_end h out []
    rw [List.append_nil] at this
    simp only [netG, List.nil_append] at this ⊢
    rw [this, endS_filter]
  | cons e t ih =>
    intro out ms ss h
    simp only [netG]
    split
    · rename_i hm
      rw [netG_out t ([] ++ endS ms ss ++ [e]), List.nil_append, List.append_assoc, netG_end h, List.singleton_append, netG, if_pos hm, endS_filter, ih _ _ _ Inv.nil]
    · rename_i hm
      exact ih _ _ _ (h.add (by simpa using hm))
theorem netF_net (l : List Ev) : netF (netF l) = netF l := netG_net l [] [] [] Inv.nil
end Go.Proofs.Ytpbocficffbcbaa
namespace Go.Proofs.Ytpbocficffbcbaa
open Go Go.RowKit
set_option linter.unusedVariables false

/-! ### one field set -/
def setO (o : List (List Int)) (a b : Nat) (d : Int) : List (List Int) := o.set a ((o.getD a []).set b d)
def getO (o : List (List Int)) (a b : Nat) : Int := (o.getD a []).getD b 0
theorem setO_len (o : List (List Int)) (a b : Nat) (d : Int) : (setO o a b d).length = o.length := by simp [setO]
theorem setO_big {o : List (List Int)} {a : Nat} (h : o.length ≤ a) (b : Nat) (d : Int) : setO o a b d = o := by
  unfold setO
  rw [List.set_eq_of_length_le h]
theorem setO_at (o : List (List Int)) (a b : Nat) (d : Int) (a' : Nat) : (setO o a b d).getD a' [] = if a = a' ∧ a' < o.length then (o.getD a []).set b d else o.getD a' [] := getD_set _ _ _
theorem getI_set (l : List Int) (i j : Nat) (d : Int) (h : i ≠ j) : (l.set i d).getD j 0 = l.getD j 0 := by
  simp only [List.getD, List.getElem?_set_ne h]
theorem getO_set {o : List (List Int)} {a b a' b' : Nat} (d : Int) (h : a ≠ a' ∨ b ≠ b') : getO (setO o a b d) a' b' = getO o a' b' := by
  unfold getO
  rw [setO_at]
  split
  · rename_i hc
    obtain ⟨rfl, _⟩ := hc
    exact getI_set _ _ _ _ (h.resolve_left (fun h => h rfl))
  · rfl
theorem setO_comm {o : List (List Int)} {a b a' b' : Nat} (d d' : Int) (h : a ≠ a' ∨ b ≠ b') : setO (setO o a b d) a' b' d' = setO (setO o a' b' d') a b d := by
  by_cases ha : a = a'
  · subst ha
    have hb : b ≠ b' := h.resolve_left (fun h => h rfl)
    by_cases hl : a < o.length
    · conv => lhs; unfold setO; rw [show o.set a ((o.getD a []).set b d) = setO o a b d from rfl, setO_at, if_pos ⟨rfl, hl⟩]; unfold setO; rw [List.set_set, List.set_comm _ _ hb]
      conv => rhs; unfold setO; rw [show o.set a ((o.getD a []).set b' d') = setO o a b' d' from rfl, setO_at, if_pos ⟨rfl, hl⟩]; unfold setO; rw [List.set_set]
    · rw [setO_big (by rw [setO_len]; omega), setO_big (by omega), setO_big (by rw [setO_len]; omega), setO_big (by omega)]
  · conv => lhs; rw [setO, setO_at, if_neg (fun hc => ha hc.1)]; unfold setO; rw [List.set_comm _ _ ha]
    conv => rhs; rw [setO, setO_at, if_neg (fun hc => ha hc.1.symm)]; unfold setO
theorem setO_same (o : List (List Int)) (a b : Nat) (d d' : Int) : setO (setO o a b d) a b d' = setO o a b d' := by
  by_cases hl : a < o.length
  · rw [setO, setO_at, if_pos ⟨rfl, hl⟩]
    unfold setO
    rw [List.set_set, List.set_set]
  · rw [setO_big (by rw [setO_len]; omega), setO_big (by omega), setO_big (by omega)]
theorem setI_id (l : List Int) (i : Nat) : l.set i (l.getD i 0) = l := by
  by_cases h : i < l.length
  · simp [List.getD, List.getElem?_eq_getElem h]
  · exact List.set_eq_of_length_le (by omega)
theorem setO_id (o : List (List Int)) (a b : Nat) : setO o a b (getO o a b) = o := by
  unfold setO getO
  rw [setI_id]
  by_cases h : a < o.length
  · simp [List.getD, List.getElem?_eq_getElem h]
  · exact List.set_eq_of_length_le (by omega)

def getF (s : St) (e : Ev) : Int := if e.k = 2 then getO s.o e.a.toNat e.b.toNat else s.p.getD (numAt e) 0
def setF (s : St) (e : Ev) (d : Int) : St := if e.k = 2 then ⟨setO s.o e.a.toNat e.b.toNat d, s.l, s.p⟩ else setP s (numAt e) d
theorem setF_o (s : St) (e : Ev) (d : Int) : (setF s e d).o.length = s.o.length := by unfold setF; split <;> simp [setO_len, setP]
theorem setF_l (s : St) (e : Ev) (d : Int) : (setF s e d).l = s.l := by unfold setF; split <;> rfl
theorem sets_k {e : Ev} (h : setsB e = true) : e.k = 2 ∨ e.k = 3 ∨ e.k = 4 := by simp [setsB] at h; omega
theorem set_step {s : St} {e : Ev} (h : setsB e = true) : doN s e = 0 ↔ chk e = 0 ∧ (e.k = 2 → e.a < (s.o.length : Int)) ∧ getF s e = e.c := by
  have hk := sets_k h
  unfold doN getF
  by_cases hc : chk e = 0
  · rw [if_pos hc, if_neg (by omega), if_neg (by omega), if_neg (by omega)]
    by_cases h2 : e.k = 2
    · rw [if_pos h2, if_pos h2]
      by_cases hl : (s.o.length : Int) ≤ e.a
      · rw [if_pos hl]
        constructor
        · intro h; cases h
        · rintro ⟨_, h1, _⟩; have := h1 h2; omega
      · rw [if_neg hl]
        unfold getO obj
        by_cases hg : (s.o.getD e.a.toNat []).getD e.b.toNat 0 = e.c
        · rw [if_pos hg]; exact ⟨fun _ => ⟨hc, fun _ => by omega, hg⟩, fun _ => rfl⟩
        · rw [if_neg hg]; exact ⟨fun h => (by cases h), fun h => absurd h.2.2 hg⟩
    · rw [if_neg h2, if_neg h2]
      by_cases hg : s.p.getD (numAt e) 0 = e.c
      · rw [if_pos hg]; exact ⟨fun _ => ⟨hc, fun h => absurd h h2, hg⟩, fun _ => rfl⟩
      · rw [if_neg hg]; exact ⟨fun h => (by cases h), fun h => absurd h.2.2 hg⟩
  · rw [if_neg hc]
    exact ⟨fun h => absurd h hc, fun h => absurd h.1 hc⟩
theorem set_state (s : St) {e : Ev} (h : setsB e = true) : doS s e = setF s e e.d := by
  have hk := sets_k h
  unfold doS setF
  rw [if_neg (by omega), if_neg (by omega), if_neg (by omega)]
  rfl

/-- Two fields that are not one. -/
def fldNe (x y : Ev) : Prop := (x.k = 2 ∧ y.k = 2 ∧ (x.a.toNat ≠ y.a.toNat ∨ x.b.toNat ≠ y.b.toNat)) ∨ (x.k = 2 ∧ y.k ≠ 2) ∨ (x.k ≠ 2 ∧ y.k = 2) ∨ (x.k ≠ 2 ∧ y.k ≠ 2 ∧ numAt x ≠ numAt y)
theorem fldNe_of {x y : Ev} (hx : setsB x = true) (hy : setsB y = true) (cx : chk x = 0) (cy : chk y = 0) (h : keyNe x y) : fldNe x y := by
  have kx := sets_k hx
  have ky := sets_k hy
  have hne : ¬ (x.k = y.k ∧ x.a = y.a ∧ x.b = y.b) := fun ⟨h1, h2, h3⟩ => h (by simp [keyE, h1, h2, h3])
  unfold fldNe numAt
  rcases kx with kx | kx | kx <;> rcases ky with ky | ky | ky
  · have := chk_obj cx kx; have := chk_obj cy ky
    exact .inl ⟨kx, ky, by omega⟩
  · exact .inr (.inl ⟨kx, by omega⟩)
  · exact .inr (.inl ⟨kx, by omega⟩)
  · exact .inr (.inr (.inl ⟨by omega, ky⟩))
  · have := chk_play cx kx; have := chk_play cy ky
    exact .inr (.inr (.inr ⟨by omega, by omega, by rw [if_pos kx, if_pos ky]; omega⟩))
  · have := chk_play cx kx; have := chk_game cy ky
    exact .inr (.inr (.inr ⟨by omega, by omega, by rw [if_pos kx, if_neg (by omega)]; omega⟩))
  · exact .inr (.inr (.inl ⟨by omega, ky⟩))
  · have := chk_game cx kx; have := chk_play cy ky
    exact .inr (.inr (.inr ⟨by omega, by omega, by rw [if_neg (by omega), if_pos ky]; omega⟩))
  · have := chk_game cx kx; have := chk_game cy ky
    exact .inr (.inr (.inr ⟨by omega, by omega, by rw [if_neg (by omega), if_neg (by omega)]; omega⟩))
theorem fldNe.symm {x y : Ev} (h : fldNe x y) : fldNe y x := by
  rcases h with ⟨h1, h2, h3⟩ | ⟨h1, h2⟩ | ⟨h1, h2⟩ | ⟨h1, h2, h3⟩
  · exact .inl ⟨h2, h1, h3.imp Ne.symm Ne.symm⟩
  · exact .inr (.inr (.inl ⟨h2, h1⟩))
  · exact .inr (.inl ⟨h2, h1⟩)
  · exact .inr (.inr (.inr ⟨h2, h1, Ne.symm h3⟩))
theorem getF_set {s : St} {x y : Ev} (d : Int) (h : fldNe x y) : getF (setF s x d) y = getF s y := by
  unfold getF setF
  rcases h with ⟨h1, h2, h3⟩ | ⟨h1, h2⟩ | ⟨h1, h2⟩ | ⟨h1, h2, h3⟩
  · rw [if_pos h1, if_pos h2, if_pos h2]; exact getO_set d h3
  · rw [if_pos h1, if_neg h2, if_neg h2]
  · rw [if_neg h1, if_pos h2, if_pos h2]; rfl
  · rw [if_neg h1, if_neg h2, if_neg h2]; exact getI_set _ _ _ _ h3
theorem setF_comm {s : St} {x y : Ev} (d d' : Int) (h : fldNe x y) : setF (setF s x d) y d' = setF (setF s y d') x d := by
  unfold setF
  rcases h with ⟨h1, h2, h3⟩ | ⟨h1, h2⟩ | ⟨h1, h2⟩ | ⟨h1, h2, h3⟩
  · simp only [if_pos h1, if_pos h2]; rw [setO_comm d d' h3]
  · simp only [if_pos h1, if_neg h2]; rfl
  · simp only [if_neg h1, if_pos h2]; rfl
  · simp only [if_neg h1, if_neg h2, setP]; rw [List.set_comm _ _ h3]
theorem key_parts {x y : Ev} (h : keyE x = keyE y) : x.k = y.k ∧ x.a = y.a ∧ x.b = y.b := by simpa [keyE] using h
theorem setF_key {s : St} {x y : Ev} (d d' : Int) (h : keyE x = keyE y) : setF (setF s x d) y d' = setF s x d' := by
  obtain ⟨h1, h2, h3⟩ := key_parts h
  unfold setF numAt setP
  rw [h1, h2, h3]
  split
  · simp only [setO_same]
  · simp
theorem setF_id (s : St) (e : Ev) : setF s e (getF s e) = s := by
  unfold setF getF
  split
  · rw [setO_id]
  · unfold setP
    rw [setI_id]

/-! ### events run -/
def runO (s : St) : List Ev → Option St
  | [] => some s
  | e :: t => if doN s e = 0 then runO (doS s e) t else none
theorem runO_append (l k : List Ev) : ∀ s, runO s (l ++ k) = (runO s l).bind (fun t => runO t k) := by
  induction l with
  | nil => intro s; rfl
  | cons e t ih =>
    intro s
    simp only [List.cons_append, runO]
    split
    · exact ih _
    · rfl
theorem run_of_runO {l : List Ev} : ∀ {s t : St}, runO s l = some t → run s l = (t, (l.length : Int), 0) := by
  induction l with
  | nil => intro s t h; simp [runO] at h; simp [run, h]
  | cons e r ih =>
    intro s t h
    simp only [runO] at h
    split at h
    · rename_i hd
      simp [run, hd, ih h]
    · cases h
theorem runO_of_run {l : List Ev} : ∀ {s : St}, (run s l).2.2 = 0 → runO s l = some (run s l).1 := by
  induction l with
  | nil => intro s h; rfl
  | cons e r ih =>
    intro s h
    simp only [run, runO] at h ⊢
    split at h
    · rename_i hd
      rw [if_pos hd, if_pos hd]
      exact ih h
    · rename_i hd
      exact absurd h hd

/-- Where the events l run, the events k run, to the same state. -/
def Run (l k : List Ev) : Prop := ∀ s t, runO s l = some t → runO s k = some t
theorem Run.refl (l : List Ev) : Run l l := fun _ _ h => h
theorem Run.trans {l k m : List Ev} (h : Run l k) (h' : Run k m) : Run l m := fun s t x => h' s t (h s t x)
theorem Run.left {l k : List Ev} (h : Run l k) (m : List Ev) : Run (m ++ l) (m ++ k) := fun s t x => by
  rw [runO_append] at x ⊢
  cases hm : runO s m with
  | none => rw [hm] at x; cases x
  | some u => rw [hm] at x; exact h u t x
theorem Run.right {l k : List Ev} (h : Run l k) (m : List Ev) : Run (l ++ m) (k ++ m) := fun s t x => by
  rw [runO_append] at x ⊢
  cases hm : runO s l with
  | none => rw [hm] at x; cases x
  | some u => rw [hm] at x; rw [h s u hm]; exact x
theorem Run.cons {l k : List Ev} (h : Run l k) (e : Ev) : Run (e :: l) (e :: k) := h.left [e]
theorem two_run {s t : St} {x y : Ev} (h : runO s [x, y] = some t) : doN s x = 0 ∧ doN (doS s x) y = 0 ∧ doS (doS s x) y = t := by
  simp only [runO] at h
  split at h
  · rename_i h1
    split at h
    · rename_i h2
      exact ⟨h1, h2, Option.some.inj h⟩
    · cases h
  · cases h
theorem run_two {s t : St} {x y : Ev} (h1 : doN s x = 0) (h2 : doN (doS s x) y = 0) (h3 : doS (doS s x) y = t) : runO s [x, y] = some t := by simp [runO, h1, h2, h3]

theorem comm_sets {x y : Ev} (hx : setsB x = true) (hy : setsB y = true) (h : keyNe x y) : Run [x, y] [y, x] := fun s t hr => by
  obtain ⟨h1, h2, h3⟩ := two_run hr
  rw [set_state s hx] at h2 h3
  rw [set_state _ hy] at h3
  obtain ⟨a1, a2, a3⟩ := (set_step hx).1 h1
  obtain ⟨b1, b2, b3⟩ := (set_step hy).1 h2
  have hf := fldNe_of hx hy a1 b1 h
  rw [getF_set _ hf] at b3
  rw [setF_o] at b2
  refine run_two ((set_step hy).2 ⟨b1, b2, b3⟩) ?_ ?_
  · rw [set_state s hy]
    exact (set_step hx).2 ⟨a1, by rw [setF_o]; exact a2, by rw [getF_set _ hf.symm]; exact a3⟩
  · rw [set_state s hy, set_state _ hx, ← setF_comm _ _ hf]
    exact h3
theorem chk_merge {x y : Ev} (hx : setsB x = true) (h : keyE x = keyE y) (cx : chk x = 0) (cy : chk y = 0) : chk { x with d := y.d } = 0 := by
  obtain ⟨h1, h2, h3⟩ := key_parts h
  obtain ⟨a1, a2, a3, a4⟩ := chk_zero cx
  obtain ⟨b1, b2, b3, b4⟩ := chk_zero cy
  have hk := sets_k hx
  have hm : makesB x = false := by simp [makesB]; omega
  have hm' : makesB { x with d := y.d } = false := hm
  have hmy : makesB y = false := by simp [makesB, ← h1]; omega
  have s3 : spareB { x with d := y.d } = true := by
    simp only [spareB, hm, hm', Bool.false_eq_true, if_false] at a3 ⊢
    exact a3
  have s4 : rangesB ⟨x.k, x.a, x.b, x.c, y.d, x.e⟩ = true := by
    rcases hk with hk | hk | hk
    · have := chk_obj cx hk; have := chk_obj cy (by omega)
      simp [rangesB, makesB, hk, smallB, inB]
      omega
    · have := chk_play cx hk; have := chk_play cy (by omega)
      simp [rangesB, makesB, hk, smallB, inB]
      omega
    · have := chk_game cx hk; have := chk_game cy (by omega)
      simp [rangesB, makesB, hk, smallB, inB]
      omega
  have s5 : inB ({ x with d := y.d } : Ev).k 6 = true := by simp [inB]; omega
  simp [chk, s3, s4, s5]
theorem merge_sets {x y : Ev} (hx : setsB x = true) (hy : setsB y = true) (h : keyE x = keyE y) : Run [x, y] [{ x with d := y.d }] := fun s t hr => by
  obtain ⟨h1, h2, h3⟩ := two_run hr
  rw [set_state s hx] at h2 h3
  rw [set_state _ hy, setF_key _ _ h] at h3
  obtain ⟨a1, a2, a3⟩ := (set_step hx).1 h1
  obtain ⟨b1, b2, b3⟩ := (set_step hy).1 h2
  have hx' : setsB { x with d := y.d } = true := hx
  have hd : doN s { x with d := y.d } = 0 := (set_step hx').2 ⟨chk_merge hx h a1 b1, a2, a3⟩
  simp only [runO, hd, if_true, set_state s hx']
  exact congrArg some h3
theorem drop_set {x : Ev} (hx : setsB x = true) (h : leftE x = false) : Run [x] [] := fun s t hr => by
  simp only [runO] at hr ⊢
  split at hr
  · rename_i h1
    rw [set_state s hx] at hr
    obtain ⟨a1, a2, a3⟩ := (set_step hx).1 h1
    have hcd : x.c = x.d := by simpa [leftE] using h
    rw [← hcd, ← a3, setF_id] at hr
    exact hr
  · cases hr
theorem comm_move {x m : Ev} (hx : setsB x = true) (hm : setsB m = false) (hk : makesB m = false) : Run [x, m] [m, x] := fun s t hr => by
  obtain ⟨h1, h2, h3⟩ := two_run hr
  rw [set_state s hx] at h2 h3
  obtain ⟨a1, a2, a3⟩ := (set_step hx).1 h1
  have cm : chk m = 0 := by
    unfold doN at h2
    split at h2
    · assumption
    · exact h2
  obtain ⟨m1, m2, _, _⟩ := chk_zero cm
  have km : m.k = 1 := by simp [setsB] at hm; simp [makesB] at hk; omega
  have hz : fldNe x ⟨2, m.a, 3, 0, 0, 0⟩ := by
    by_cases k2 : x.k = 2
    · have := chk_obj a1 k2
      exact .inl ⟨k2, rfl, .inr (by show x.b.toNat ≠ (3 : Int).toNat; omega)⟩
    · exact .inr (.inr (.inl ⟨k2, rfl⟩))
  have hmv : ∀ s : St, doS s m = ⟨(setF s ⟨2, m.a, 3, 0, 0, 0⟩ m.d).o, (mvS s m).l, s.p⟩ := fun s => by
    unfold doS
    rw [if_neg (by omega), if_neg (by omega), if_pos km]
    rfl
  have hl : ∀ s s' : St, s'.l = s.l → (mvS s' m).l = (mvS s m).l := fun s s' h => by simp only [mvS, mvOut, mvTo, lst, h]
  have hn : ∀ s s' : St, s'.l = s.l → s'.o.length = s.o.length → doN s' m = doN s m := fun s s' h h' => by
    simp only [doN, km, mvB, mvOut, mvTo, lst, h, h']
    rfl
  have e1 := hn s (setF s x x.d) (setF_l _ _ _) (setF_o _ _ _)
  rw [e1] at h2
  have hg : getF (doS s m) x = getF s x := by
    have := getF_set (s := s) m.d hz.symm
    rw [hmv, ← this]
    unfold getF setF
    simp only [if_true]
  have ho : (doS s m).o.length = s.o.length := by rw [hmv]; exact setF_o _ _ _
  refine run_two h2 ((set_step hx).2 ⟨a1, by rw [ho]; exact a2, by rw [hg]; exact a3⟩) ?_
  rw [set_state _ hx, ← h3, hmv, hmv, hl _ _ (setF_l _ _ _)]
  have hc := setF_comm (s := s) x.d m.d hz
  unfold setF at hc ⊢
  by_cases k2 : x.k = 2
  · simp only [if_pos k2, if_true] at hc ⊢
    rw [St.mk.injEq] at hc
    rw [hc.1]
  · simp only [if_neg k2, if_true, setP]
theorem move_back {ss : List Ev} {e : Ev} (h : ∀ x ∈ ss, Run [x, e] [e, x]) : Run (ss ++ [e]) (e :: ss) := by
  induction ss with
  | nil => exact Run.refl _
  | cons x t ih =>
    have h1 : Run (x :: (t ++ [e])) (x :: e :: t) := (ih (fun y hy => h y (by simp [hy]))).cons x
    exact h1.trans ((h x (by simp)).right t)
theorem add_run {ss : List Ev} {e : Ev} (hs : ∀ x ∈ ss, setsB x = true) (he : setsB e = true) (hp : ss.Pairwise keyNe) : Run (ss ++ [e]) (addS ss e) := by
  induction ss with
  | nil => exact Run.refl _
  | cons x t ih =>
    obtain ⟨h1, h2⟩ := List.pairwise_cons.1 hp
    simp only [addS]
    split
    · rename_i hk
      have h3 : Run (x :: (t ++ [e])) (x :: e :: t) := (move_back (fun y hy => comm_sets (hs y (by simp [hy])) he (fun hq => h1 y hy (hk.symm.trans hq.symm)))).cons x
      exact h3.trans ((merge_sets (hs x (by simp)) he hk.symm).right t)
    · exact (ih (fun y hy => hs y (by simp [hy])) h2).cons x
theorem filter_run {ss : List Ev} (hs : ∀ x ∈ ss, setsB x = true) : Run ss (ss.filter leftE) := by
  induction ss with
  | nil => exact Run.refl _
  | cons x t ih =>
    have h1 := ih (fun y hy => hs y (by simp [hy]))
    rw [List.filter_cons]
    split
    · exact h1.cons x
    · rename_i hl
      have h2 : Run (x :: t) ([] ++ t) := (drop_set (hs x (by simp)) (by simpa using hl)).right t
      exact h2.trans h1
theorem end_run {ms ss : List Ev} (h : Inv ms ss) : Run (ms ++ ss) (endS ms ss) := (filter_run (fun x hx => (h.s x hx).1)).left ms
theorem netG_run (l : List Ev) : ∀ out ms ss, Inv ms ss → Run (out ++ (ms ++ ss) ++ l) (netG out ms ss l) := by
  induction l with
  | nil =>
    intro out ms ss h
    rw [List.append_nil]
    exact (end_run h).left out
  | cons e t ih =>
    intro out ms ss h
    simp only [netG]
    split
    · have h1 := ih (out ++ endS ms ss ++ [e]) [] [] Inv.nil
      have h2 : Run (out ++ (ms ++ ss) ++ e :: t) (out ++ endS ms ss ++ e :: t) := ((end_run h).left out).right _
      refine h2.trans ?_
      simpa using h1
    · rename_i hm
      have hm' : makesB e = false := by simpa using hm
      have h1 := ih out (addM ms e) (addT ss e) (h.add hm')
      refine Run.trans ?_ h1
      have h2 : Run (ms ++ ss ++ [e]) (addM ms e ++ addT ss e) := by
        unfold addM addT
        cases hs : setsB e with
        | true =>
          simp only [if_true, List.append_assoc]
          exact (add_run (fun x hx => (h.s x hx).1) hs h.k).left ms
        | false =>
          simp only [Bool.false_eq_true, if_false, List.append_assoc]
          exact (move_back (fun x hx => comm_move (h.s x hx).1 hs hm')).left ms
      have h3 := (h2.left out).right t
      simpa using h3
theorem netF_run {s : St} {l : List Ev} (h : (run s l).2.2 = 0) : run s (netF l) = ((run s l).1, ((netF l).length : Int), 0) :=
  run_of_runO (netG_run l [] [] [] Inv.nil s _ (runO_of_run h))
end Go.Proofs.Ytpbocficffbcbaa
namespace Go.Proofs.Ytpbocficffbcbaa
open Go Go.RowKit
set_option linter.unusedVariables false
set_option linter.unusedSimpArgs false

set_option maxRecDepth 100000 in
set_option maxHeartbeats 3200000 in
theorem netSame (w : World) (cs : Array Value) (s : St) (h : StC w cs s) (ok : StOk s) (a : Option Addr) (n cap : Nat) (l : List Ev) (hl : SlAt w 6 a n cap (evs l)) :
    Calls Try.prog 12 #[.agg cs, .slice a n cap] w (fun x w' => x = .returned (.bool true) ∧ Below w.heap.size w w') := by
  have b0 : Below w.heap.size w (w.alloc (.cells cs 79)) := (Below.refl _ w).alloc (Nat.le_refl _) _
  have oc := alloc_new w (.cells cs 79)
  have hsz := h.size
  obtain ⟨lb, hlb⟩ : ∃ lb, lb = longB s 100 := ⟨_, rfl⟩
  have Hlb := Lib.hid hlb
  have hz0 : (w.alloc (.cells cs 79)).heap.size = w.heap.size + 1 := by simp
  have Hz0 := Lib.hid hz0
  have B0 := Lib.hid b0
  have Oc0 := Lib.hid oc
  have H0 := Lib.hid (h.all b0)
  have Hl0 := Lib.hid (hl.all b0)
  have Ok := Lib.hid ok
  have Hln := Lib.hid (ev_len hl)
  clear b0 oc h ok hlb hz0 hl
  go_enter Try.func12, Try.ntmps12
  go_wp2_with fail
  generalize (w.alloc (.cells cs 79)) = w0 at *
  refine (alive13 _).mono ?_
  rintro x w1 ⟨rfl, hb⟩
  have hw1 : w.heap.size + 1 ≤ w1.heap.size := by have := hb.size; have := Hz0.out; omega
  have Oc1 := Lib.hid (below_obj hb Oc0.out (obj_lt Oc0.out))
  have H1 := Lib.hid (H0.out.all hb)
  have Hl1 := Lib.hid (Hl0.out.all hb)
  have B1 := Lib.hid (B0.out.trans (hb.mono B0.out.size))
  clear hb
  go_wp2_with (refine wpList_load_whole rfl 79 (.tmp 2) rfl (w.heap.size) rfl 79 cs (0, 0) Oc1.out _ Try.underlying79 rfl (by rw [hsz]; exact Try.sizeSt) ?_)
  refine (long _ cs s H1.out 100 (by decide) lb Hlb.out).mono ?_
  rintro x w2 ⟨rfl, hb⟩
  have Oc2 := Lib.hid (below_obj hb Oc1.out (obj_lt Oc1.out))
  have H2 := Lib.hid (H1.out.all hb)
  have Hl2 := Lib.hid (Hl1.out.all hb)
  have B2 := Lib.hid (B1.out.trans (hb.mono B1.out.size))
  have hw2 := hb.size
  clear hb
  cases lb
  rotate_left
  · go_wp2_with fail
    go_ret
    exact ⟨rfl, B2.out⟩
  by_cases hn100 : 100 < n
  · have hgt : (100 : Int) < (n : Int) := by omega
    go_wp2_with fail
    go_ret
    exact ⟨rfl, B2.out⟩
  have hgt : ¬ (100 : Int) < (n : Int) := by omega
  have fits := longB_fits Ok.out Hlb.out.symm
  have Fi := Lib.hid (fits.mono (show 100 + 10 ≤ 1000 by decide))
  clear fits
  obtain ⟨r, hr⟩ : ∃ r, r = run s l := ⟨_, rfl⟩
  have okr := run_ok Ok.out l
  rw [← hr] at okr
  have Hr := Lib.hid hr
  obtain ⟨t1, i1, n1⟩ := r
  have Ok1 := Lib.hid (show StOk t1 from okr)
  clear hr okr
  go_wp2_with fail
  refine (netNet _ _ _ _ l Hl2.out (by omega)).mono ?_
  rintro x w3 ⟨a5, c5, rfl, hr5, hf5, hb⟩
  obtain ⟨nl, hnl⟩ : ∃ nl, nl = netF l := ⟨_, rfl⟩
  rw [← hnl] at hr5 ⊢
  have Hnl := Lib.hid hnl
  obtain ⟨nn, hnn⟩ : ∃ nn, nn = nl.length := ⟨_, rfl⟩
  rw [← hnn] at hr5 ⊢
  have Hnn := Lib.hid hnn
  have hle : nn ≤ n := by have := netF_len l; rw [hnn, hnl]; have := Hln.out; omega
  have Hn3 := Lib.hid hr5.sl
  clear hr5 hf5 hnl hnn
  have Oc3 := Lib.hid (below_obj hb Oc2.out (obj_lt Oc2.out))
  have H3 := Lib.hid (H2.out.all hb)
  have Hl3 := Lib.hid (Hl2.out.all hb)
  have B3 := Lib.hid (B2.out.trans (hb.mono B2.out.size))
  have hw3 := hb.size
  clear hb
  have hgt2 : ¬ (n : Int) < (nn : Int) := by omega
  go_wp2_with fail
  refine (netNet _ _ _ _ nl Hn3.out (by omega)).mono ?_
  rw [show netF nl = nl by rw [Hnl.out]; exact netF_net l]
  rintro x w4 ⟨a6, c6, rfl, hr6, hf6, hb⟩
  rw [← Hnn.out] at hr6 ⊢
  have Hm4 := Lib.hid hr6.sl
  clear hr6 hf6
  have Oc4 := Lib.hid (below_obj hb Oc3.out (obj_lt Oc3.out))
  have H4 := Lib.hid (H3.out.all hb)
  have Hl4 := Lib.hid (Hl3.out.all hb)
  have Hn4 := Lib.hid (Hn3.out.all hb)
  have B4 := Lib.hid (B3.out.trans (hb.mono B3.out.size))
  have hw4 := hb.size
  clear hb
  go_wp2_with fail
  refine (events _ _ _ _ _ _ _ _ _ Hm4.out Hn4.out).mono ?_
  rintro x w5 ⟨rfl, hq⟩
  have hb := hq.below w4.heap.size
  clear hq
  have Oc5 := Lib.hid (below_obj hb Oc4.out (obj_lt Oc4.out))
  have H5 := Lib.hid (H4.out.all hb)
  have Hl5 := Lib.hid (Hl4.out.all hb)
  have Hn5 := Lib.hid (Hn4.out.all hb)
  have B5 := Lib.hid (B4.out.trans (hb.mono B4.out.size))
  have hw5 := hb.size
  clear hb
  rw [show decide (nl = nl) = true by simp]
  go_wp2_with (refine wpList_load_whole rfl 79 (.tmp 2) rfl (w.heap.size) rfl 79 cs (0, 0) Oc5.out _ Try.underlying79 rfl (by rw [hsz]; exact Try.sizeSt) ?_)
  have cr1 := netRun w5 cs s H5.out Ok.out Fi.out a n cap l Hl5.out (by omega)
  rw [← Hr.out] at cr1
  refine cr1.mono ?_
  rintro x w6 ⟨c8, rfl, h8, hb⟩
  have hc8 := h8.size
  have H86 := Lib.hid h8.c
  have On6 := Lib.hid (alloc_new w6 (.cells zSt 79))
  clear h8 cr1
  have Oc6 := Lib.hid (below_obj hb Oc5.out (obj_lt Oc5.out))
  have H6 := Lib.hid (H5.out.all hb)
  have Hl6 := Lib.hid (Hl5.out.all hb)
  have Hn6 := Lib.hid (Hn5.out.all hb)
  have B6 := Lib.hid (B5.out.trans (hb.mono B5.out.size))
  have hw6 := hb.size
  clear hb
  by_cases hn0 : n1 = 0
  rotate_left
  · have Hn0 := Lib.hid hn0
    have hn1 : (n1 != 0) = true := by simp [hn0]
    dsimp only
    rw [errV_pos _ _ hn0]
    clear hn0
    go_wp2_with (refine wpList_store_whole rfl 79 (.tmp 6) (.tmp 38) rfl (w6.heap.size) rfl 79 zSt c8 rfl On6.out (by rw [hc8]; exact Try.sizeSt) (by rw [hc8]; rfl) H86.out.one ?_; intro w7 hobj hupd; have B7 := Lib.hid (B6.out.trans ((stored_below hupd).mono B6.out.size)); clear hobj hupd)
    go_ret
    exact ⟨rfl, B7.out⟩
  subst hn0
  dsimp only
  rw [errV_zero]
  go_wp2_with (first | (refine wpList_store_whole rfl 79 (.tmp 6) (.tmp 38) rfl (w6.heap.size) rfl 79 zSt c8 rfl On6.out (by rw [hc8]; exact Try.sizeSt) (by rw [hc8]; rfl) H86.out.one ?_; intro w7 hobj hupd; have hb := stored_below hupd; have O87 := Lib.hid hobj; have H87 := Lib.hid (H86.out.all hb); have hp8 := obj_lt hobj; have Oc7 := Lib.hid (below_obj hb Oc6.out (obj_lt Oc6.out)); have H7 := Lib.hid (H6.out.all hb); have Hl7 := Lib.hid (Hl6.out.all hb); have Hn7 := Lib.hid (Hn6.out.all hb); have B7 := Lib.hid (B6.out.trans (hb.mono B6.out.size)); have hw7 := hb.size; clear hb; clear hobj hupd) | (refine wpList_load_whole rfl 79 (.tmp 2) rfl (w.heap.size) rfl 79 cs (0, 0) Oc7.out _ Try.underlying79 rfl (by rw [hsz]; exact Try.sizeSt) ?_))
  have hrn : run s nl = (t1, (nn : Int), 0) := by
    have h0 := netF_run (s := s) (l := l) (by rw [← Hr.out])
    rw [← Hr.out, ← Hnl.out, ← Hnn.out] at h0
    exact h0
  have cr2 := netRun w7 cs s H7.out Ok.out Fi.out _ _ _ nl Hn7.out (by omega)
  rw [hrn] at cr2
  refine cr2.mono ?_
  rintro x w8 ⟨c9, rfl, h9, hb⟩
  have hc9 := h9.size
  have H98 := Lib.hid h9.c
  have On8 := Lib.hid (alloc_new w8 (.cells zSt 79))
  clear h9 cr2 hrn
  have Oc8 := Lib.hid (below_obj hb Oc7.out (obj_lt Oc7.out))
  have O88 := Lib.hid (below_obj hb O87.out (obj_lt O87.out))
  have H8 := Lib.hid (H7.out.all hb)
  have Hl8 := Lib.hid (Hl7.out.all hb)
  have Hn8 := Lib.hid (Hn7.out.all hb)
  have H88 := Lib.hid (H87.out.all hb)
  have B8 := Lib.hid (B7.out.trans (hb.mono B7.out.size))
  have hw8 := hb.size
  clear hb
  dsimp only
  rw [errV_zero]
  go_wp2_with (first | (refine wpList_store_whole rfl 79 (.tmp 9) (.tmp 47) rfl (w8.heap.size) rfl 79 zSt c9 rfl On8.out (by rw [hc9]; exact Try.sizeSt) (by rw [hc9]; rfl) H98.out.one ?_; intro w9 hobj hupd; have hb := stored_below hupd; have O99 := Lib.hid hobj; have H99 := Lib.hid (H98.out.all hb); have hp9 := obj_lt hobj; have Oc9 := Lib.hid (below_obj hb Oc8.out (obj_lt Oc8.out)); have O89 := Lib.hid (below_obj hb O88.out (obj_lt O88.out)); have H9 := Lib.hid (H8.out.all hb); have Hl9 := Lib.hid (Hl8.out.all hb); have Hn9 := Lib.hid (Hn8.out.all hb); have H89 := Lib.hid (H88.out.all hb); have B9 := Lib.hid (B8.out.trans (hb.mono B8.out.size)); have hw9 := hb.size; clear hb; clear hobj hupd) | (refine wpList_load_wholeG rfl 79 (.tmp 6) rfl (w6.heap.size) rfl 79 c8 (0, 0) O89.out _ Try.underlying79 rfl (by rw [hc8]; exact Try.sizeSt) ?_) | (refine wpList_load_wholeG rfl 79 (.tmp 9) rfl (w8.heap.size) rfl 79 c9 (0, 0) O99.out _ Try.underlying79 rfl (by rw [hc9]; exact Try.sizeSt) ?_))
  refine (states _ _ _ _ _ H89.out H99.out Ok1.out Ok1.out true (stEq_self _).symm).mono ?_
  rintro x w10 ⟨rfl, hb⟩
  have Bd := Lib.hid (B9.out.trans (hb.mono B9.out.size))
  clear hb
  go_wp2_with fail
  go_ret
  exact ⟨rfl, Bd.out⟩
end Go.Proofs.Ytpbocficffbcbaa
namespace Go.Proofs.Ytpbocficffbcbaa
open Go Go.RowKit Go.ChangeShapes Go.WideShapes
set_option linter.unusedVariables false

namespace LawNetSame
theorem own : ownKnob Try.prog.godebug = none := by kernel_rfl
set_option maxRecDepth 100000 in
theorem lifted (os : Os) (started : os.Started) (H : Type) (enc : TypeId × Value → H) :
    ReturnsInHanded {} Try.checked os 12 .any (Rows.netSameSpec.pre6 enc Try.prog Try.f12 Rows.netSameRow.domain false) (Rows.netSameSpec.post enc Try.prog Try.f12 false true false false) := by
  refine returnsInHanded_of_change (C := Try.checked) own started (by kernel_rfl) Try.func12
    (ChangeSpec.witness6 (enc := enc) (C := Try.checked) false ⟨#[], #[.agg #[.slice none 0 0, .slice none 0 0, .slice none 0 0, .slice none 0 0, .slice none 0 0, .slice none 0 0, .slice none 0 0, .slice none 0 0, .slice none 0 0, .slice none 0 0, .slice none 0 0, .slice none 0 0, .int .i64 0, .int .i64 0, .int .i64 0, .int .i64 0, .int .i64 0, .int .i64 0, .int .i64 0, .int .i64 0, .int .i64 0, .int .i64 0, .int .i64 0, .int .i64 0, .int .i64 0, .int .i64 0, .int .i64 0, .int .i64 0, .int .i64 0, .int .i64 0, .int .i64 0, .int .i64 0, .int .i64 0, .int .i64 0, .int .i64 0, .int .i64 0, .int .i64 0], .slice none 0 0], []⟩ 8 (by kernel_rfl) (by kernel_rfl) (by kernel_rfl) (by kernel_rfl)) ?_
  intro W base args ds gs before hval0 hW hcnd _
  have hval : ∀ (j : Nat) t v, Try.f12.params[j]? = some t → args[j]? = some v → Value.okWide Try.prog W .any base t v := hval0
  have hW' := hW
  have hlt := hW.lt
  obtain ⟨p, q, hA0, hV, rfl, hfz, hnd⟩ := hW
  have hA : DataW.TrodAll enc Try.prog W 0 (fun _ => true) true Try.f12.params.toList args.toList ds p := hA0
  rw [Try.params12] at hA hval
  obtain ⟨v0, vs0, d0, ds0, p0, q0, hargs, rfl, rfl, h0, r0⟩ := trodAll_cons hA
  obtain ⟨v1, vs1, d1, ds1, p1, q1, rfl, rfl, rfl, h1, r1⟩ := trodAll_cons r0
  obtain ⟨rfl, rfl, rfl⟩ := trodAll_nil r1
  obtain rfl : args = #[v0, v1] := by cases args; simp_all
  obtain ⟨rfl, rfl⟩ := trodVars_none hV
  obtain ⟨fuel0, hf0⟩ := h0
  obtain ⟨fuel1, hf1⟩ := h1
  obtain ⟨cs, s, rfl, hs, ok⟩ := open_state (hval 0 79 v0 rfl rfl) hf0
  obtain ⟨a1, n1, c1, z1, hcs1, hs1, hl1, hb1⟩ := open_rows Try.underlying40 (by decide) (by kernel_rfl) evCells hf1
  obtain ⟨s10, s11, s12, rfl⟩ := okWide_slice Try.underlying40 (hval 1 40 v1 rfl rfl)
  simp only [Value.cells, List.cons.injEq, Value.slice.injEq, and_true] at hcs1
  obtain ⟨rfl, rfl, rfl⟩ := hcs1
  obtain ⟨e1, he1, _⟩ := evs_of _ _ hl1
  rw [he1] at hs1
  refine (netSame W cs s hs ok _ _ _ e1 hs1).mono fun e W' ⟨he, hb⟩ => ?_
  subst he
  exact ⟨_, rfl, post_true (by kernel_rfl) rfl Try.underlying4 (by kernel_rfl) rfl rfl hW' hb⟩

theorem proved : Rows.NetSameSaid :=
  OpenClaim.holds_of_wide 12 Try.f12 rfl rfl rfl rfl rfl rfl rfl ⟨rfl, rfl, rfl, rfl, rfl⟩ rfl rfl rfl rfl rfl (by kernel_rfl) Try.func12 (by kernel_rfl)
    (of_decide_eq_true (by kernel_rfl)) (by unfold Func.isWrapper; first | (rw [if_pos (by decide +kernel)]; kernel_rfl) | (rw [if_neg (by decide +kernel)]; exact ⟨rfl, rfl⟩))
    (fun os started H enc _ => lifted os started H enc)
end LawNetSame
end Go.Proofs.Ytpbocficffbcbaa
