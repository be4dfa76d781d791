/-
  JournalPlays: what a journal answers, call by call: the law, at every input. No condition.
-/
import Derived.Test.YtpbocficffbcbaaJPlaysA
import Derived.Test.YtpbocficffbcbaaRow
import Derived.Laws.Rows
import Derived.Test.YtpbocficffbcbaaJour4
import Derived.Test.YtpbocficffbcbaaEvs2
import Derived.Test.YtpbocficffbcbaaJour7
import Derived.Test.YtpbocficffbcbaaBase
import Derived.ProofKit
import Derived.OpenShut
import Derived.Deep.Slices
import Derived.Test.YtpbocficffbcbaaEvs
import Derived.Test.YtpbocficffbcbaaState
import Derived.Deep.DeepCutAuto
import Derived.Deep.CutBlock
import Derived.WalkKit
import Derived.Test.YtpbocficffbcbaaRows
namespace Go.Proofs.Ytpbocficffbcbaa
open Go Go.RowKit
set_option linter.unusedVariables false
set_option linter.unusedSimpArgs false

theorem Try.infoPart : (Try.prog.info? 128).map (fun i => (i.zero, i.size, i.bytes)) = some (some (.agg #[.int .i64 0, .slice none 0 0]), 2, 32) := by kernel_rfl
theorem Try.sizeRJ : (Try.prog.info? 56).map (·.size) = some 2 := by kernel_rfl

theorem held2 {x : World} {b : Nat} {p q u v : Value} (h : x.cell? ⟨b, 0, none⟩ = some p ∧ x.cell? ⟨b, 1, none⟩ = some q) : ((x.setCell ⟨b + 1, 0, none⟩ u).setCell ⟨b + 1, 1, none⟩ v).cell? ⟨b, 0, none⟩ = some p ∧ ((x.setCell ⟨b + 1, 0, none⟩ u).setCell ⟨b + 1, 1, none⟩ v).cell? ⟨b, 1, none⟩ = some q :=
  ⟨cell_set_other (cell_set_other h.1 (by simp)) (by simp), cell_set_other (cell_set_other h.2 (by simp)) (by simp)⟩
/-- Behind a call that hands back a journal of the document's. -/
def RefJTo (w : World) (M : Nat → Prop) (qs' : List Pt) (last' : Int) (e : Ending) (w' : World) : Prop :=
  ∃ a' c' rs', e = .returned (.agg #[.slice a' qs'.length c', .int .i64 last']) ∧ rs'.map prP = qs' ∧ PtAt w' (fun k => M k ∨ (w.heap.size ≤ k ∧ k < w'.heap.size)) a' qs'.length c' rs' ∧ Below w.heap.size w w'
theorem PtAt.of_row {w w' : World} {M : Nat → Prop} {a : Option Addr} {n c : Nat} {rs : List Pr} (hr : RowAt w' 128 2 a n c (prs rs)) (hf : Fresh w.heap.size a) (hev : ∀ p ∈ rs, SlAt w' 6 p.a p.l.length p.c (evs p.l)) (hE : ∀ p ∈ rs, ∀ ad, p.a = some ad → M ad.block ∨ (w.heap.size ≤ ad.block ∧ ad.block < w'.heap.size)) :
    PtAt w' (fun k => M k ∨ (w.heap.size ≤ k ∧ k < w'.heap.size)) a n c rs :=
  ⟨hr.sl, hev, hE, fun ad he => .inr ⟨hf ad he, hr.lt ad he⟩⟩


theorem mark_rfin {w w1 w6 : World} {M : Nat → Prop} {a a3 : Option Addr} {n cap c3 : Nat} {rs : List Pr} {last : Int} {o : Obj} (hp : PtAt w M a n cap rs) (hln : rs.length = n) (b0 : Below w.heap.size w w1) (hz : w1.heap.size = w.heap.size + 2) (hx : Below w1.heap.size w1 w6)
    (r6 : RowAt w6 128 2 a3 (n + 1) c3 (prs rs ++ [.int .i64 (last + 1), .slice none 0 0])) (f6 : Fresh w1.heap.size a3) (oz : w1.heap[w.heap.size + 1]? = some o) :
    RefJTo w M (rs.map prP ++ [(last + 1, [])]) (last + 1) (.returned (.agg #[.slice a3 (n + 1) c3, .int .i64 (last + 1)])) ((w6.setCell ⟨w.heap.size + 1, 0, none⟩ (.slice a3 (n + 1) c3)).setCell ⟨w.heap.size + 1, 1, none⟩ (.int .i64 (last + 1))) := by
  have bz := hx.size
  have hl2 : (rs.map prP ++ [(last + 1, [])]).length = n + 1 := by simp [hln]
  have hno : ∀ ad, a3 = some ad → ad.block ≠ w.heap.size + 1 := fun ad he hq => by have := f6 ad he; omega
  have bb : Below w.heap.size w ((w6.setCell ⟨w.heap.size + 1, 0, none⟩ (.slice a3 (n + 1) c3)).setCell ⟨w.heap.size + 1, 1, none⟩ (.int .i64 (last + 1))) :=
    ((b0.trans (hx.mono b0.size)).setCell (p := ⟨w.heap.size + 1, 0, none⟩) (by show w.heap.size ≤ w.heap.size + 1; omega) _).setCell (p := ⟨w.heap.size + 1, 1, none⟩) (by show w.heap.size ≤ w.heap.size + 1; omega) _
  refine ⟨a3, c3, rs ++ [⟨last + 1, [], none, 0⟩], by rw [hl2], by simp [prP], ?_, bb⟩
  rw [hl2]
  refine PtAt.of_row ?_ (f6.mono (by omega)) (fun p hp' => ?_) (fun p hp' ad he => ?_)
  · have := (r6.setCell ⟨w.heap.size + 1, 0, none⟩ hno (.slice a3 (n + 1) c3)).setCell ⟨w.heap.size + 1, 1, none⟩ hno (.int .i64 (last + 1))
    simpa [prs, prC] using this
  · rcases List.mem_append.1 hp' with hp' | hp'
    · exact (hp.ev p hp').all bb
    · simp at hp'
      subst hp'
      exact SlAt.null _ _
  · rcases List.mem_append.1 hp' with hp' | hp'
    · exact .inl (hp.ownE p hp' ad he)
    · simp at hp'
      subst hp'
      simp at he

set_option maxRecDepth 100000 in
set_option maxHeartbeats 1600000 in
theorem refMark (w : World) (M : Nat → Prop) (a : Option Addr) (n cap : Nat) (rs : List Pr) (h : PtAt w M a n cap rs) (last : Int) (h0 : 0 ≤ last) (h1 : last < 1000000000) (hn : n ≤ 1000) :
    Calls Try.prog 45 #[.agg #[.slice a n cap, .int .i64 last]] w (RefJTo w M (rs.map prP ++ [(last + 1, [])]) (last + 1)) := by
  have b0 : Below w.heap.size w ((w.alloc (.cells #[.slice a n cap, .int .i64 last] 56)).alloc (.cells #[.slice none 0 0, .int .i64 0] 56)) := ((Below.refl _ w).alloc (Nat.le_refl _) _).alloc (by simp) _
  have ob := alloc_obj (x := .cells #[.slice none 0 0, .int .i64 0] 56) (alloc_new w (.cells #[.slice a n cap, .int .i64 last] 56))
  have oz := alloc_new (w.alloc (.cells #[.slice a n cap, .int .i64 last] 56)) (.cells #[.slice none 0 0, .int .i64 0] 56)
  rw [World.size_alloc] at oz
  have hz : ((w.alloc (.cells #[.slice a n cap, .int .i64 last] 56)).alloc (.cells #[.slice none 0 0, .int .i64 0] 56)).heap.size = w.heap.size + 2 := by simp
  have Hp := Lib.hid (h.all b0)
  have H0 := Lib.hid h
  have Hln := Lib.hid h.len
  have Ob := Lib.hid ob
  have Oz := Lib.hid oz
  have B0 := Lib.hid b0
  have Hz := Lib.hid hz
  clear h ob oz b0 hz
  go_enter Try.func45, Try.ntmps45
  go_wp2_with fail
  generalize ((w.alloc (.cells #[.slice a n cap, .int .i64 last] 56)).alloc (.cells #[.slice none 0 0, .int .i64 0] 56)) = w1 at *
  have HT := Lib.hid (fun (x : World) (hb : Below w1.heap.size w1 x) => (by
    have o := below_obj hb Ob.out (obj_lt Ob.out)
    exact ⟨obj_cell o 0, obj_cell o 1⟩ : x.cell? ⟨w.heap.size, 0, none⟩ = some (.slice a n cap) ∧ x.cell? ⟨w.heap.size, 1, none⟩ = some (.int .i64 last)))
  have hx : Below w1.heap.size w1 w1.drew := (Below.refl _ _).drew
  have hwr : IntKind.i64.wrap (last + 1) = last + 1 := by simp [IntKind.wrap, IntKind.signed, IntKind.bits]; omega
  refine wp_region_held_drew (S := fun x => x.cell? ⟨w.heap.size, 0, none⟩ = some (.slice a n cap) ∧ x.cell? ⟨w.heap.size, 1, none⟩ = some (.int .i64 last)) (by kernel_rfl) (HT.out _ hx) (fun hHeld => ?_)
  refine wpAnyH_take (i := 1) (oi := ⟨some 4, _, _, _, _, _⟩) (v := ?_) rfl (by kernel_rfl) (by kernel_rfl) (by kernel_rfl) (fun _ _ _ h => h) (Or.inl ⟨by rfl, ?_⟩) hHeld ?_
  rotate_left
  · intro w' hS'
    (try dsimp only at hS')
    go_simp
    try with_reducible rfl
  try simp only [Act.put, List.setIfInBounds_toArray, List.set_cons_zero, List.set_cons_succ]
  refine wpAnyH_take (i := 2) (oi := ⟨some 5, _, _, _, _, _⟩) (v := ?_) rfl (by kernel_rfl) (by kernel_rfl) (by kernel_rfl) (fun _ _ _ h => h) (Or.inl ⟨by rfl, ?_⟩) hHeld ?_
  rotate_left
  · intro w' hS'
    (try dsimp only at hS')
    go_simp
    try with_reducible rfl
  try simp only [Act.put, List.setIfInBounds_toArray, List.set_cons_zero, List.set_cons_succ]
  refine wpAnyH_take (i := 4) (oi := ⟨some 7, _, _, _, _, _⟩) (v := ?_) rfl (by kernel_rfl) (by kernel_rfl) (by kernel_rfl) (fun _ _ _ h => h) (Or.inl ⟨by rfl, ?_⟩) hHeld ?_
  rotate_left
  · intro w' hS'
    (try dsimp only at hS')
    go_simp
    try with_reducible rfl
  try simp only [Act.put, List.setIfInBounds_toArray, List.set_cons_zero, List.set_cons_succ]
  refine wpAnyH_take (i := 5) (oi := ⟨some 8, _, _, _, _, _⟩) (v := ?_) rfl (by kernel_rfl) (by kernel_rfl) (by kernel_rfl) (fun _ _ _ h => h) (Or.inl ⟨by rfl, ?_⟩) hHeld ?_
  rotate_left
  · intro w' hS'
    (try dsimp only at hS')
    go_simp
    try with_reducible rfl
  try simp only [Act.put, List.setIfInBounds_toArray, List.set_cons_zero, List.set_cons_succ]
  refine wpAnyH_take (i := 6) (oi := ⟨some 9, _, _, _, _, _⟩) (v := ?_) rfl (by kernel_rfl) (by kernel_rfl) (by kernel_rfl) (fun _ _ _ h => h) (Or.inl ⟨by rfl, ?_⟩) hHeld ?_
  rotate_left
  · intro w' hS'
    (try dsimp only at hS')
    go_simp
    try with_reducible rfl
  try simp only [Act.put, List.setIfInBounds_toArray, List.set_cons_zero, List.set_cons_succ]
  refine wpAnyH_take (i := 7) (oi := ⟨some 10, _, _, _, _, _⟩) (v := ?_) rfl (by kernel_rfl) (by kernel_rfl) (by kernel_rfl) (fun _ _ _ h => h) (Or.inl ⟨by rfl, ?_⟩) hHeld ?_
  rotate_left
  · intro w' hS'
    (try dsimp only at hS')
    go_simp
    try with_reducible rfl
  try simp only [Act.put, List.setIfInBounds_toArray, List.set_cons_zero, List.set_cons_succ]
  refine wpAnyH_take (i := 10) (oi := ⟨some 13, _, _, _, _, _⟩) (v := ?_) rfl (by kernel_rfl) (by kernel_rfl) (by kernel_rfl) (fun _ _ _ h => h) (Or.inl ⟨by rfl, ?_⟩) hHeld ?_
  rotate_left
  · intro w' hS'
    (try dsimp only at hS')
    go_simp
    try with_reducible rfl
  try simp only [Act.put, List.setIfInBounds_toArray, List.set_cons_zero, List.set_cons_succ]
  refine wpAnyH_take (i := 11) (oi := ⟨some 14, _, _, _, _, _⟩) (v := ?_) rfl (by kernel_rfl) (by kernel_rfl) (by kernel_rfl) (fun _ _ _ h => h) (Or.inl ⟨by rfl, ?_⟩) hHeld ?_
  rotate_left
  · intro w' hS'
    (try dsimp only at hS')
    go_simp
    try with_reducible rfl
  try simp only [Act.put, List.setIfInBounds_toArray, List.set_cons_zero, List.set_cons_succ]
  refine wpAnyH_take (i := 12) (oi := ⟨some 15, _, _, _, _, _⟩) (v := ?_) rfl (by kernel_rfl) (by kernel_rfl) (by kernel_rfl) (fun _ _ _ h => h) (Or.inl ⟨by rfl, ?_⟩) hHeld ?_
  rotate_left
  · intro w' hS'
    (try dsimp only at hS')
    go_simp
    try with_reducible rfl
  try simp only [Act.put, List.setIfInBounds_toArray, List.set_cons_zero, List.set_cons_succ]
  refine wpAnyH_all (rs := [0, 8]) (by kernel_rfl) (by simp) ?_
  intro ix hix
  have hix' : ix = 0 ∨ ix = 8 := by simpa using hix
  clear hix
  rcases hix' with rfl | rfl
  · skip
    refine wpOp_step (o := ⟨some 3, _, _, _, _, _⟩) rfl (fun K hK => ?_)
    have HK := Lib.hid hK
    clear hK
    go_simp
    replace hx : Below w1.heap.size w1 (w1.alloc (.cells #[] 128)).drew := ((Below.refl _ w1).alloc (Nat.le_refl _) (.cells #[] 128)).drew
    have R0 := Lib.hid ((RowAt.lit w1 #[] 128 2 0 (Nat.zero_le _) rfl (by simp)).drew)
    have F0 := Lib.hid (fresh_new (Nat.le_refl w1.heap.size))
    go_wp2_with fail
    refine HK.out _ _ ⟨(HT.out _ hx), ?_⟩
    clear HK
    try clear hHeld
    have hHeld := (HT.out _ hx)
    try simp only [Act.put, List.setIfInBounds_toArray, List.set_cons_zero, List.set_cons_succ]
    refine wpAnyH_all (rs := [3, 8]) (by kernel_rfl) (by simp) ?_
    intro ix hix
    have hix' : ix = 3 ∨ ix = 8 := by simpa using hix
    clear hix
    rcases hix' with rfl | rfl
    · skip
      refine wpOp_step (o := ⟨some 6, _, _, _, _, _⟩) rfl (fun K hK => ?_)
      have HK := Lib.hid hK
      clear hK
      refine step_append_row rfl (.tmp 3) (.tmp 5) 54 rfl 128 (.agg #[.int .i64 0, .slice none 0 0]) 2 32 Try.underlying54 Try.infoPart rfl (by decide) rfl rfl R0.out (Hp.out.all hx).sl (by unfold maxLen; omega) (by omega) ?_
      intro a2 c2 w4 hrow hupd hloc hnil
      simp only [Nat.zero_add, List.nil_append] at hrow ⊢
      have R4 := Lib.hid hrow
      have F4 := Lib.hid (F0.out.step hx.size hloc)
      replace hx := hx.trans (appendBelow F0.out hx.size hupd)
      clear hrow hupd hloc hnil
      refine HK.out _ _ ⟨(HT.out _ hx), ?_⟩
      clear HK
      try clear hHeld
      have hHeld := (HT.out _ hx)
      try simp only [Act.put, List.setIfInBounds_toArray, List.set_cons_zero, List.set_cons_succ]
      refine wpAnyH_all (rs := [8]) (by kernel_rfl) (by simp) ?_
      intro ix hix
      obtain rfl : ix = 8 := by simpa using hix
      clear hix
      refine wpOp_step (o := ⟨some 11, _, _, _, _, _⟩) rfl (fun K hK => ?_)
      have HK := Lib.hid hK
      clear hK
      go_simp
      have Lit := Lib.hid ((RowAt.lit w4 #[.int .i64 (last + 1), .slice none 0 0] 128 2 1 (by decide) rfl (by simp [Value.oneCell'])).sl)
      have R4 := Lib.hid (R4.out.alloc (.cells #[.int .i64 (last + 1), .slice none 0 0] 128))
      replace hx := hx.alloc hx.size (.cells #[.int .i64 (last + 1), .slice none 0 0] 128)
      go_wp2_with fail
      refine HK.out _ _ ⟨(HT.out _ hx), ?_⟩
      clear HK
      try clear hHeld
      have hHeld := (HT.out _ hx)
      try simp only [Act.put, List.setIfInBounds_toArray, List.set_cons_zero, List.set_cons_succ]
      refine wpAnyH_all (rs := [9]) (by kernel_rfl) (by simp) ?_
      intro ix hix
      obtain rfl : ix = 9 := by simpa using hix
      clear hix
      refine wpOp_step (o := ⟨some 12, _, _, _, _, _⟩) rfl (fun K hK => ?_)
      have HK := Lib.hid hK
      clear hK
      refine step_append_row rfl (.tmp 6) (.tmp 11) 54 rfl 128 (.agg #[.int .i64 0, .slice none 0 0]) 2 32 Try.underlying54 Try.infoPart rfl (by decide) rfl rfl R4.out Lit.out (by unfold maxLen; omega) (by omega) ?_
      intro a3 c3 w6 hrow hupd hloc hnil
      have R6 := Lib.hid hrow
      have F6 := Lib.hid (F4.out.step hx.size hloc)
      replace hx := hx.trans (appendBelow F4.out hx.size hupd)
      clear hrow hupd hloc hnil
      refine HK.out _ _ ⟨(HT.out _ hx), ?_⟩
      clear HK
      try clear hHeld
      have hHeld := (HT.out _ hx)
      try simp only [Act.put, List.setIfInBounds_toArray, List.set_cons_zero, List.set_cons_succ]
      refine wpAnyH_take (i := 13) (oi := ⟨some 16, _, _, _, _, _⟩) (v := ?_) rfl (by kernel_rfl) (by kernel_rfl) (by kernel_rfl) (fun _ _ _ h => h) (Or.inl ⟨by rfl, ?_⟩) hHeld ?_
      rotate_left
      · intro w' hS'
        (try dsimp only at hS')
        go_simp
        try with_reducible rfl
      try simp only [Act.put, List.setIfInBounds_toArray, List.set_cons_zero, List.set_cons_succ]
      refine wpAnyH_all (rs := [14]) (by kernel_rfl) (by simp) ?_
      intro ix hix
      obtain rfl : ix = 14 := by simpa using hix
      clear hix
      refine wpOp_step (o := ⟨none, _, _, _, _, _⟩) rfl (fun K hK => ?_)
      have HK := Lib.hid hK
      clear hK
      have o6 := below_obj hx Oz.out (obj_lt Oz.out)
      have k0 := obj_cell o6 0
      have k1 := obj_cell o6 1
      have f0 := obj_free o6 0
      have f1 := obj_free o6 1
      simp at k0 k1
      have O6 := Lib.hid o6
      clear o6
      go_simp
      go_wp2_with fail
      refine HK.out _ _ ⟨(held2 (u := .slice a3 (n + 1) c3) (v := .int .i64 (last + 1)) (HT.out _ hx)), ?_⟩
      clear HK
      try clear hHeld
      have hHeld := (held2 (u := .slice a3 (n + 1) c3) (v := .int .i64 (last + 1)) (HT.out _ hx))
      try simp only [Act.put, List.setIfInBounds_toArray, List.set_cons_zero, List.set_cons_succ]
      refine wpAnyH_done (by kernel_rfl) ?_ _
      go_wp2_with fail
      have o7 := obj_set O6.out 0 (.slice a3 (n + 1) c3)
      have o8 := obj_set o7 1 (.int .i64 (last + 1))
      simp at o8
      refine bodyPost_ret (results_cell_row rfl _ _ _ _ _ _ _ rfl o8 Try.underlying56 rfl Try.sizeRJ) rfl ?_
      exact mark_rfin H0.out Hln.out B0.out Hz.out hx R6.out F6.out Oz.out
    · skip
      refine wpOp_step (o := ⟨some 11, _, _, _, _, _⟩) rfl (fun K hK => ?_)
      have HK := Lib.hid hK
      clear hK
      go_simp
      replace hx : Below w1.heap.size w1 (((w1.alloc (.cells #[] 128)).alloc (.cells #[.int .i64 (last + 1), .slice none 0 0] 128))).drew := (((Below.refl _ w1).alloc (Nat.le_refl _) (.cells #[] 128)).alloc (by simp) (.cells #[.int .i64 (last + 1), .slice none 0 0] 128)).drew
      have R0 := Lib.hid (((RowAt.lit w1 #[] 128 2 0 (Nat.zero_le _) rfl (by simp)).alloc (.cells #[.int .i64 (last + 1), .slice none 0 0] 128)).drew)
      have Lit' := ((RowAt.lit (w1.alloc (.cells #[] 128)) #[.int .i64 (last + 1), .slice none 0 0] 128 2 1 (by decide) rfl (by simp [Value.oneCell'])).sl).drew
      rw [World.size_alloc] at Lit'
      have Lit := Lib.hid Lit'
      clear Lit'
      have hlp : ∀ ad, some (⟨w1.heap.size + 1, 0, none⟩ : Addr) = some ad → 0 < 1 → ¬ blk (some (⟨w1.heap.size, 0, none⟩ : Addr)) ad.block := fun ad he _ ⟨ad2, he2, hq⟩ => by obtain rfl := Option.some.inj he; obtain rfl := Option.some.inj he2; simp at hq
      go_wp2_with fail
      refine HK.out _ _ ⟨(HT.out _ hx), ?_⟩
      clear HK
      try clear hHeld
      have hHeld := (HT.out _ hx)
      try simp only [Act.put, List.setIfInBounds_toArray, List.set_cons_zero, List.set_cons_succ]
      refine wpAnyH_all (rs := [3]) (by kernel_rfl) (by simp) ?_
      intro ix hix
      obtain rfl : ix = 3 := by simpa using hix
      clear hix
      refine wpOp_step (o := ⟨some 6, _, _, _, _, _⟩) rfl (fun K hK => ?_)
      have HK := Lib.hid hK
      clear hK
      refine step_append_row rfl (.tmp 3) (.tmp 5) 54 rfl 128 (.agg #[.int .i64 0, .slice none 0 0]) 2 32 Try.underlying54 Try.infoPart rfl (by decide) rfl rfl R0.out (Hp.out.all hx).sl (by unfold maxLen; omega) (by omega) ?_
      intro a2 c2 w4 hrow hupd hloc hnil
      simp only [Nat.zero_add, List.nil_append] at hrow ⊢
      have R4 := Lib.hid hrow
      have F4 := Lib.hid (F0.out.step hx.size hloc)
      have Lit := Lib.hid (Lit.out.upd hupd hlp)
      replace hx := hx.trans (appendBelow F0.out hx.size hupd)
      clear hrow hupd hloc hnil
      refine HK.out _ _ ⟨(HT.out _ hx), ?_⟩
      clear HK
      try clear hHeld
      have hHeld := (HT.out _ hx)
      try simp only [Act.put, List.setIfInBounds_toArray, List.set_cons_zero, List.set_cons_succ]
      refine wpAnyH_all (rs := [9]) (by kernel_rfl) (by simp) ?_
      intro ix hix
      obtain rfl : ix = 9 := by simpa using hix
      clear hix
      refine wpOp_step (o := ⟨some 12, _, _, _, _, _⟩) rfl (fun K hK => ?_)
      have HK := Lib.hid hK
      clear hK
      refine step_append_row rfl (.tmp 6) (.tmp 11) 54 rfl 128 (.agg #[.int .i64 0, .slice none 0 0]) 2 32 Try.underlying54 Try.infoPart rfl (by decide) rfl rfl R4.out Lit.out (by unfold maxLen; omega) (by omega) ?_
      intro a3 c3 w6 hrow hupd hloc hnil
      have R6 := Lib.hid hrow
      have F6 := Lib.hid (F4.out.step hx.size hloc)
      replace hx := hx.trans (appendBelow F4.out hx.size hupd)
      clear hrow hupd hloc hnil
      refine HK.out _ _ ⟨(HT.out _ hx), ?_⟩
      clear HK
      try clear hHeld
      have hHeld := (HT.out _ hx)
      try simp only [Act.put, List.setIfInBounds_toArray, List.set_cons_zero, List.set_cons_succ]
      refine wpAnyH_take (i := 13) (oi := ⟨some 16, _, _, _, _, _⟩) (v := ?_) rfl (by kernel_rfl) (by kernel_rfl) (by kernel_rfl) (fun _ _ _ h => h) (Or.inl ⟨by rfl, ?_⟩) hHeld ?_
      rotate_left
      · intro w' hS'
        (try dsimp only at hS')
        go_simp
        try with_reducible rfl
      try simp only [Act.put, List.setIfInBounds_toArray, List.set_cons_zero, List.set_cons_succ]
      refine wpAnyH_all (rs := [14]) (by kernel_rfl) (by simp) ?_
      intro ix hix
      obtain rfl : ix = 14 := by simpa using hix
      clear hix
      refine wpOp_step (o := ⟨none, _, _, _, _, _⟩) rfl (fun K hK => ?_)
      have HK := Lib.hid hK
      clear hK
      have o6 := below_obj hx Oz.out (obj_lt Oz.out)
      have k0 := obj_cell o6 0
      have k1 := obj_cell o6 1
      have f0 := obj_free o6 0
      have f1 := obj_free o6 1
      simp at k0 k1
      have O6 := Lib.hid o6
      clear o6
      go_simp
      go_wp2_with fail
      refine HK.out _ _ ⟨(held2 (u := .slice a3 (n + 1) c3) (v := .int .i64 (last + 1)) (HT.out _ hx)), ?_⟩
      clear HK
      try clear hHeld
      have hHeld := (held2 (u := .slice a3 (n + 1) c3) (v := .int .i64 (last + 1)) (HT.out _ hx))
      try simp only [Act.put, List.setIfInBounds_toArray, List.set_cons_zero, List.set_cons_succ]
      refine wpAnyH_done (by kernel_rfl) ?_ _
      go_wp2_with fail
      have o7 := obj_set O6.out 0 (.slice a3 (n + 1) c3)
      have o8 := obj_set o7 1 (.int .i64 (last + 1))
      simp at o8
      refine bodyPost_ret (results_cell_row rfl _ _ _ _ _ _ _ rfl o8 Try.underlying56 rfl Try.sizeRJ) rfl ?_
      exact mark_rfin H0.out Hln.out B0.out Hz.out hx R6.out F6.out Oz.out
  · skip
    refine wpOp_step (o := ⟨some 11, _, _, _, _, _⟩) rfl (fun K hK => ?_)
    have HK := Lib.hid hK
    clear hK
    go_simp
    replace hx : Below w1.heap.size w1 (w1.alloc (.cells #[.int .i64 (last + 1), .slice none 0 0] 128)).drew := ((Below.refl _ w1).alloc (Nat.le_refl _) (.cells #[.int .i64 (last + 1), .slice none 0 0] 128)).drew
    go_wp2_with fail
    refine HK.out _ _ ⟨(HT.out _ hx), ?_⟩
    clear HK
    try clear hHeld
    have hHeld := (HT.out _ hx)
    try simp only [Act.put, List.setIfInBounds_toArray, List.set_cons_zero, List.set_cons_succ]
    refine wpAnyH_all (rs := [0]) (by kernel_rfl) (by simp) ?_
    intro ix hix
    obtain rfl : ix = 0 := by simpa using hix
    clear hix
    refine wpOp_step (o := ⟨some 3, _, _, _, _, _⟩) rfl (fun K hK => ?_)
    have HK := Lib.hid hK
    clear hK
    go_simp
    replace hx : Below w1.heap.size w1 (((w1.alloc (.cells #[.int .i64 (last + 1), .slice none 0 0] 128)).alloc (.cells #[] 128))).drew := (((Below.refl _ w1).alloc (Nat.le_refl _) (.cells #[.int .i64 (last + 1), .slice none 0 0] 128)).alloc (by simp) (.cells #[] 128)).drew
    have Lit := Lib.hid ((((RowAt.lit w1 #[.int .i64 (last + 1), .slice none 0 0] 128 2 1 (by decide) rfl (by simp [Value.oneCell'])).sl).alloc (.cells #[] 128)).drew)
    have R0' := (RowAt.lit (w1.alloc (.cells #[.int .i64 (last + 1), .slice none 0 0] 128)) #[] 128 2 0 (Nat.zero_le _) rfl (by simp)).drew
    rw [World.size_alloc] at R0'
    have R0 := Lib.hid R0'
    clear R0'
    have F0 := Lib.hid (fresh_new (Nat.le_succ w1.heap.size))
    have hlp : ∀ ad, some (⟨w1.heap.size, 0, none⟩ : Addr) = some ad → 0 < 1 → ¬ blk (some (⟨w1.heap.size + 1, 0, none⟩ : Addr)) ad.block := fun ad he _ ⟨ad2, he2, hq⟩ => by obtain rfl := Option.some.inj he; obtain rfl := Option.some.inj he2; simp at hq
    go_wp2_with fail
    refine HK.out _ _ ⟨(HT.out _ hx), ?_⟩
    clear HK
    try clear hHeld
    have hHeld := (HT.out _ hx)
    try simp only [Act.put, List.setIfInBounds_toArray, List.set_cons_zero, List.set_cons_succ]
    refine wpAnyH_all (rs := [3]) (by kernel_rfl) (by simp) ?_
    intro ix hix
    obtain rfl : ix = 3 := by simpa using hix
    clear hix
    refine wpOp_step (o := ⟨some 6, _, _, _, _, _⟩) rfl (fun K hK => ?_)
    have HK := Lib.hid hK
    clear hK
    refine step_append_row rfl (.tmp 3) (.tmp 5) 54 rfl 128 (.agg #[.int .i64 0, .slice none 0 0]) 2 32 Try.underlying54 Try.infoPart rfl (by decide) rfl rfl R0.out (Hp.out.all hx).sl (by unfold maxLen; omega) (by omega) ?_
    intro a2 c2 w4 hrow hupd hloc hnil
    simp only [Nat.zero_add, List.nil_append] at hrow ⊢
    have R4 := Lib.hid hrow
    have F4 := Lib.hid (F0.out.step hx.size hloc)
    have Lit := Lib.hid (Lit.out.upd hupd hlp)
    replace hx := hx.trans (appendBelow F0.out hx.size hupd)
    clear hrow hupd hloc hnil
    refine HK.out _ _ ⟨(HT.out _ hx), ?_⟩
    clear HK
    try clear hHeld
    have hHeld := (HT.out _ hx)
    try simp only [Act.put, List.setIfInBounds_toArray, List.set_cons_zero, List.set_cons_succ]
    refine wpAnyH_all (rs := [9]) (by kernel_rfl) (by simp) ?_
    intro ix hix
    obtain rfl : ix = 9 := by simpa using hix
    clear hix
    refine wpOp_step (o := ⟨some 12, _, _, _, _, _⟩) rfl (fun K hK => ?_)
    have HK := Lib.hid hK
    clear hK
    refine step_append_row rfl (.tmp 6) (.tmp 11) 54 rfl 128 (.agg #[.int .i64 0, .slice none 0 0]) 2 32 Try.underlying54 Try.infoPart rfl (by decide) rfl rfl R4.out Lit.out (by unfold maxLen; omega) (by omega) ?_
    intro a3 c3 w6 hrow hupd hloc hnil
    have R6 := Lib.hid hrow
    have F6 := Lib.hid (F4.out.step hx.size hloc)
    replace hx := hx.trans (appendBelow F4.out hx.size hupd)
    clear hrow hupd hloc hnil
    refine HK.out _ _ ⟨(HT.out _ hx), ?_⟩
    clear HK
    try clear hHeld
    have hHeld := (HT.out _ hx)
    try simp only [Act.put, List.setIfInBounds_toArray, List.set_cons_zero, List.set_cons_succ]
    refine wpAnyH_take (i := 13) (oi := ⟨some 16, _, _, _, _, _⟩) (v := ?_) rfl (by kernel_rfl) (by kernel_rfl) (by kernel_rfl) (fun _ _ _ h => h) (Or.inl ⟨by rfl, ?_⟩) hHeld ?_
    rotate_left
    · intro w' hS'
      (try dsimp only at hS')
      go_simp
      try with_reducible rfl
    try simp only [Act.put, List.setIfInBounds_toArray, List.set_cons_zero, List.set_cons_succ]
    refine wpAnyH_all (rs := [14]) (by kernel_rfl) (by simp) ?_
    intro ix hix
    obtain rfl : ix = 14 := by simpa using hix
    clear hix
    refine wpOp_step (o := ⟨none, _, _, _, _, _⟩) rfl (fun K hK => ?_)
    have HK := Lib.hid hK
    clear hK
    have o6 := below_obj hx Oz.out (obj_lt Oz.out)
    have k0 := obj_cell o6 0
    have k1 := obj_cell o6 1
    have f0 := obj_free o6 0
    have f1 := obj_free o6 1
    simp at k0 k1
    have O6 := Lib.hid o6
    clear o6
    go_simp
    go_wp2_with fail
    refine HK.out _ _ ⟨(held2 (u := .slice a3 (n + 1) c3) (v := .int .i64 (last + 1)) (HT.out _ hx)), ?_⟩
    clear HK
    try clear hHeld
    have hHeld := (held2 (u := .slice a3 (n + 1) c3) (v := .int .i64 (last + 1)) (HT.out _ hx))
    try simp only [Act.put, List.setIfInBounds_toArray, List.set_cons_zero, List.set_cons_succ]
    refine wpAnyH_done (by kernel_rfl) ?_ _
    go_wp2_with fail
    have o7 := obj_set O6.out 0 (.slice a3 (n + 1) c3)
    have o8 := obj_set o7 1 (.int .i64 (last + 1))
    simp at o8
    refine bodyPost_ret (results_cell_row rfl _ _ _ _ _ _ _ rfl o8 Try.underlying56 rfl Try.sizeRJ) rfl ?_
    exact mark_rfin H0.out Hln.out B0.out Hz.out hx R6.out F6.out Oz.out
end Go.Proofs.Ytpbocficffbcbaa
namespace Go.Proofs.Ytpbocficffbcbaa
open Go Go.RowKit
set_option linter.unusedVariables false
set_option linter.unusedSimpArgs false

theorem RowAt.setJ {w : World} {e : TypeId} {sz n cap b off : Nat} {xs : List Value} (h : RowAt w e sz (some ⟨b, off, none⟩) n cap xs) (j : Nat) (hj : j < n * sz) (u : Value) (hu : u.oneCell' = true) :
    RowAt (w.setCell ⟨b, off + j, none⟩ u) e sz (some ⟨b, off, none⟩) n cap (xs.set j u) where
  len := by rw [List.length_set]; exact h.len
  le := h.le
  max := h.max
  nil := by simp
  one := fun v hv => by
    rcases List.mem_or_eq_of_mem_set hv with h1 | rfl
    · exact h.one v h1
    · exact hu
  row := fun ad he => by
    obtain rfl := Option.some.inj he
    obtain ⟨_, cur, hg, hfit, ht⟩ := h.row _ rfl
    have hle := h.le
    have hcap : n * sz ≤ cap * sz := Nat.mul_le_mul_right _ hle
    refine ⟨rfl, _, obj_set hg _ _, by simpa using hfit, ?_⟩
    rw [Array.toList_setIfInBounds]
    rw [← ht, List.drop_set, if_neg (by show ¬ off + j < off; omega), List.take_set]
    congr 1
    show off + j - off = j
    omega

/-- A whole struct stored, at a step of a region that draws its order. -/
theorem step_store_whole {P : Program} {ops : Array Oper} {o : Oper} {a : Act} {w : World} {K : Act → World → Prop} {Q : Exit → Act → World → Prop} {E : Prop} (hgd : o.guard = none) (ty : TypeId) (x v : Operand) (ho : o.op = .store ty x v)
    (g : Nat) (hx : a.eval x = .pointer (some ⟨g, 0, none⟩)) (t : TypeId) (c c' : Array Value) (hv : a.eval v = .agg c') (hg : w.heap[g]? = some (.cells c t (0, 0)))
    (hi : (P.info? ty).map (·.size) = some c'.size) (hc : c.size = c'.size) (h1 : c'.all (·.oneCell') = true)
    (h : ∀ w', w'.heap[g]? = some (.cells c' t (0, 0)) → Upd (fun k => k = g) w w' → K (a.put o.dst undef) w') : if Region.wanted o (yielded ops a.tmps) = true then Oper.wp P o a w K Q else E := by
  have hw : Region.wanted o (yielded ops a.tmps) = true := by simp [Region.wanted, hgd]
  rw [if_pos hw]
  exact wp_store_whole ty x v ho g hx t c c' hv hg hi hc h1 h

theorem prs_len (rs : List Pr) : (prs rs).length = rs.length * 2 := cells_len prC 2 (fun _ => rfl) rs
theorem prs_set (rs : List Pr) (p : Pr) (i : Nat) (hi : i + 1 = rs.length) : ((prs rs).set (i * 2) (.int .i64 p.n)).set (i * 2 + 1) (.slice p.a p.l.length p.c) = prs (rs.take i ++ [p]) := by
  have hl : rs = rs.take i ++ [rs[i]'(by omega)] := by
    rw [← List.take_succ_eq_append_getElem (by omega), hi, List.take_length]
  have e1 : prs rs = prs (rs.take i) ++ prC (rs[i]'(by omega)) := (congrArg prs hl).trans (by show List.flatMap prC _ = _; rw [List.flatMap_append, List.flatMap_singleton])
  have hk : (prs (rs.take i)).length = i * 2 := by rw [prs_len, List.length_take, Nat.min_eq_left (by omega)]
  rw [e1, List.set_append_right _ _ (by omega), List.set_append_right _ _ (by omega), hk]
  simp [prs, prC]

theorem prs_take (rs : List Pr) (k : Nat) : prs (rs.take k) = (prs rs).take (k * 2) := (flat_take prC 2 (fun _ => rfl) rs k).symm
theorem SlAt.takeJ {w : World} {a : Option Addr} {n cap : Nat} {rs : List Pr} (h : SlAt w 2 a n cap (prs rs)) (k : Nat) (hk : k ≤ n) : SlAt w 2 a k cap (prs (rs.take k)) where
  len := by
    have := h.len
    rw [prs_take, List.length_take, this]
    exact Nat.min_eq_left (Nat.mul_le_mul_right _ hk)
  le := Nat.le_trans hk h.le
  max := h.max
  nil := h.nil
  one := fun u hu => by
    rw [prs_take] at hu
    exact h.one u (List.mem_of_mem_take hu)
  at_ := fun ad he hn => by
    obtain ⟨h1, h2, h3⟩ := h.at_ ad he (by omega)
    refine ⟨h1, h2, fun j u hu => ?_⟩
    rw [prs_take, List.getElem?_take] at hu
    split at hu
    · exact h3 j u hu
    · cases hu

theorem back_rfin {w w7 : World} {M : Nat → Prop} {a la : Option Addr} {n cap c2 lc i : Nat} {rs : List Pr} {p : Pr} {l : List Ev} {last : Int} {B b2 o2 : Nat} (hp : PtAt w M a n cap rs) (hln : rs.length = n) (hi : i < n)
    (hl : SlAt w 6 la l.length lc (evs l)) (hla : ∀ ad, la = some ad → M ad.block) (hB : w.heap.size + 2 ≤ B) (hx : Below w.heap.size w w7) (hz7 : w.heap.size + 2 ≤ w7.heap.size)
    (r7 : RowAt w7 128 2 (some ⟨b2, o2, none⟩) (i + 1) c2 (prs (rs.take (i + 1)))) (f7 : Fresh B (some (⟨b2, o2, none⟩ : Addr))) :
    RefJTo w M (backP (rs.map prP) i p.n l) last (.returned (.agg #[.slice (some ⟨b2, o2, none⟩) (i + 1) c2, .int .i64 last])) ((((w7.setCell ⟨b2, o2 + i * 2, none⟩ (.int .i64 p.n)).setCell ⟨b2, o2 + i * 2 + 1, none⟩ (.slice la l.length lc)).setCell ⟨w.heap.size + 1, 0, none⟩ (.slice (some ⟨b2, o2, none⟩) (i + 1) c2)).setCell ⟨w.heap.size + 1, 1, none⟩ (.int .i64 last)) := by
  have hb2 : B ≤ b2 := f7 _ rfl
  have hl2 : (backP (rs.map prP) i p.n l).length = i + 1 := by unfold backP; simp [hln]; omega
  have hno : ∀ ad, some (⟨b2, o2, none⟩ : Addr) = some ad → ad.block ≠ w.heap.size + 1 := fun ad he => by obtain rfl := Option.some.inj he; show b2 ≠ _; omega
  have bb : Below w.heap.size w ((((w7.setCell ⟨b2, o2 + i * 2, none⟩ (.int .i64 p.n)).setCell ⟨b2, o2 + i * 2 + 1, none⟩ (.slice la l.length lc)).setCell ⟨w.heap.size + 1, 0, none⟩ (.slice (some ⟨b2, o2, none⟩) (i + 1) c2)).setCell ⟨w.heap.size + 1, 1, none⟩ (.int .i64 last)) :=
    (((hx.setCell (p := ⟨b2, o2 + i * 2, none⟩) (by show w.heap.size ≤ b2; omega) _).setCell (p := ⟨b2, o2 + i * 2 + 1, none⟩) (by show w.heap.size ≤ b2; omega) _).setCell (p := ⟨w.heap.size + 1, 0, none⟩) (by show w.heap.size ≤ w.heap.size + 1; omega) _).setCell (p := ⟨w.heap.size + 1, 1, none⟩) (by show w.heap.size ≤ w.heap.size + 1; omega) _
  refine ⟨some ⟨b2, o2, none⟩, c2, rs.take i ++ [⟨p.n, l, la, lc⟩], by rw [hl2], by simp [prP, backP], ?_, bb⟩
  rw [hl2]
  refine PtAt.of_row ?_ (f7.mono (by omega)) (fun q hq => ?_) (fun q hq ad he => ?_)
  · have h1 := r7.setJ (i * 2) (by omega) (.int .i64 p.n) rfl
    have h2 := h1.setJ (i * 2 + 1) (by omega) (.slice la l.length lc) rfl
    rw [prs_set (rs.take (i + 1)) ⟨p.n, l, la, lc⟩ i (by rw [List.length_take]; omega), List.take_take, Nat.min_eq_left (Nat.le_succ i)] at h2
    exact (h2.setCell ⟨w.heap.size + 1, 0, none⟩ hno _).setCell ⟨w.heap.size + 1, 1, none⟩ hno _
  · rcases List.mem_append.1 hq with hq | hq
    · exact (hp.ev q (List.mem_of_mem_take hq)).all bb
    · simp at hq
      subst hq
      exact hl.all bb
  · rcases List.mem_append.1 hq with hq | hq
    · exact .inl (hp.ownE q (List.mem_of_mem_take hq) ad he)
    · simp at hq
      subst hq
      exact .inl (hla ad he)

theorem RefJTo.drew {w w' : World} {M : Nat → Prop} {qs : List Pt} {last : Int} {e : Ending} (h : RefJTo w M qs last e w') : RefJTo w M qs last e w'.drew := by
  obtain ⟨a, c, rs, h1, h2, h3, h4⟩ := h
  exact ⟨a, c, rs, h1, h2, h3.all (Below.refl _ _).drew, h4.drew⟩

set_option maxRecDepth 100000 in
set_option maxHeartbeats 3200000 in
theorem refBack (w : World) (M : Nat → Prop) (a : Option Addr) (n cap : Nat) (rs : List Pr) (h : PtAt w M a n cap rs) (last : Int) (hn : n ≤ 1000) (i : Nat) (hi : i < n) (p : Pr) (hp : rs[i]? = some p)
    (la : Option Addr) (ln lc : Nat) (l : List Ev) (hl : SlAt w 6 la ln lc (evs l)) (hla : ∀ ad, la = some ad → M ad.block) :
    Calls Try.prog 50 #[.agg #[.slice a n cap, .int .i64 last], .int .i64 i, .slice la ln lc] w (RefJTo w M (backP (rs.map prP) i p.n l) last) := by
  obtain rfl := ev_len hl
  have b0 : Below w.heap.size w ((w.alloc (.cells #[.slice a n cap, .int .i64 last] 56)).alloc (.cells #[.slice none 0 0, .int .i64 0] 56)) := ((Below.refl _ w).alloc (Nat.le_refl _) _).alloc (by simp) _
  have ob := alloc_obj (x := .cells #[.slice none 0 0, .int .i64 0] 56) (alloc_new w (.cells #[.slice a n cap, .int .i64 last] 56))
  have oz := alloc_new (w.alloc (.cells #[.slice a n cap, .int .i64 last] 56)) (.cells #[.slice none 0 0, .int .i64 0] 56)
  rw [World.size_alloc] at oz
  have hz : ((w.alloc (.cells #[.slice a n cap, .int .i64 last] 56)).alloc (.cells #[.slice none 0 0, .int .i64 0] 56)).heap.size = w.heap.size + 2 := by simp
  have Hp := Lib.hid (h.all b0)
  have H0 := Lib.hid h
  have Hln := Lib.hid h.len
  have Hi := Lib.hid hp
  have Hl := Lib.hid hl
  have Ob := Lib.hid ob
  have Oz := Lib.hid oz
  have B0 := Lib.hid b0
  have Hz := Lib.hid hz
  have hcap := h.sl.le
  have hcmx := h.sl.max
  unfold maxLen at hcmx
  obtain ⟨b, off, p', rfl, hp', hbb, d0, d1, _⟩ := pr_at h hi
  obtain rfl : p = p' := Option.some.inj (hp.symm.trans hp')
  have D0 := Lib.hid d0
  have hwr : IntKind.i64.wrap ((i : Int) + 1) = (i : Int) + 1 := by simp [IntKind.wrap, IntKind.signed, IntKind.bits]; omega
  have h01 : (0 : Int) ≤ (i : Int) + 1 := by omega
  have h02 : (i : Int) + 1 ≤ (cap : Int) := by omega
  have h03 : (i : Int) < (n : Int) := by omega
  clear h ob oz b0 hz hp hp' d0 d1 hl
  go_enter Try.func50, Try.ntmps50
  go_wp2_with fail
  generalize ((w.alloc (.cells #[.slice (some ⟨b, off, none⟩) n cap, .int .i64 last] 56)).alloc (.cells #[.slice none 0 0, .int .i64 0] 56)) = w1 at *
  have HT := Lib.hid (fun (x : World) (hb : Below w1.heap.size w1 x) => (by
    have o := below_obj hb Ob.out (obj_lt Ob.out)
    exact ⟨obj_cell o 0, obj_cell o 1⟩ : x.cell? ⟨w.heap.size, 0, none⟩ = some (.slice (some ⟨b, off, none⟩) n cap) ∧ x.cell? ⟨w.heap.size, 1, none⟩ = some (.int .i64 last)))
  have hx : Below w1.heap.size w1 w1.drew := (Below.refl _ _).drew
  refine wp_region_held_drew (S := fun x => x.cell? ⟨w.heap.size, 0, none⟩ = some (.slice (some ⟨b, off, none⟩) n cap) ∧ x.cell? ⟨w.heap.size, 1, none⟩ = some (.int .i64 last)) (by kernel_rfl) (HT.out _ hx) (fun hHeld => ?_)
  refine wpAnyH_take (i := 1) (oi := ⟨some 9, _, _, _, _, _⟩) (v := ?_) rfl (by kernel_rfl) (by kernel_rfl) (by kernel_rfl) (fun _ _ _ h => h) (Or.inl ⟨by rfl, ?_⟩) hHeld ?_
  rotate_left
  · intro w' hS'
    (try dsimp only at hS')
    go_simp
    try with_reducible rfl
  try simp only [Act.put, List.setIfInBounds_toArray, List.set_cons_zero, List.set_cons_succ]
  refine wpAnyH_take (i := 2) (oi := ⟨some 10, _, _, _, _, _⟩) (v := ?_) rfl (by kernel_rfl) (by kernel_rfl) (by kernel_rfl) (fun _ _ _ h => h) (Or.inl ⟨by rfl, ?_⟩) hHeld ?_
  rotate_left
  · intro w' hS'
    (try dsimp only at hS')
    go_simp
    try with_reducible rfl
  try simp only [Act.put, List.setIfInBounds_toArray, List.set_cons_zero, List.set_cons_succ]
  refine wpAnyH_take (i := 3) (oi := ⟨some 11, _, _, _, _, _⟩) (v := ?_) rfl (by kernel_rfl) (by kernel_rfl) (by kernel_rfl) (fun _ _ _ h => h) (Or.inl ⟨by rfl, ?_⟩) hHeld ?_
  rotate_left
  · intro w' hS'
    (try dsimp only at hS')
    go_simp
    try with_reducible rfl
  try simp only [Act.put, List.setIfInBounds_toArray, List.set_cons_zero, List.set_cons_succ]
  refine wpAnyH_take (i := 4) (oi := ⟨some 12, _, _, _, _, _⟩) (v := ?_) rfl (by kernel_rfl) (by kernel_rfl) (by kernel_rfl) (fun _ _ _ h => h) (Or.inl ⟨by rfl, ?_⟩) hHeld ?_
  rotate_left
  · intro w' hS'
    (try dsimp only at hS')
    go_simp
    try with_reducible rfl
  try simp only [Act.put, List.setIfInBounds_toArray, List.set_cons_zero, List.set_cons_succ]
  refine wpAnyH_take (i := 5) (oi := ⟨some 13, _, _, _, _, _⟩) (v := ?_) rfl (by kernel_rfl) (by kernel_rfl) (by kernel_rfl) (fun _ _ _ h => h) (Or.inl ⟨by rfl, ?_⟩) hHeld ?_
  rotate_left
  · intro w' hS'
    (try dsimp only at hS')
    go_simp
    try with_reducible rfl
  try simp only [Act.put, List.setIfInBounds_toArray, List.set_cons_zero, List.set_cons_succ]
  refine wpAnyH_take (i := 7) (oi := ⟨some 15, _, _, _, _, _⟩) (v := ?_) rfl (by kernel_rfl) (by kernel_rfl) (by kernel_rfl) (fun _ _ _ h => h) (Or.inl ⟨by rfl, ?_⟩) hHeld ?_
  rotate_left
  · intro w' hS'
    (try dsimp only at hS')
    go_simp
    try with_reducible rfl
  try simp only [Act.put, List.setIfInBounds_toArray, List.set_cons_zero, List.set_cons_succ]
  refine wpAnyH_take (i := 8) (oi := ⟨some 16, _, _, _, _, _⟩) (v := ?_) rfl (by kernel_rfl) (by kernel_rfl) (by kernel_rfl) (fun _ _ _ h => h) (Or.inl ⟨by rfl, ?_⟩) hHeld ?_
  rotate_left
  · intro w' hS'
    (try dsimp only at hS')
    go_simp
    try with_reducible rfl
  try simp only [Act.put, List.setIfInBounds_toArray, List.set_cons_zero, List.set_cons_succ]
  refine wpAnyH_all (rs := [0, 10]) (by kernel_rfl) (by simp) ?_
  intro ix hix
  have hix' : ix = 0 ∨ ix = 10 := by simpa using hix
  clear hix
  rcases hix' with rfl | rfl
  · skip
    refine wpOp_step (o := ⟨some 8, _, _, _, _, _⟩) rfl (fun K hK => ?_)
    have HK := Lib.hid hK
    clear hK
    go_simp
    replace hx : Below w1.heap.size w1 (w1.alloc (.cells #[] 128)).drew := ((Below.refl _ w1).alloc (Nat.le_refl _) (.cells #[] 128)).drew
    have R0 := Lib.hid ((RowAt.lit w1 #[] 128 2 0 (Nat.zero_le _) rfl (by simp)).drew)
    have F0 := Lib.hid (fresh_new (Nat.le_refl w1.heap.size))
    go_wp2_with fail
    refine HK.out _ _ ⟨(HT.out _ hx), ?_⟩
    clear HK
    try clear hHeld
    have hHeld := (HT.out _ hx)
    try simp only [Act.put, List.setIfInBounds_toArray, List.set_cons_zero, List.set_cons_succ]
    refine wpAnyH_all (rs := [6, 10]) (by kernel_rfl) (by simp) ?_
    intro ix hix
    have hix' : ix = 6 ∨ ix = 10 := by simpa using hix
    clear hix
    rcases hix' with rfl | rfl
    · skip
      refine wpOp_step (o := ⟨some 14, _, _, _, _, _⟩) rfl (fun K hK => ?_)
      have HK := Lib.hid hK
      clear hK
      refine step_append_row rfl (.tmp 8) (.tmp 13) 54 rfl 128 (.agg #[.int .i64 0, .slice none 0 0]) 2 32 Try.underlying54 Try.infoPart rfl (by decide) rfl rfl R0.out (by have hq := (Hp.out.all hx).sl.takeJ (i + 1) (by omega); simpa using hq) (by unfold maxLen; omega) (by omega) ?_
      intro a2 c2 w4 hrow hupd hloc hnil
      simp only [Nat.zero_add, List.nil_append] at hrow ⊢
      have R4 := Lib.hid hrow
      have R4x := Lib.hid hrow
      have F4 := Lib.hid (F0.out.step hx.size hloc)
      replace hx := hx.trans (appendBelow F0.out hx.size hupd)
      clear hrow hupd hloc hnil
      refine HK.out _ _ ⟨(HT.out _ hx), ?_⟩
      clear HK
      try clear hHeld
      have hHeld := (HT.out _ hx)
      try simp only [Act.put, List.setIfInBounds_toArray, List.set_cons_zero, List.set_cons_succ]
      refine wpAnyH_take (i := 9) (oi := ⟨some 17, _, _, _, _, _⟩) (v := ?_) rfl (by kernel_rfl) (by kernel_rfl) (by kernel_rfl) (fun _ _ _ h => h) (Or.inl ⟨by rfl, ?_⟩) hHeld ?_
      rotate_left
      · intro w' hS'
        (try dsimp only at hS')
        go_simp
        try with_reducible rfl
      try simp only [Act.put, List.setIfInBounds_toArray, List.set_cons_zero, List.set_cons_succ]
      refine wpAnyH_all (rs := [10]) (by kernel_rfl) (by simp) ?_
      intro ix hix
      obtain rfl : ix = 10 := by simpa using hix
      clear hix
      refine wpOp_step (o := ⟨some 7, _, _, _, _, _⟩) rfl (fun K hK => ?_)
      have HK := Lib.hid hK
      clear hK
      go_simp
      have hz4 := hx.size
      have OQ := Lib.hid (alloc_new w4 (.cells #[.slice none 0 0, .int .i64 0] 56))
      have R4 := Lib.hid (R4.out.alloc (.cells #[.slice none 0 0, .int .i64 0] 56))
      have hne : ¬ blk a2 w4.heap.size := fun ⟨ad, he, hq⟩ => by have := R4x.out.lt ad he; omega
      replace hx := hx.alloc hx.size (.cells #[.slice none 0 0, .int .i64 0] 56)
      go_wp2_with fail
      refine HK.out _ _ ⟨(HT.out _ hx), ?_⟩
      clear HK
      try clear hHeld
      have hHeld := (HT.out _ hx)
      try simp only [Act.put, List.setIfInBounds_toArray, List.set_cons_zero, List.set_cons_succ]
      refine wpAnyH_all (rs := [11]) (by kernel_rfl) (by simp) ?_
      intro ix hix
      obtain rfl : ix = 11 := by simpa using hix
      clear hix
      refine wpOp_step (o := ⟨none, _, _, _, _, _⟩) rfl (fun K hK => ?_)
      have HK := Lib.hid hK
      clear hK
      refine step_store_whole rfl 56 (.tmp 7) (.tmp 17) rfl w4.heap.size rfl 56 #[.slice none 0 0, .int .i64 0] #[.slice a2 (i + 1) c2, .int .i64 last] rfl OQ.out Try.sizeRJ rfl (by simp [Value.oneCell']) ?_
      intro w7 hobj hupd
      have O7 := Lib.hid hobj
      have R7 := Lib.hid (R4.out.upd hupd (fun ad he hq => hne ⟨ad, he, hq⟩))
      have hq1 : w1.heap.size ≤ w4.heap.size := by first | exact hz4 | omega
      replace hx := hx.trans (hupd.below hx.size (fun k hk hq => by change _ = _ at hq; omega))
      have Hne := Lib.hid hne
      clear hobj hupd hne
      refine HK.out _ _ ⟨(HT.out _ hx), ?_⟩
      clear HK
      try clear hHeld
      have hHeld := (HT.out _ hx)
      try simp only [Act.put, List.setIfInBounds_toArray, List.set_cons_zero, List.set_cons_succ]
      refine wpAnyH_done (by kernel_rfl) ?_ _
      clear hHeld
      have o7 := O7.out
      obtain ⟨bq, hbq⟩ : ∃ bq, bq = w4.heap.size := ⟨_, rfl⟩
      rw [← hbq] at o7
      have Hq := Lib.hid (show w1.heap.size ≤ bq by omega)
      have Hne2 := Lib.hid (show ¬ blk a2 bq by rw [hbq]; exact Hne.out)
      have O7b := Lib.hid o7
      obtain ⟨b2, o2, rfl, hb2, hc2⟩ := R7.out.sl.nonempty (Nat.succ_pos i)
      have hlt2 : (prs (rs.take (i + 1))).length = (i + 1) * 2 := R7.out.len
      obtain ⟨x0, t0⟩ : ∃ v, w7.cell? ⟨b2, o2 + i * 2, none⟩ = some v := ⟨_, hc2 (i * 2) _ (List.getElem?_eq_getElem (by omega))⟩
      obtain ⟨x1, t1⟩ : ∃ v, w7.cell? ⟨b2, o2 + i * 2 + 1, none⟩ = some v := ⟨_, hc2 (i * 2 + 1) _ (List.getElem?_eq_getElem (by omega))⟩
      obtain ⟨_, cur, hg2, hfit, _⟩ := R7.out.row _ rfl
      have g0 := fun j => (obj_free hg2 j : w7.frozen? ⟨b2, j, none⟩ = false)
      have k0 := obj_cell o7 0
      have k1 := obj_cell o7 1
      simp at k0 k1
      have hh := HT.out _ hx
      obtain ⟨hh0, hh1⟩ := hh
      have e0 : w7.cell? ⟨b, off + i * 2, none⟩ = some (.int .i64 p.n) := (World.cell?_of_block ((B0.out.trans (hx.mono B0.out.size)).block b hbb)).trans D0.out
      rw [hbq] at k0 k1
      clear hg2 hfit hc2 hlt2 o7 hb2
      skip
      go_wp2_with fail
      go_region
      have hF4 : w1.heap.size ≤ b2 := F4.out _ rfl
      have hbne : w4.heap.size ≠ b2 := fun hq => Hne.out ⟨_, rfl, hq.symm⟩
      have hzn : w.heap.size + 1 ≠ b2 := by have := Hz.out; omega
      have ob8 := setCell_obj (p := ⟨b2, o2 + i * 2 + 1, none⟩) (u := .slice la l.length lc) (setCell_obj (p := ⟨b2, o2 + i * 2, none⟩) (u := .int .i64 p.n) O7.out hbne) hbne
      have oz8 := setCell_obj (p := ⟨b2, o2 + i * 2 + 1, none⟩) (u := .slice la l.length lc) (setCell_obj (p := ⟨b2, o2 + i * 2, none⟩) (u := .int .i64 p.n) (below_obj hx Oz.out (obj_lt Oz.out)) hzn) hzn
      generalize hW : ((w7.setCell ⟨b2, o2 + i * 2, none⟩ (.int .i64 p.n)).setCell ⟨b2, o2 + i * 2 + 1, none⟩ (.slice la l.length lc)) = W8 at *
      have q0 := obj_cell ob8 0
      have q1 := obj_cell ob8 1
      have z0 := obj_cell oz8 0
      have z1 := obj_cell oz8 1
      have y0 := obj_free oz8 0
      have y1 := obj_free oz8 1
      simp at q0 q1 z0 z1
      have OZ8 := Lib.hid oz8
      have HW := Lib.hid hW
      clear t0 t1 g0 k0 k1 hh0 hh1 e0 ob8 oz8 hW
      go_wp2_with fail
      have o9 := obj_set OZ8.out 0 (.slice (some ⟨b2, o2, none⟩) (i + 1) c2)
      have o10 := obj_set o9 1 (.int .i64 last)
      simp at o10
      refine bodyPost_ret (results_cell_row rfl _ _ _ _ _ _ _ rfl o10 Try.underlying56 rfl Try.sizeRJ) rfl ?_
      refine RefJTo.drew ?_
      rw [← HW.out]
      exact back_rfin H0.out Hln.out hi Hl.out hla (show w.heap.size + 2 ≤ w1.heap.size by have := Hz.out; omega) (B0.out.trans (hx.mono B0.out.size)) (by have := hx.size; have := Hz.out; omega) R7.out F4.out
    · skip
      refine wpOp_step (o := ⟨some 7, _, _, _, _, _⟩) rfl (fun K hK => ?_)
      have HK := Lib.hid hK
      clear hK
      go_simp
      replace hx : Below w1.heap.size w1 (((w1.alloc (.cells #[] 128)).alloc (.cells #[.slice none 0 0, .int .i64 0] 56))).drew := (((Below.refl _ w1).alloc (Nat.le_refl _) (.cells #[] 128)).alloc (by simp) (.cells #[.slice none 0 0, .int .i64 0] 56)).drew
      have R0 := Lib.hid (((RowAt.lit w1 #[] 128 2 0 (Nat.zero_le _) rfl (by simp)).alloc (.cells #[.slice none 0 0, .int .i64 0] 56)).drew)
      have OQ' := alloc_new (w1.alloc (.cells #[] 128)) (.cells #[.slice none 0 0, .int .i64 0] 56)
      rw [World.size_alloc] at OQ'
      have OQ := Lib.hid OQ'
      clear OQ'
      go_wp2_with fail
      refine HK.out _ _ ⟨(HT.out _ hx), ?_⟩
      clear HK
      try clear hHeld
      have hHeld := (HT.out _ hx)
      try simp only [Act.put, List.setIfInBounds_toArray, List.set_cons_zero, List.set_cons_succ]
      refine wpAnyH_all (rs := [6]) (by kernel_rfl) (by simp) ?_
      intro ix hix
      obtain rfl : ix = 6 := by simpa using hix
      clear hix
      refine wpOp_step (o := ⟨some 14, _, _, _, _, _⟩) rfl (fun K hK => ?_)
      have HK := Lib.hid hK
      clear hK
      refine step_append_row rfl (.tmp 8) (.tmp 13) 54 rfl 128 (.agg #[.int .i64 0, .slice none 0 0]) 2 32 Try.underlying54 Try.infoPart rfl (by decide) rfl rfl R0.out (by have hq := (Hp.out.all hx).sl.takeJ (i + 1) (by omega); simpa using hq) (by unfold maxLen; omega) (by omega) ?_
      intro a2 c2 w4 hrow hupd hloc hnil
      simp only [Nat.zero_add, List.nil_append] at hrow ⊢
      have R4 := Lib.hid hrow
      have R4x := Lib.hid hrow
      have F4 := Lib.hid (F0.out.step hx.size hloc)
      have hnb : ¬ blk (some (⟨w1.heap.size, 0, none⟩ : Addr)) (w1.heap.size + 1) := fun ⟨ad, he, hq⟩ => by obtain rfl := Option.some.inj he; simp at hq
      have OQ := Lib.hid (hupd.obj OQ.out hnb)
      have hne : ¬ blk a2 (w1.heap.size + 1) := fun ⟨ad, he, hq⟩ => by rcases hloc ad he with h1 | h1; (obtain rfl := Option.some.inj h1; simp at hq); (have := obj_lt OQ.out; simp at h1; omega)
      replace hx := hx.trans (appendBelow F0.out hx.size hupd)
      clear hrow hupd hloc hnil
      refine HK.out _ _ ⟨(HT.out _ hx), ?_⟩
      clear HK
      try clear hHeld
      have hHeld := (HT.out _ hx)
      try simp only [Act.put, List.setIfInBounds_toArray, List.set_cons_zero, List.set_cons_succ]
      refine wpAnyH_take (i := 9) (oi := ⟨some 17, _, _, _, _, _⟩) (v := ?_) rfl (by kernel_rfl) (by kernel_rfl) (by kernel_rfl) (fun _ _ _ h => h) (Or.inl ⟨by rfl, ?_⟩) hHeld ?_
      rotate_left
      · intro w' hS'
        (try dsimp only at hS')
        go_simp
        try with_reducible rfl
      try simp only [Act.put, List.setIfInBounds_toArray, List.set_cons_zero, List.set_cons_succ]
      refine wpAnyH_all (rs := [11]) (by kernel_rfl) (by simp) ?_
      intro ix hix
      obtain rfl : ix = 11 := by simpa using hix
      clear hix
      refine wpOp_step (o := ⟨none, _, _, _, _, _⟩) rfl (fun K hK => ?_)
      have HK := Lib.hid hK
      clear hK
      refine step_store_whole rfl 56 (.tmp 7) (.tmp 17) rfl (w1.heap.size + 1) rfl 56 #[.slice none 0 0, .int .i64 0] #[.slice a2 (i + 1) c2, .int .i64 last] rfl OQ.out Try.sizeRJ rfl (by simp [Value.oneCell']) ?_
      intro w7 hobj hupd
      have O7 := Lib.hid hobj
      have R7 := Lib.hid (R4.out.upd hupd (fun ad he hq => hne ⟨ad, he, hq⟩))
      have hq1 : w1.heap.size ≤ (w1.heap.size + 1) := by first | exact hz4 | omega
      replace hx := hx.trans (hupd.below hx.size (fun k hk hq => by change _ = _ at hq; omega))
      have Hne := Lib.hid hne
      clear hobj hupd hne
      refine HK.out _ _ ⟨(HT.out _ hx), ?_⟩
      clear HK
      try clear hHeld
      have hHeld := (HT.out _ hx)
      try simp only [Act.put, List.setIfInBounds_toArray, List.set_cons_zero, List.set_cons_succ]
      refine wpAnyH_done (by kernel_rfl) ?_ _
      clear hHeld
      have o7 := O7.out
      obtain ⟨bq, hbq⟩ : ∃ bq, bq = (w1.heap.size + 1) := ⟨_, rfl⟩
      rw [← hbq] at o7
      have Hq := Lib.hid (show w1.heap.size ≤ bq by omega)
      have Hne2 := Lib.hid (show ¬ blk a2 bq by rw [hbq]; exact Hne.out)
      have O7b := Lib.hid o7
      obtain ⟨b2, o2, rfl, hb2, hc2⟩ := R7.out.sl.nonempty (Nat.succ_pos i)
      have hlt2 : (prs (rs.take (i + 1))).length = (i + 1) * 2 := R7.out.len
      obtain ⟨x0, t0⟩ : ∃ v, w7.cell? ⟨b2, o2 + i * 2, none⟩ = some v := ⟨_, hc2 (i * 2) _ (List.getElem?_eq_getElem (by omega))⟩
      obtain ⟨x1, t1⟩ : ∃ v, w7.cell? ⟨b2, o2 + i * 2 + 1, none⟩ = some v := ⟨_, hc2 (i * 2 + 1) _ (List.getElem?_eq_getElem (by omega))⟩
      obtain ⟨_, cur, hg2, hfit, _⟩ := R7.out.row _ rfl
      have g0 := fun j => (obj_free hg2 j : w7.frozen? ⟨b2, j, none⟩ = false)
      have k0 := obj_cell o7 0
      have k1 := obj_cell o7 1
      simp at k0 k1
      have hh := HT.out _ hx
      obtain ⟨hh0, hh1⟩ := hh
      have e0 : w7.cell? ⟨b, off + i * 2, none⟩ = some (.int .i64 p.n) := (World.cell?_of_block ((B0.out.trans (hx.mono B0.out.size)).block b hbb)).trans D0.out
      rw [hbq] at k0 k1
      clear hg2 hfit hc2 hlt2 o7 hb2
      skip
      go_wp2_with fail
      go_region
      have hF4 : w1.heap.size ≤ b2 := F4.out _ rfl
      have hbne : (w1.heap.size + 1) ≠ b2 := fun hq => Hne.out ⟨_, rfl, hq.symm⟩
      have hzn : w.heap.size + 1 ≠ b2 := by have := Hz.out; omega
      have ob8 := setCell_obj (p := ⟨b2, o2 + i * 2 + 1, none⟩) (u := .slice la l.length lc) (setCell_obj (p := ⟨b2, o2 + i * 2, none⟩) (u := .int .i64 p.n) O7.out hbne) hbne
      have oz8 := setCell_obj (p := ⟨b2, o2 + i * 2 + 1, none⟩) (u := .slice la l.length lc) (setCell_obj (p := ⟨b2, o2 + i * 2, none⟩) (u := .int .i64 p.n) (below_obj hx Oz.out (obj_lt Oz.out)) hzn) hzn
      generalize hW : ((w7.setCell ⟨b2, o2 + i * 2, none⟩ (.int .i64 p.n)).setCell ⟨b2, o2 + i * 2 + 1, none⟩ (.slice la l.length lc)) = W8 at *
      have q0 := obj_cell ob8 0
      have q1 := obj_cell ob8 1
      have z0 := obj_cell oz8 0
      have z1 := obj_cell oz8 1
      have y0 := obj_free oz8 0
      have y1 := obj_free oz8 1
      simp at q0 q1 z0 z1
      have OZ8 := Lib.hid oz8
      have HW := Lib.hid hW
      clear t0 t1 g0 k0 k1 hh0 hh1 e0 ob8 oz8 hW
      go_wp2_with fail
      have o9 := obj_set OZ8.out 0 (.slice (some ⟨b2, o2, none⟩) (i + 1) c2)
      have o10 := obj_set o9 1 (.int .i64 last)
      simp at o10
      refine bodyPost_ret (results_cell_row rfl _ _ _ _ _ _ _ rfl o10 Try.underlying56 rfl Try.sizeRJ) rfl ?_
      refine RefJTo.drew ?_
      rw [← HW.out]
      exact back_rfin H0.out Hln.out hi Hl.out hla (show w.heap.size + 2 ≤ w1.heap.size by have := Hz.out; omega) (B0.out.trans (hx.mono B0.out.size)) (by have := hx.size; have := Hz.out; omega) R7.out F4.out
  · skip
    refine wpOp_step (o := ⟨some 7, _, _, _, _, _⟩) rfl (fun K hK => ?_)
    have HK := Lib.hid hK
    clear hK
    go_simp
    replace hx : Below w1.heap.size w1 (w1.alloc (.cells #[.slice none 0 0, .int .i64 0] 56)).drew := ((Below.refl _ w1).alloc (Nat.le_refl _) (.cells #[.slice none 0 0, .int .i64 0] 56)).drew
    have OQ := Lib.hid (alloc_new w1 (.cells #[.slice none 0 0, .int .i64 0] 56))
    go_wp2_with fail
    refine HK.out _ _ ⟨(HT.out _ hx), ?_⟩
    clear HK
    try clear hHeld
    have hHeld := (HT.out _ hx)
    try simp only [Act.put, List.setIfInBounds_toArray, List.set_cons_zero, List.set_cons_succ]
    refine wpAnyH_all (rs := [0]) (by kernel_rfl) (by simp) ?_
    intro ix hix
    obtain rfl : ix = 0 := by simpa using hix
    clear hix
    refine wpOp_step (o := ⟨some 8, _, _, _, _, _⟩) rfl (fun K hK => ?_)
    have HK := Lib.hid hK
    clear hK
    go_simp
    replace hx : Below w1.heap.size w1 (((w1.alloc (.cells #[.slice none 0 0, .int .i64 0] 56)).alloc (.cells #[] 128))).drew := (((Below.refl _ w1).alloc (Nat.le_refl _) (.cells #[.slice none 0 0, .int .i64 0] 56)).alloc (by simp) (.cells #[] 128)).drew
    have R0' := (RowAt.lit (w1.alloc (.cells #[.slice none 0 0, .int .i64 0] 56)) #[] 128 2 0 (Nat.zero_le _) rfl (by simp)).drew
    rw [World.size_alloc] at R0'
    have R0 := Lib.hid R0'
    clear R0'
    have F0 := Lib.hid (fresh_new (Nat.le_succ w1.heap.size))
    have OQ := Lib.hid (alloc_obj (x := (.cells #[] 128)) (alloc_new w1 (.cells #[.slice none 0 0, .int .i64 0] 56)))
    go_wp2_with fail
    refine HK.out _ _ ⟨(HT.out _ hx), ?_⟩
    clear HK
    try clear hHeld
    have hHeld := (HT.out _ hx)
    try simp only [Act.put, List.setIfInBounds_toArray, List.set_cons_zero, List.set_cons_succ]
    refine wpAnyH_all (rs := [6]) (by kernel_rfl) (by simp) ?_
    intro ix hix
    obtain rfl : ix = 6 := by simpa using hix
    clear hix
    refine wpOp_step (o := ⟨some 14, _, _, _, _, _⟩) rfl (fun K hK => ?_)
    have HK := Lib.hid hK
    clear hK
    refine step_append_row rfl (.tmp 8) (.tmp 13) 54 rfl 128 (.agg #[.int .i64 0, .slice none 0 0]) 2 32 Try.underlying54 Try.infoPart rfl (by decide) rfl rfl R0.out (by have hq := (Hp.out.all hx).sl.takeJ (i + 1) (by omega); simpa using hq) (by unfold maxLen; omega) (by omega) ?_
    intro a2 c2 w4 hrow hupd hloc hnil
    simp only [Nat.zero_add, List.nil_append] at hrow ⊢
    have R4 := Lib.hid hrow
    have R4x := Lib.hid hrow
    have F4 := Lib.hid (F0.out.step hx.size hloc)
    have hnb : ¬ blk (some (⟨w1.heap.size + 1, 0, none⟩ : Addr)) w1.heap.size := fun ⟨ad, he, hq⟩ => by obtain rfl := Option.some.inj he; simp at hq
    have OQ := Lib.hid (hupd.obj OQ.out hnb)
    have hne : ¬ blk a2 w1.heap.size := fun ⟨ad, he, hq⟩ => by rcases hloc ad he with h1 | h1; (obtain rfl := Option.some.inj h1; simp at hq); (have := obj_lt OQ.out; simp at h1; omega)
    replace hx := hx.trans (appendBelow F0.out hx.size hupd)
    clear hrow hupd hloc hnil
    refine HK.out _ _ ⟨(HT.out _ hx), ?_⟩
    clear HK
    try clear hHeld
    have hHeld := (HT.out _ hx)
    try simp only [Act.put, List.setIfInBounds_toArray, List.set_cons_zero, List.set_cons_succ]
    refine wpAnyH_take (i := 9) (oi := ⟨some 17, _, _, _, _, _⟩) (v := ?_) rfl (by kernel_rfl) (by kernel_rfl) (by kernel_rfl) (fun _ _ _ h => h) (Or.inl ⟨by rfl, ?_⟩) hHeld ?_
    rotate_left
    · intro w' hS'
      (try dsimp only at hS')
      go_simp
      try with_reducible rfl
    try simp only [Act.put, List.setIfInBounds_toArray, List.set_cons_zero, List.set_cons_succ]
    refine wpAnyH_all (rs := [11]) (by kernel_rfl) (by simp) ?_
    intro ix hix
    obtain rfl : ix = 11 := by simpa using hix
    clear hix
    refine wpOp_step (o := ⟨none, _, _, _, _, _⟩) rfl (fun K hK => ?_)
    have HK := Lib.hid hK
    clear hK
    refine step_store_whole rfl 56 (.tmp 7) (.tmp 17) rfl w1.heap.size rfl 56 #[.slice none 0 0, .int .i64 0] #[.slice a2 (i + 1) c2, .int .i64 last] rfl OQ.out Try.sizeRJ rfl (by simp [Value.oneCell']) ?_
    intro w7 hobj hupd
    have O7 := Lib.hid hobj
    have R7 := Lib.hid (R4.out.upd hupd (fun ad he hq => hne ⟨ad, he, hq⟩))
    have hq1 : w1.heap.size ≤ w1.heap.size := by first | exact hz4 | omega
    replace hx := hx.trans (hupd.below hx.size (fun k hk hq => by change _ = _ at hq; omega))
    have Hne := Lib.hid hne
    clear hobj hupd hne
    refine HK.out _ _ ⟨(HT.out _ hx), ?_⟩
    clear HK
    try clear hHeld
    have hHeld := (HT.out _ hx)
    try simp only [Act.put, List.setIfInBounds_toArray, List.set_cons_zero, List.set_cons_succ]
    refine wpAnyH_done (by kernel_rfl) ?_ _
    clear hHeld
    have o7 := O7.out
    obtain ⟨bq, hbq⟩ : ∃ bq, bq = w1.heap.size := ⟨_, rfl⟩
    rw [← hbq] at o7
    have Hq := Lib.hid (show w1.heap.size ≤ bq by omega)
    have Hne2 := Lib.hid (show ¬ blk a2 bq by rw [hbq]; exact Hne.out)
    have O7b := Lib.hid o7
    obtain ⟨b2, o2, rfl, hb2, hc2⟩ := R7.out.sl.nonempty (Nat.succ_pos i)
    have hlt2 : (prs (rs.take (i + 1))).length = (i + 1) * 2 := R7.out.len
    obtain ⟨x0, t0⟩ : ∃ v, w7.cell? ⟨b2, o2 + i * 2, none⟩ = some v := ⟨_, hc2 (i * 2) _ (List.getElem?_eq_getElem (by omega))⟩
    obtain ⟨x1, t1⟩ : ∃ v, w7.cell? ⟨b2, o2 + i * 2 + 1, none⟩ = some v := ⟨_, hc2 (i * 2 + 1) _ (List.getElem?_eq_getElem (by omega))⟩
    obtain ⟨_, cur, hg2, hfit, _⟩ := R7.out.row _ rfl
    have g0 := fun j => (obj_free hg2 j : w7.frozen? ⟨b2, j, none⟩ = false)
    have k0 := obj_cell o7 0
    have k1 := obj_cell o7 1
    simp at k0 k1
    have hh := HT.out _ hx
    obtain ⟨hh0, hh1⟩ := hh
    have e0 : w7.cell? ⟨b, off + i * 2, none⟩ = some (.int .i64 p.n) := (World.cell?_of_block ((B0.out.trans (hx.mono B0.out.size)).block b hbb)).trans D0.out
    rw [hbq] at k0 k1
    clear hg2 hfit hc2 hlt2 o7 hb2
    skip
    go_wp2_with fail
    go_region
    have hF4 : w1.heap.size ≤ b2 := F4.out _ rfl
    have hbne : w1.heap.size ≠ b2 := fun hq => Hne.out ⟨_, rfl, hq.symm⟩
    have hzn : w.heap.size + 1 ≠ b2 := by have := Hz.out; omega
    have ob8 := setCell_obj (p := ⟨b2, o2 + i * 2 + 1, none⟩) (u := .slice la l.length lc) (setCell_obj (p := ⟨b2, o2 + i * 2, none⟩) (u := .int .i64 p.n) O7.out hbne) hbne
    have oz8 := setCell_obj (p := ⟨b2, o2 + i * 2 + 1, none⟩) (u := .slice la l.length lc) (setCell_obj (p := ⟨b2, o2 + i * 2, none⟩) (u := .int .i64 p.n) (below_obj hx Oz.out (obj_lt Oz.out)) hzn) hzn
    generalize hW : ((w7.setCell ⟨b2, o2 + i * 2, none⟩ (.int .i64 p.n)).setCell ⟨b2, o2 + i * 2 + 1, none⟩ (.slice la l.length lc)) = W8 at *
    have q0 := obj_cell ob8 0
    have q1 := obj_cell ob8 1
    have z0 := obj_cell oz8 0
    have z1 := obj_cell oz8 1
    have y0 := obj_free oz8 0
    have y1 := obj_free oz8 1
    simp at q0 q1 z0 z1
    have OZ8 := Lib.hid oz8
    have HW := Lib.hid hW
    clear t0 t1 g0 k0 k1 hh0 hh1 e0 ob8 oz8 hW
    go_wp2_with fail
    have o9 := obj_set OZ8.out 0 (.slice (some ⟨b2, o2, none⟩) (i + 1) c2)
    have o10 := obj_set o9 1 (.int .i64 last)
    simp at o10
    refine bodyPost_ret (results_cell_row rfl _ _ _ _ _ _ _ rfl o10 Try.underlying56 rfl Try.sizeRJ) rfl ?_
    refine RefJTo.drew ?_
    rw [← HW.out]
    exact back_rfin H0.out Hln.out hi Hl.out hla (show w.heap.size + 2 ≤ w1.heap.size by have := Hz.out; omega) (B0.out.trans (hx.mono B0.out.size)) (by have := hx.size; have := Hz.out; omega) R7.out F4.out
end Go.Proofs.Ytpbocficffbcbaa
namespace Go.Proofs.Ytpbocficffbcbaa
open Go Go.RowKit
set_option linter.unusedVariables false
set_option linter.unusedSimpArgs false

set_option maxRecDepth 100000 in
set_option maxHeartbeats 800000 in
theorem refNew (w : World) : Calls Try.prog 42 #[] w (RefJTo w (fun _ => False) [(0, [])] 0) := by
  go_enter Try.func42, Try.ntmps42
  go_wp2_with fail
  refine bodyPost_ret (results_cell_row rfl _ _ _ _ _ _ _ rfl (alloc_obj (alloc_new w _)) Try.underlying56 rfl Try.sizeRJ) rfl ?_
  have hr := RowAt.lit (w.alloc (.cells #[.slice (some ⟨w.heap.size + 1, 0, none⟩) 1 1, .int .i64 0] 56)) #[.int .i64 0, .slice none 0 0] 128 2 1 (by decide) rfl (by simp [Value.oneCell'])
  rw [World.size_alloc] at hr
  refine ⟨some ⟨w.heap.size + 1, 0, none⟩, 1, [⟨0, [], none, 0⟩], rfl, rfl, PtAt.of_row hr (fresh_new (Nat.le_succ _)) (fun p hp => ?_) (fun p hp ad he => ?_), ((Below.refl _ w).alloc (Nat.le_refl _) _).alloc (by simp) _⟩
  · simp at hp
    subst hp
    exact SlAt.null _ _
  · simp at hp
    subst hp
    simp at he

theorem fold_rfin {w w1 w3 w4 : World} {M : Nat → Prop} {qs : List Pt} {last : Int} {a' : Option Addr} {c' : Nat} {rs' : List Pr} (hM : ∀ k, M k → k < w.heap.size) (h1 : w1.heap.size = w.heap.size + 2) (b1 : Below w.heap.size w w1) (b3 : Below w1.heap.size w1 w3) (hm : rs'.map prP = qs)
    (hp : PtAt w4 (fun k => (M k ∨ (w1.heap.size ≤ k ∧ k < w3.heap.size)) ∨ (w3.heap.size ≤ k ∧ k < w4.heap.size)) a' qs.length c' rs') (b4 : Below w3.heap.size w3 w4) (u v : Value) :
    RefJTo w M qs last (.returned (.agg #[.slice a' qs.length c', .int .i64 last])) ((w4.setCell ⟨w.heap.size + 1, 0, none⟩ u).setCell ⟨w.heap.size + 1, 1, none⟩ v) := by
  have z3 := b3.size
  have z4 := b4.size
  have bb : Below w.heap.size w ((w4.setCell ⟨w.heap.size + 1, 0, none⟩ u).setCell ⟨w.heap.size + 1, 1, none⟩ v) :=
    (((b1.trans (b3.mono b1.size)).trans (b4.mono (by omega))).setCell (p := ⟨w.heap.size + 1, 0, none⟩) (by show w.heap.size ≤ w.heap.size + 1; omega) _).setCell (p := ⟨w.heap.size + 1, 1, none⟩) (by show w.heap.size ≤ w.heap.size + 1; omega) _
  have hu : Upd (fun k => k = w.heap.size + 1) w4 ((w4.setCell ⟨w.heap.size + 1, 0, none⟩ u).setCell ⟨w.heap.size + 1, 1, none⟩ v) := ((Upd.refl (fun k => k = w.heap.size + 1) w4).setCell ⟨w.heap.size + 1, 0, none⟩ (fun _ => rfl) u).setCell ⟨w.heap.size + 1, 1, none⟩ (fun _ => rfl) v
  refine ⟨a', c', rs', rfl, hm, ?_, bb⟩
  refine (hp.upd hu (fun k hk hq => ?_)).more (fun k hk => ?_)
  · rcases hk with (hk | hk) | hk
    · have := hM k hk; omega
    · omega
    · omega
  · have zs : w4.heap.size ≤ ((w4.setCell ⟨w.heap.size + 1, 0, none⟩ u).setCell ⟨w.heap.size + 1, 1, none⟩ v).heap.size := hu.size
    rcases hk with (hk | hk) | hk
    · exact .inl hk
    · exact .inr ⟨by omega, by omega⟩
    · exact .inr ⟨by omega, by omega⟩

set_option maxRecDepth 100000 in
set_option maxHeartbeats 1600000 in
theorem refFold (w : World) (M : Nat → Prop) (hM : ∀ k, M k → k < w.heap.size) (a : Option Addr) (n cap : Nat) (rs : List Pr) (h : PtAt w M a n cap rs) (last : Int) (hn : n ≤ 1000) (i : Nat) (hi : i < n) (p : Pr) (hp : rs[i]? = some p) (hlen : (ptEvs (rs.map prP)).length ≤ 1000) :
    Calls Try.prog 49 #[.agg #[.slice a n cap, .int .i64 last], .int .i64 i] w (RefJTo w M (backP (rs.map prP) i p.n (netF (ptEvs ((rs.map prP).drop i)))) last) := by
  have b0 : Below w.heap.size w ((w.alloc (.cells #[.slice a n cap, .int .i64 last] 56)).alloc (.cells #[.slice none 0 0, .int .i64 0] 56)) := ((Below.refl _ w).alloc (Nat.le_refl _) _).alloc (by simp) _
  have ob := alloc_obj (x := .cells #[.slice none 0 0, .int .i64 0] 56) (alloc_new w (.cells #[.slice a n cap, .int .i64 last] 56))
  have oz := alloc_new (w.alloc (.cells #[.slice a n cap, .int .i64 last] 56)) (.cells #[.slice none 0 0, .int .i64 0] 56)
  rw [World.size_alloc] at oz
  have hz : ((w.alloc (.cells #[.slice a n cap, .int .i64 last] 56)).alloc (.cells #[.slice none 0 0, .int .i64 0] 56)).heap.size = w.heap.size + 2 := by simp
  have hsub : (ptEvs ((rs.map prP).drop i)).length ≤ 1000 := by
    have := ptEvs_sub (rs.map prP) i rs.length
    rw [List.take_of_length_le (by simp)] at this
    omega
  obtain ⟨l, hl⟩ : ∃ l, l = ptEvs ((rs.map prP).drop i) := ⟨_, rfl⟩
  rw [← hl] at hsub ⊢
  have Hl := Lib.hid hl
  have Hp := Lib.hid (h.all b0)
  have Hi := Lib.hid hp
  have Ob := Lib.hid ob
  have Oz := Lib.hid oz
  have B0 := Lib.hid b0
  have Hz := Lib.hid hz
  clear h ob oz b0 hz hp hl
  go_enter Try.func49, Try.ntmps49
  go_wp2_with fail
  generalize ((w.alloc (.cells #[.slice a n cap, .int .i64 last] 56)).alloc (.cells #[.slice none 0 0, .int .i64 0] 56)) = w1 at *
  have HT := Lib.hid (fun (x : World) (hb : Below w1.heap.size w1 x) => (by
    have o := below_obj hb Ob.out (obj_lt Ob.out)
    exact ⟨obj_cell o 0, obj_cell o 1⟩ : x.cell? ⟨w.heap.size, 0, none⟩ = some (.slice a n cap) ∧ x.cell? ⟨w.heap.size, 1, none⟩ = some (.int .i64 last)))
  have hx0 := HT.out w1.drew (Below.refl _ _).drew
  go_region_held3 (fun x => x.cell? ⟨w.heap.size, 0, none⟩ = some (.slice a n cap) ∧ x.cell? ⟨w.heap.size, 1, none⟩ = some (.int .i64 last))
    (first | exact hx0 | exact hx2 | exact hx3 | exact hx4 | exact held2 hx4)
    (first
      | (go_at_call 48; refine (refAll _ M _ _ _ rs (Hp.out.all (Below.refl _ _).drew) last i (by omega) hn (by omega)).mono ?_; rw [← Hl.out]; rintro e w2 ⟨a2, c2, rfl, hr2, hf2, hb2⟩; have B2 := Lib.hid ((undrew hb2 : Below w1.heap.size w1 w2)); have hx2 := HT.out _ B2.out; have R2 := Lib.hid hr2; clear hr2 hb2 hf2)
      | (go_at_call 87; refine (refNet _ _ _ _ l R2.out.sl (by omega)).mono ?_; rintro e w3 ⟨a3, c3, rfl, hr3, hf3, hb3⟩; have B3 := Lib.hid (B2.out.trans (hb3.mono B2.out.size) : Below w1.heap.size w1 w3); have hx3 := HT.out _ B3.out; have R3 := Lib.hid hr3; have F3 := Lib.hid (hf3.mono B2.out.size : Fresh w1.heap.size a3); clear hr3 hb3 hf3)
      | (go_at_call 50; refine (refBack _ (fun k => M k ∨ (w1.heap.size ≤ k ∧ k < w3.heap.size)) _ _ _ rs ((Hp.out.all B3.out).more (fun _ hk => .inl hk)) last hn i hi p Hi.out _ _ _ (netF l) R3.out.sl (fun ad he => .inr ⟨F3.out ad he, R3.out.lt ad he⟩)).mono ?_; rintro e w4 ⟨a4, c4, rs4, rfl, hm4, hp4, hb4⟩; have B4 := Lib.hid (B3.out.trans (hb4.mono B3.out.size) : Below w1.heap.size w1 w4); have hx4 := HT.out _ B4.out; have P4 := Lib.hid hp4; have M4 := Lib.hid hm4; have B34 := Lib.hid hb4; have o4 := below_obj B4.out Oz.out (obj_lt Oz.out); have k0 := obj_cell o4 0; have k1 := obj_cell o4 1; have f0 := obj_free o4 0; have f1 := obj_free o4 1; simp at k0 k1; have O4 := Lib.hid o4; clear hp4 hm4 hb4 o4))
  go_wp2_with fail
  have o7 := obj_set O4.out 0 (.slice a4 (backP (rs.map prP) i p.n (netF l)).length c4)
  have o8 := obj_set o7 1 (.int .i64 last)
  simp at o8
  refine bodyPost_ret (results_cell_row rfl _ _ _ _ _ _ _ rfl o8 Try.underlying56 rfl Try.sizeRJ) rfl ?_
  exact fold_rfin hM Hz.out B0.out B3.out M4.out P4.out B34.out _ _
end Go.Proofs.Ytpbocficffbcbaa
namespace Go.Proofs.Ytpbocficffbcbaa
open Go Go.RowKit
set_option linter.unusedVariables false
set_option linter.unusedSimpArgs false

theorem Try.sizePt : (Try.prog.info? 128).map (·.size) = some 2 := by kernel_rfl
/-- Behind a call that hands back a journal of the document's, and a number. -/
def RefJTo2 (w : World) (M : Nat → Prop) (qs' : List Pt) (last' : Int) (bad : Int) (e : Ending) (w' : World) : Prop :=
  ∃ a' c' rs', e = .returned (.tuple #[.agg #[.slice a' qs'.length c', .int .i64 last'], .int .i64 bad]) ∧ rs'.map prP = qs' ∧ PtAt w' (fun k => M k ∨ (w.heap.size ≤ k ∧ k < w'.heap.size)) a' qs'.length c' rs' ∧ Below w.heap.size w w'
theorem add_rfin {w wr : World} {M M2 : Nat → Prop} {qs : List Pt} {last bad : Int} {a' : Option Addr} {c' n : Nat} {rs' : List Pr} (hM : ∀ k, M k → k < w.heap.size) (bb : Below w.heap.size w wr) (hm : rs'.map prP = qs) (hn : n = qs.length)
    (hp : PtAt wr M2 a' n c' rs') (hM2 : ∀ k, M2 k → M k ∨ (w.heap.size + 2 ≤ k ∧ k < wr.heap.size)) (u v : Value) :
    RefJTo2 w M qs last bad (.returned (.tuple #[.agg #[.slice a' n c', .int .i64 last], .int .i64 bad])) ((wr.setCell ⟨w.heap.size + 1, 0, none⟩ u).setCell ⟨w.heap.size + 1, 1, none⟩ v) := by
  subst hn
  have hu : Upd (fun k => k = w.heap.size + 1) wr ((wr.setCell ⟨w.heap.size + 1, 0, none⟩ u).setCell ⟨w.heap.size + 1, 1, none⟩ v) := ((Upd.refl (fun k => k = w.heap.size + 1) wr).setCell ⟨w.heap.size + 1, 0, none⟩ (fun _ => rfl) u).setCell ⟨w.heap.size + 1, 1, none⟩ (fun _ => rfl) v
  refine ⟨a', c', rs', rfl, hm, ?_, (bb.setCell (p := ⟨w.heap.size + 1, 0, none⟩) (by show w.heap.size ≤ w.heap.size + 1; omega) _).setCell (p := ⟨w.heap.size + 1, 1, none⟩) (by show w.heap.size ≤ w.heap.size + 1; omega) _⟩
  refine (hp.upd hu (fun k hk hq => ?_)).more (fun k hk => ?_)
  · rcases hM2 k hk with h | h
    · have := hM k h; omega
    · omega
  · have zs : wr.heap.size ≤ ((wr.setCell ⟨w.heap.size + 1, 0, none⟩ u).setCell ⟨w.heap.size + 1, 1, none⟩ v).heap.size := hu.size
    rcases hM2 k hk with h | h
    · exact .inl h
    · exact .inr ⟨by omega, by omega⟩

/-- What Add answers. -/
def addQ (l : List Ev) (qs : List Pt) : List Pt := if chks l = 0 then addL l qs else qs

/-- A new list of parts that grows, in the journal at block b9. -/
structure GrP (w0 wr : World) (b9 : Nat) (last : Int) (rs : List Pr) (ao : Option Addr) (k co : Nat) : Prop where
  len : rs.length = k
  obj : wr.heap[b9]? = some (.cells #[.slice ao k co, .int .i64 last] 56 (0, 0))
  row : RowAt wr 128 2 ao k co (prs rs)
  ev : ∀ p ∈ rs, RowAt wr 64 6 p.a p.l.length p.c (evs p.l)
  fr : Fresh w0.heap.size ao
  frE : ∀ p ∈ rs, Fresh w0.heap.size p.a
  b9 : w0.heap.size ≤ b9
  bel : Below w0.heap.size w0 wr
theorem GrP.all {w0 wr w' : World} {b9 : Nat} {last : Int} {rs : List Pr} {ao : Option Addr} {k co : Nat} (h : GrP w0 wr b9 last rs ao k co) (hb : Below wr.heap.size wr w') : GrP w0 w' b9 last rs ao k co :=
  ⟨h.len, below_obj hb h.obj (obj_lt h.obj), h.row.all hb, fun p hp => (h.ev p hp).all hb, h.fr, h.frE, h.b9, h.bel.trans (hb.mono h.bel.size)⟩
theorem GrP.off {w0 wr : World} {b9 : Nat} {last : Int} {rs : List Pr} {ao : Option Addr} {k co : Nat} (h : GrP w0 wr b9 last rs ao k co) : (∀ ad, ao = some ad → ad.block ≠ b9) ∧ (∀ p ∈ rs, ∀ ad, p.a = some ad → ad.block ≠ b9 ∧ ¬ blk ao ad.block) := by
  refine ⟨fun ad he hb => ?_, fun p hp ad he => ⟨fun hb => ?_, fun ⟨ad2, he2, hb⟩ => ?_⟩⟩
  · obtain ⟨_, cur, hg, _⟩ := h.row.row ad he
    rw [hb, h.obj] at hg
    cases hg
  · obtain ⟨_, cur, hg, _⟩ := (h.ev p hp).row ad he
    rw [hb, h.obj] at hg
    cases hg
  · obtain ⟨_, cur, hg, _⟩ := (h.ev p hp).row ad he
    obtain ⟨_, cur2, hg2, _⟩ := h.row.row ad2 he2
    rw [hb, hg] at hg2
    cases hg2
theorem GrP.snoc {w0 wr w2 w3 : World} {b9 : Nat} {last : Int} {rs : List Pr} {ao a3 : Option Addr} {k co c3 : Nat} {p : Pr} {o : Obj} (h : GrP w0 wr b9 last rs ao k co) (hb : Below wr.heap.size wr w2) (hp : RowAt w2 64 6 p.a p.l.length p.c (evs p.l)) (hf : Fresh w0.heap.size p.a)
    (hr : RowAt w3 128 2 a3 (k + 1) c3 (prs rs ++ prC p)) (hu : Upd (blk ao) (w2.alloc o) w3) (hl : ∀ ad, a3 = some ad → ao = some ad ∨ (w2.alloc o).heap.size ≤ ad.block) :
    GrP w0 (w3.setCell ⟨b9, 0, none⟩ (.slice a3 (k + 1) c3)) b9 last (rs ++ [p]) a3 (k + 1) c3 := by
  have h2 := h.all hb
  have hob : Below w2.heap.size w2 (w2.alloc o) := (Below.refl _ _).alloc (Nat.le_refl _) _
  have h3 := h2.all hob
  have off := h3.off
  have hzb := h3.bel.size
  have f3 : Fresh w0.heap.size a3 := h.fr.step hzb hl
  have o3 := hu.obj h3.obj (fun ⟨ad, he, hq⟩ => off.1 ad he hq)
  have hpn : ∀ ad, p.a = some ad → ad.block ≠ b9 ∧ ¬ blk ao ad.block := fun ad he => by
    refine ⟨fun hq => ?_, fun ⟨ad2, he2, hq⟩ => ?_⟩
    · obtain ⟨_, cur, hg, _⟩ := hp.row ad he
      rw [hq, h2.obj] at hg
      cases hg
    · obtain ⟨_, cur, hg, _⟩ := hp.row ad he
      obtain ⟨_, cur2, hg2, _⟩ := h2.row.row ad2 he2
      rw [hq, hg] at hg2
      cases hg2
  have a3n : ∀ ad, a3 = some ad → ad.block ≠ b9 := fun ad he hq => by
    obtain ⟨_, cur, hg, _⟩ := hr.row ad he
    rw [hq, o3] at hg
    cases hg
  refine ⟨by simp [h.len], by simpa using obj_set o3 0 (.slice a3 (k + 1) c3), ?_, fun q hq => ?_, f3, fun q hq => ?_, h.b9, ?_⟩
  · have := hr.setCell ⟨b9, 0, none⟩ a3n (.slice a3 (k + 1) c3)
    simpa [prs] using this
  · rcases List.mem_append.1 hq with hq | hq
    · exact ((h3.ev q hq).upd hu (fun ad he => (off.2 q hq ad he).2)).setCell _ (fun ad he => (off.2 q hq ad he).1) _
    · simp at hq
      subst hq
      exact ((hp.alloc o).upd hu (fun ad he => (hpn ad he).2)).setCell _ (fun ad he => (hpn ad he).1) _
  · rcases List.mem_append.1 hq with hq | hq
    · exact h.frE q hq
    · simp at hq
      subst hq
      exact hf
  · exact (h3.bel.trans (appendBelow h.fr hzb hu)).setCell (p := ⟨b9, 0, none⟩) h.b9 _

set_option maxRecDepth 100000 in
set_option maxHeartbeats 6400000 in
theorem refAdd (w : World) (M : Nat → Prop) (hM : ∀ k, M k → k < w.heap.size) (a : Option Addr) (n cap : Nat) (rs : List Pr) (h : PtAt w M a n cap rs) (last : Int) (h1 : 1 ≤ n) (hn : n ≤ 1000) (hes : (ptEvs (rs.map prP)).length ≤ 2000)
    (la : Option Addr) (ln lc : Nat) (l : List Ev) (hs : SlAt w 6 la ln lc (evs l)) (hln : ln ≤ 1000) :
    Calls Try.prog 43 #[.agg #[.slice a n cap, .int .i64 last], .slice la ln lc] w (RefJTo2 w M (addQ l (rs.map prP)) last (chks l)) := by
  have b0 : Below w.heap.size w ((w.alloc (.cells #[.slice a n cap, .int .i64 last] 56)).alloc (.cells #[.slice none 0 0, .int .i64 0] 56)) := ((Below.refl _ w).alloc (Nat.le_refl _) _).alloc (by simp) _
  have ob := alloc_obj (x := (.cells #[.slice none 0 0, .int .i64 0] 56)) (alloc_new w (.cells #[.slice a n cap, .int .i64 last] 56))
  have oz := alloc_new (w.alloc (.cells #[.slice a n cap, .int .i64 last] 56)) (.cells #[.slice none 0 0, .int .i64 0] 56)
  rw [World.size_alloc] at oz
  have hz : ((w.alloc (.cells #[.slice a n cap, .int .i64 last] 56)).alloc (.cells #[.slice none 0 0, .int .i64 0] 56)).heap.size = w.heap.size + 2 := by simp
  have Hl := Lib.hid (ev_len hs)
  have Hp := Lib.hid (h.all b0)
  have Hs := Lib.hid (hs.all b0)
  have Hrl := Lib.hid h.len
  have Ob := Lib.hid ob
  have Oz := Lib.hid oz
  have B0 := Lib.hid b0
  have Hz := Lib.hid hz
  clear h ob oz b0 hz hs
  go_enter Try.func43, Try.ntmps43
  go_wp2_with fail
  generalize ((w.alloc (.cells #[.slice a n cap, .int .i64 last] 56)).alloc (.cells #[.slice none 0 0, .int .i64 0] 56)) = w1 at *
  go_loopw [15] (fun i wr => ∃ k : Nat, k ≤ ln ∧ i = .int .i64 k ∧ chks (l.take k) = 0 ∧ Below w1.heap.size w1 wr) (fun i _ => ln - (intOf i).toNat)
  case atStart => exact ⟨0, Nat.zero_le _, rfl, rfl, Below.refl _ _⟩
  case round =>
    obtain ⟨k, hk, rfl, hc0, hbel⟩ := hrel
    by_cases hlt : k < ln
    · obtain ⟨b, off, x, rfl, hx, hb, ⟨xk, xa, xb, xc, xd, xe⟩⟩ := ev_at (Hs.out.all hbel) hlt
      have Hc := Lib.hid hc0
      have Hx := Lib.hid hx
      have bz := hbel.size
      obtain ⟨z0, z1, z2, z3, z4, z5⟩ := EvCells.of (alloc_new wr (.cells (evA x) 64))
      have hb2 := hbel.alloc bz (.cells (evA x) 64)
      clear hc0 hx
      go_wp2_with fail
      clear z0 z1 z2 z3 z4 z5 xk xa xb xc xd xe
      generalize (wr.alloc (.cells (evA x) 64)) = w2 at *
      refine (refCheck _ x).mono ?_
      rintro e w3 ⟨rfl, hb3⟩
      have b3 : Below w1.heap.size w1 w3 := hb2.trans (hb3.mono hb2.size)
      have B3 := Lib.hid b3
      clear hb2 hb3
      by_cases hz0 : chk x = 0
      · have Hst := Lib.hid (chks_step Hx.out Hc.out hz0)
        rw [hz0]
        clear hz0
        go_wp2_with fail
        go_roundw
        case rel => exact ⟨k + 1, by omega, by go_num, Hst.out, B3.out⟩
        case measure => simp [intOf]; omega
      · have Hst := Lib.hid (chks_hit Hx.out Hc.out hz0)
        have hzb : (chk x != 0) = true := by simp [hz0]
        have Hz0 := Lib.hid hz0
        have ob3 := below_obj b3 Ob.out (obj_lt Ob.out)
        have oz3 := below_obj b3 Oz.out (obj_lt Oz.out)
        have q0 := obj_cell ob3 0
        have q1 := obj_cell ob3 1
        have k0 := obj_cell oz3 0
        have k1 := obj_cell oz3 1
        have f0 := obj_free oz3 0
        have f1 := obj_free oz3 1
        simp at q0 q1 k0 k1
        have Oz3 := Lib.hid oz3
        obtain ⟨cx, hcx⟩ : ∃ cx, cx = chk x := ⟨_, rfl⟩
        rw [← hcx] at hzb ⊢
        have Hcx := Lib.hid hcx
        clear hz0 ob3 oz3 hcx
        go_wp2_with fail
        have o7 := obj_set Oz3.out 0 (.slice a n cap)
        have o8 := obj_set o7 1 (.int .i64 last)
        simp at o8
        refine bodyPost_ret (results_cell_slot rfl _ _ _ _ _ _ _ rfl o8 Try.underlying56 rfl Try.sizeRJ) rfl ?_
        have hcl : chks l = cx := by rw [Hst.out, Hcx.out]
        unfold addQ
        rw [hcl, if_neg (by rw [Hcx.out]; exact Hz0.out)]
        have bb := B0.out.trans (B3.out.mono B0.out.size)
        exact add_rfin hM bb rfl (by rw [List.length_map, Hrl.out]) (Hp.out.all B3.out) (fun k hk => .inl hk) _ _
    · obtain rfl : k = ln := by omega
      have hcl : chks l = 0 := by rw [List.take_of_length_le (by have := Hl.out; omega)] at hc0; exact hc0
      have Hcl := Lib.hid hcl
      have ob3 := below_obj hbel Ob.out (obj_lt Ob.out)
      have q0 := obj_cell ob3 0
      have q1 := obj_cell ob3 1
      simp at q0 q1
      have Ob3 := Lib.hid ob3
      have HB := Lib.hid hbel
      clear hc0 hcl ob3 hbel
      go_wp2_with fail
      refine (refAll _ M _ _ _ rs (Hp.out.all HB.out) last 0 (Nat.zero_le _) hn hes).mono ?_
      rintro e w3 ⟨a3, c3, rfl, _, _, hb3⟩
      have b3 : Below w1.heap.size w1 w3 := HB.out.trans (hb3.mono HB.out.size)
      rw [List.drop_zero]
      have ob4 := below_obj b3 Ob.out (obj_lt Ob.out)
      have q0 := obj_cell ob4 0
      have q1 := obj_cell ob4 1
      simp at q0 q1
      have hgt : ¬ (65536 : Int) < ((ptEvs (rs.map prP)).length : Int) + (k : Int) := by omega
      have hgb : decide ((65536 : Int) < ((ptEvs (rs.map prP)).length : Int) + (k : Int)) = false := by simp; omega
      have B3 := Lib.hid b3
      have ob5 := alloc_obj (x := .cells #[.slice none 0 0, .int .i64 last] 56) ob4
      have p0 := (obj_cell ob5 0 : _ = some (Value.slice a n cap))
      have GP0 := Lib.hid (⟨rfl, alloc_new w3 _, RowAt.null _ _ _, (by simp), (fun ad he => by cases he), (by simp), Nat.le_refl _, (Below.refl _ _).alloc (Nat.le_refl _) _⟩ : GrP w3 (w3.alloc (.cells #[.slice none 0 0, .int .i64 last] 56)) w3.heap.size last [] none 0 0)
      obtain ⟨qs, hqs⟩ : ∃ qs, qs = addL l (rs.map prP) := ⟨_, rfl⟩
      have Hqs := Lib.hid hqs
      have Hql := Lib.hid (show qs.length = n by rw [hqs, addL_len, List.length_map]; exact Hrl.out)
      have Hb5 := Lib.hid (B3.out.alloc B3.out.size (.cells #[.slice none 0 0, .int .i64 last] 56))
      have Hall := Lib.hid (show addQ l (rs.map prP) = qs by unfold addQ; rw [if_pos Hcl.out, hqs])
      clear hb3 b3 ob4 Ob3 HB hqs
      go_wp2_with fail
      go_loopw [40] (fun i wr => ∃ j : Nat, j ≤ n ∧ i = .int .i64 j ∧ ∃ rs2 ao co, rs2.map prP = qs.take j ∧ GrP w3 wr w3.heap.size last rs2 ao j co) (fun i _ => n - (intOf i).toNat)
      case atStart => exact ⟨0, Nat.zero_le _, rfl, [], none, 0, rfl, GP0.out⟩
      case round =>
        obtain ⟨j, hj, rfl, rs2, ao, co, hm2, hg⟩ := hrel
        have Hm2 := Lib.hid hm2
        have HG := Lib.hid hg
        clear hm2 hg
        have hwz := HG.out.bel.size
        have bw := B3.out.trans (HG.out.bel.mono B3.out.size)
        have HBW := Lib.hid bw
        clear bw
        by_cases hlj : j < n
        · obtain ⟨b, off, p, rfl, hp, hbb, d0, d1, hev⟩ := pr_at (Hp.out.all HBW.out) hlj
          have hpl : p.l.length ≤ 2000 := by
            have h2 := ptEvs_sub (rs.map prP) j 1
            have h3 : ((rs.map prP).drop j).take 1 = [prP p] := by
              obtain ⟨hk, h4⟩ := List.getElem?_eq_some_iff.1 hp
              rw [List.drop_eq_getElem_cons (by simpa using hk)]
              simp [h4]
            rw [h3, show ptEvs [prP p] = p.l by simp [ptEvs, prP]] at h2
            omega
          obtain ⟨pn, hpn⟩ : ∃ pn, pn = p.l.length := ⟨_, rfl⟩
          rw [← hpn] at d1 hev hpl
          have Hpn := Lib.hid hpn
          have Hev := Lib.hid hev
          have Hpp := Lib.hid hp
          have z11 := obj_cell (alloc_new wr (.cells #[.int .i64 p.n, .slice p.a pn p.c] 128))
          have z0 := (z11 0 : _ = some (Value.int .i64 p.n))
          have z1 := (z11 1 : _ = some (Value.slice p.a pn p.c))
          have O11 := Lib.hid (alloc_new wr (.cells #[.int .i64 p.n, .slice p.a pn p.c] 128))
          have Hb11 := Lib.hid ((Below.refl _ wr).alloc (Nat.le_refl _) (.cells #[.int .i64 p.n, .slice p.a pn p.c] 128))
          clear hp hpn hev z11
          go_upto_region 14 with (fail)
          generalize (wr.alloc (.cells #[.int .i64 p.n, .slice p.a pn p.c] 128)) = w6 at *
          go_cut [12] (fun v wx => ∃ b12 a' c', v = .pointer (some ⟨b12, 0, none⟩) ∧ wx.heap[b12]? = some (.cells #[.int .i64 p.n, .slice a' pn c'] 128 (0, 0)) ∧ RowAt wx 64 6 a' pn c' (evs p.l) ∧ Fresh wr.heap.size a' ∧ wr.heap.size ≤ b12 ∧ Below wr.heap.size wr wx)
          case first =>
            have HT := Lib.hid (fun (x : World) (hb : Below w6.heap.size w6 x) => (by
              have o := below_obj hb O11.out (obj_lt O11.out)
              exact ⟨obj_cell o 0, obj_cell o 1⟩ : x.cell? ⟨wr.heap.size, 0, none⟩ = some (.int .i64 p.n) ∧ x.cell? ⟨wr.heap.size, 1, none⟩ = some (.slice p.a pn p.c)))
            have hx : Below w6.heap.size w6 w6.drew := (Below.refl _ _).drew
            refine wp_region_held_drew (S := fun x => x.cell? ⟨wr.heap.size, 0, none⟩ = some (.int .i64 p.n) ∧ x.cell? ⟨wr.heap.size, 1, none⟩ = some (.slice p.a pn p.c)) (by kernel_rfl) (HT.out _ hx) (fun hHeld => ?_)
            refine wpAnyH_take (i := 0) (oi := ⟨some 45, _, _, _, _, _⟩) (v := ?_) rfl (by kernel_rfl) (by kernel_rfl) (by kernel_rfl) (fun _ _ _ h => h) (Or.inl ⟨by rfl, ?_⟩) hHeld ?_
            rotate_left
            · intro w' hS'
              (try dsimp only at hS')
              go_simp
              try with_reducible rfl
            try simp only [Act.put, List.setIfInBounds_toArray, List.set_cons_zero, List.set_cons_succ]
            refine wpAnyH_take (i := 1) (oi := ⟨some 46, _, _, _, _, _⟩) (v := ?_) rfl (by kernel_rfl) (by kernel_rfl) (by kernel_rfl) (fun _ _ _ h => h) (Or.inl ⟨by rfl, ?_⟩) hHeld ?_
            rotate_left
            · intro w' hS'
              (try dsimp only at hS')
              go_simp
              try with_reducible rfl
            try simp only [Act.put, List.setIfInBounds_toArray, List.set_cons_zero, List.set_cons_succ]
            refine wpAnyH_take (i := 3) (oi := ⟨some 48, _, _, _, _, _⟩) (v := ?_) rfl (by kernel_rfl) (by kernel_rfl) (by kernel_rfl) (fun _ _ _ h => h) (Or.inl ⟨by rfl, ?_⟩) hHeld ?_
            rotate_left
            · intro w' hS'
              (try dsimp only at hS')
              go_simp
              try with_reducible rfl
            try simp only [Act.put, List.setIfInBounds_toArray, List.set_cons_zero, List.set_cons_succ]
            refine wpAnyH_take (i := 4) (oi := ⟨some 49, _, _, _, _, _⟩) (v := ?_) rfl (by kernel_rfl) (by kernel_rfl) (by kernel_rfl) (fun _ _ _ h => h) (Or.inl ⟨by rfl, ?_⟩) hHeld ?_
            rotate_left
            · intro w' hS'
              (try dsimp only at hS')
              go_simp
              try with_reducible rfl
            try simp only [Act.put, List.setIfInBounds_toArray, List.set_cons_zero, List.set_cons_succ]
            refine wpAnyH_all (rs := [2, 7]) (by kernel_rfl) (by simp) ?_
            intro ix hix
            have hix' : ix = 2 ∨ ix = 7 := by simpa using hix
            clear hix
            rcases hix' with rfl | rfl
            · skip
              refine wpOp_step (o := ⟨some 47, _, _, _, _, _⟩) rfl (fun K hK => ?_)
              have HK := Lib.hid hK
              clear hK
              go_simp
              replace hx : Below w6.heap.size w6 (w6.alloc (.cells #[] 64)).drew := ((Below.refl _ w6).alloc (Nat.le_refl _) (.cells #[] 64)).drew
              have R0 := Lib.hid ((RowAt.lit w6 #[] 64 6 0 (Nat.zero_le _) rfl (by simp)).drew)
              have F0 := Lib.hid (fresh_new (Nat.le_refl w6.heap.size))
              go_wp2_with fail
              refine HK.out _ _ ⟨(HT.out _ hx), ?_⟩
              clear HK
              try clear hHeld
              have hHeld := (HT.out _ hx)
              try simp only [Act.put, List.setIfInBounds_toArray, List.set_cons_zero, List.set_cons_succ]
              refine wpAnyH_all (rs := [5, 7]) (by kernel_rfl) (by simp) ?_
              intro ix hix
              have hix' : ix = 5 ∨ ix = 7 := by simpa using hix
              clear hix
              rcases hix' with rfl | rfl
              · skip
                refine wpOp_step (o := ⟨some 50, _, _, _, _, _⟩) rfl (fun K hK => ?_)
                have HK := Lib.hid hK
                clear hK
                refine step_append_row rfl (.tmp 47) (.tmp 49) 40 rfl 64 (.agg #[.int .i64 0, .int .i64 0, .int .i64 0, .int .i64 0, .int .i64 0, .int .i64 0]) 6 48 Try.underlying40 Try.infoEv rfl (by decide) rfl rfl R0.out (Hev.out.all (Hb11.out.trans (hx.mono Hb11.out.size))) (by unfold maxLen; omega) (by omega) ?_
                intro a2 c2 w8 hrow hupd hloc hnil
                simp only [Nat.zero_add, List.nil_append] at hrow ⊢
                have R4 := Lib.hid hrow
                have R4x := Lib.hid hrow
                have F4 := Lib.hid (F0.out.step hx.size hloc)
                replace hx := hx.trans (appendBelow F0.out hx.size hupd)
                clear hrow hupd hloc hnil
                refine HK.out _ _ ⟨(HT.out _ hx), ?_⟩
                clear HK
                try clear hHeld
                have hHeld := (HT.out _ hx)
                try simp only [Act.put, List.setIfInBounds_toArray, List.set_cons_zero, List.set_cons_succ]
                refine wpAnyH_take (i := 6) (oi := ⟨some 51, _, _, _, _, _⟩) (v := ?_) rfl (by kernel_rfl) (by kernel_rfl) (by kernel_rfl) (fun _ _ _ h => h) (Or.inl ⟨by rfl, ?_⟩) hHeld ?_
                rotate_left
                · intro w' hS'
                  (try dsimp only at hS')
                  go_simp
                  try with_reducible rfl
                try simp only [Act.put, List.setIfInBounds_toArray, List.set_cons_zero, List.set_cons_succ]
                refine wpAnyH_all (rs := [7]) (by kernel_rfl) (by simp) ?_
                intro ix hix
                obtain rfl : ix = 7 := by simpa using hix
                clear hix
                refine wpOp_step (o := ⟨some 12, _, _, _, _, _⟩) rfl (fun K hK => ?_)
                have HK := Lib.hid hK
                clear hK
                go_simp
                have hz4 := hx.size
                have OQ := Lib.hid (alloc_new w8 (.cells #[.int .i64 0, .slice none 0 0] 128))
                have R4 := Lib.hid (R4.out.alloc (.cells #[.int .i64 0, .slice none 0 0] 128))
                have hne : ¬ blk a2 w8.heap.size := fun ⟨ad, he, hq⟩ => by have := R4x.out.lt ad he; omega
                replace hx := hx.alloc hx.size (.cells #[.int .i64 0, .slice none 0 0] 128)
                go_wp2_with fail
                refine HK.out _ _ ⟨(HT.out _ hx), ?_⟩
                clear HK
                try clear hHeld
                have hHeld := (HT.out _ hx)
                try simp only [Act.put, List.setIfInBounds_toArray, List.set_cons_zero, List.set_cons_succ]
                refine wpAnyH_all (rs := [8]) (by kernel_rfl) (by simp) ?_
                intro ix hix
                obtain rfl : ix = 8 := by simpa using hix
                clear hix
                refine wpOp_step (o := ⟨none, _, _, _, _, _⟩) rfl (fun K hK => ?_)
                have HK := Lib.hid hK
                clear hK
                refine step_store_whole rfl 128 (.tmp 12) (.tmp 51) rfl w8.heap.size rfl 128 #[.int .i64 0, .slice none 0 0] #[.int .i64 p.n, .slice a2 pn c2] rfl OQ.out Try.sizePt rfl (by simp [Value.oneCell']) ?_
                intro w9 hobj hupd
                have O7 := Lib.hid hobj
                have R7 := Lib.hid (R4.out.upd hupd (fun ad he hq => hne ⟨ad, he, hq⟩))
                have hq1 : w6.heap.size ≤ w8.heap.size := by first | exact hz4 | omega
                replace hx := hx.trans (hupd.below hx.size (fun k hk hq => by change _ = _ at hq; omega))
                clear hobj hupd hne
                refine HK.out _ _ ⟨(HT.out _ hx), ?_⟩
                clear HK
                try clear hHeld
                have hHeld := (HT.out _ hx)
                try simp only [Act.put, List.setIfInBounds_toArray, List.set_cons_zero, List.set_cons_succ]
                refine wpAnyH_done (by kernel_rfl) ?_ _
                clear hHeld
                go_wp2_with fail
                go_meet
                have h6z := Hb11.out.size
                exact ⟨_, a2, c2, rfl, O7.out, R7.out, F4.out.mono h6z, by omega, Hb11.out.trans (hx.mono h6z)⟩
              · skip
                refine wpOp_step (o := ⟨some 12, _, _, _, _, _⟩) rfl (fun K hK => ?_)
                have HK := Lib.hid hK
                clear hK
                go_simp
                replace hx : Below w6.heap.size w6 (((w6.alloc (.cells #[] 64)).alloc (.cells #[.int .i64 0, .slice none 0 0] 128))).drew := (((Below.refl _ w6).alloc (Nat.le_refl _) (.cells #[] 64)).alloc (by simp) (.cells #[.int .i64 0, .slice none 0 0] 128)).drew
                have R0 := Lib.hid (((RowAt.lit w6 #[] 64 6 0 (Nat.zero_le _) rfl (by simp)).alloc (.cells #[.int .i64 0, .slice none 0 0] 128)).drew)
                have OQ' := alloc_new (w6.alloc (.cells #[] 64)) (.cells #[.int .i64 0, .slice none 0 0] 128)
                rw [World.size_alloc] at OQ'
                have OQ := Lib.hid OQ'
                clear OQ'
                go_wp2_with fail
                refine HK.out _ _ ⟨(HT.out _ hx), ?_⟩
                clear HK
                try clear hHeld
                have hHeld := (HT.out _ hx)
                try simp only [Act.put, List.setIfInBounds_toArray, List.set_cons_zero, List.set_cons_succ]
                refine wpAnyH_all (rs := [5]) (by kernel_rfl) (by simp) ?_
                intro ix hix
                obtain rfl : ix = 5 := by simpa using hix
                clear hix
                refine wpOp_step (o := ⟨some 50, _, _, _, _, _⟩) rfl (fun K hK => ?_)
                have HK := Lib.hid hK
                clear hK
                refine step_append_row rfl (.tmp 47) (.tmp 49) 40 rfl 64 (.agg #[.int .i64 0, .int .i64 0, .int .i64 0, .int .i64 0, .int .i64 0, .int .i64 0]) 6 48 Try.underlying40 Try.infoEv rfl (by decide) rfl rfl R0.out (Hev.out.all (Hb11.out.trans (hx.mono Hb11.out.size))) (by unfold maxLen; omega) (by omega) ?_
                intro a2 c2 w8 hrow hupd hloc hnil
                simp only [Nat.zero_add, List.nil_append] at hrow ⊢
                have R4 := Lib.hid hrow
                have R4x := Lib.hid hrow
                have F4 := Lib.hid (F0.out.step hx.size hloc)
                have hnb : ¬ blk (some (⟨w6.heap.size, 0, none⟩ : Addr)) (w6.heap.size + 1) := fun ⟨ad, he, hq⟩ => by obtain rfl := Option.some.inj he; simp at hq
                have OQ := Lib.hid (hupd.obj OQ.out hnb)
                have hne : ¬ blk a2 (w6.heap.size + 1) := fun ⟨ad, he, hq⟩ => by rcases hloc ad he with h1 | h1; (obtain rfl := Option.some.inj h1; simp at hq); (have := obj_lt OQ.out; simp at h1; omega)
                replace hx := hx.trans (appendBelow F0.out hx.size hupd)
                clear hrow hupd hloc hnil
                refine HK.out _ _ ⟨(HT.out _ hx), ?_⟩
                clear HK
                try clear hHeld
                have hHeld := (HT.out _ hx)
                try simp only [Act.put, List.setIfInBounds_toArray, List.set_cons_zero, List.set_cons_succ]
                refine wpAnyH_take (i := 6) (oi := ⟨some 51, _, _, _, _, _⟩) (v := ?_) rfl (by kernel_rfl) (by kernel_rfl) (by kernel_rfl) (fun _ _ _ h => h) (Or.inl ⟨by rfl, ?_⟩) hHeld ?_
                rotate_left
                · intro w' hS'
                  (try dsimp only at hS')
                  go_simp
                  try with_reducible rfl
                try simp only [Act.put, List.setIfInBounds_toArray, List.set_cons_zero, List.set_cons_succ]
                refine wpAnyH_all (rs := [8]) (by kernel_rfl) (by simp) ?_
                intro ix hix
                obtain rfl : ix = 8 := by simpa using hix
                clear hix
                refine wpOp_step (o := ⟨none, _, _, _, _, _⟩) rfl (fun K hK => ?_)
                have HK := Lib.hid hK
                clear hK
                refine step_store_whole rfl 128 (.tmp 12) (.tmp 51) rfl (w6.heap.size + 1) rfl 128 #[.int .i64 0, .slice none 0 0] #[.int .i64 p.n, .slice a2 pn c2] rfl OQ.out Try.sizePt rfl (by simp [Value.oneCell']) ?_
                intro w9 hobj hupd
                have O7 := Lib.hid hobj
                have R7 := Lib.hid (R4.out.upd hupd (fun ad he hq => hne ⟨ad, he, hq⟩))
                have hq1 : w6.heap.size ≤ (w6.heap.size + 1) := by first | exact hz4 | omega
                replace hx := hx.trans (hupd.below hx.size (fun k hk hq => by change _ = _ at hq; omega))
                clear hobj hupd hne
                refine HK.out _ _ ⟨(HT.out _ hx), ?_⟩
                clear HK
                try clear hHeld
                have hHeld := (HT.out _ hx)
                try simp only [Act.put, List.setIfInBounds_toArray, List.set_cons_zero, List.set_cons_succ]
                refine wpAnyH_done (by kernel_rfl) ?_ _
                clear hHeld
                go_wp2_with fail
                go_meet
                have h6z := Hb11.out.size
                exact ⟨_, a2, c2, rfl, O7.out, R7.out, F4.out.mono h6z, by omega, Hb11.out.trans (hx.mono h6z)⟩
            · skip
              refine wpOp_step (o := ⟨some 12, _, _, _, _, _⟩) rfl (fun K hK => ?_)
              have HK := Lib.hid hK
              clear hK
              go_simp
              replace hx : Below w6.heap.size w6 (w6.alloc (.cells #[.int .i64 0, .slice none 0 0] 128)).drew := ((Below.refl _ w6).alloc (Nat.le_refl _) (.cells #[.int .i64 0, .slice none 0 0] 128)).drew
              have OQ := Lib.hid (alloc_new w6 (.cells #[.int .i64 0, .slice none 0 0] 128))
              go_wp2_with fail
              refine HK.out _ _ ⟨(HT.out _ hx), ?_⟩
              clear HK
              try clear hHeld
              have hHeld := (HT.out _ hx)
              try simp only [Act.put, List.setIfInBounds_toArray, List.set_cons_zero, List.set_cons_succ]
              refine wpAnyH_all (rs := [2]) (by kernel_rfl) (by simp) ?_
              intro ix hix
              obtain rfl : ix = 2 := by simpa using hix
              clear hix
              refine wpOp_step (o := ⟨some 47, _, _, _, _, _⟩) rfl (fun K hK => ?_)
              have HK := Lib.hid hK
              clear hK
              go_simp
              replace hx : Below w6.heap.size w6 (((w6.alloc (.cells #[.int .i64 0, .slice none 0 0] 128)).alloc (.cells #[] 64))).drew := (((Below.refl _ w6).alloc (Nat.le_refl _) (.cells #[.int .i64 0, .slice none 0 0] 128)).alloc (by simp) (.cells #[] 64)).drew
              have R0' := (RowAt.lit (w6.alloc (.cells #[.int .i64 0, .slice none 0 0] 128)) #[] 64 6 0 (Nat.zero_le _) rfl (by simp)).drew
              rw [World.size_alloc] at R0'
              have R0 := Lib.hid R0'
              clear R0'
              have F0 := Lib.hid (fresh_new (Nat.le_succ w6.heap.size))
              have OQ := Lib.hid (alloc_obj (x := (.cells #[] 64)) (alloc_new w6 (.cells #[.int .i64 0, .slice none 0 0] 128)))
              go_wp2_with fail
              refine HK.out _ _ ⟨(HT.out _ hx), ?_⟩
              clear HK
              try clear hHeld
              have hHeld := (HT.out _ hx)
              try simp only [Act.put, List.setIfInBounds_toArray, List.set_cons_zero, List.set_cons_succ]
              refine wpAnyH_all (rs := [5]) (by kernel_rfl) (by simp) ?_
              intro ix hix
              obtain rfl : ix = 5 := by simpa using hix
              clear hix
              refine wpOp_step (o := ⟨some 50, _, _, _, _, _⟩) rfl (fun K hK => ?_)
              have HK := Lib.hid hK
              clear hK
              refine step_append_row rfl (.tmp 47) (.tmp 49) 40 rfl 64 (.agg #[.int .i64 0, .int .i64 0, .int .i64 0, .int .i64 0, .int .i64 0, .int .i64 0]) 6 48 Try.underlying40 Try.infoEv rfl (by decide) rfl rfl R0.out (Hev.out.all (Hb11.out.trans (hx.mono Hb11.out.size))) (by unfold maxLen; omega) (by omega) ?_
              intro a2 c2 w8 hrow hupd hloc hnil
              simp only [Nat.zero_add, List.nil_append] at hrow ⊢
              have R4 := Lib.hid hrow
              have R4x := Lib.hid hrow
              have F4 := Lib.hid (F0.out.step hx.size hloc)
              have hnb : ¬ blk (some (⟨w6.heap.size + 1, 0, none⟩ : Addr)) w6.heap.size := fun ⟨ad, he, hq⟩ => by obtain rfl := Option.some.inj he; simp at hq
              have OQ := Lib.hid (hupd.obj OQ.out hnb)
              have hne : ¬ blk a2 w6.heap.size := fun ⟨ad, he, hq⟩ => by rcases hloc ad he with h1 | h1; (obtain rfl := Option.some.inj h1; simp at hq); (have := obj_lt OQ.out; simp at h1; omega)
              replace hx := hx.trans (appendBelow F0.out hx.size hupd)
              clear hrow hupd hloc hnil
              refine HK.out _ _ ⟨(HT.out _ hx), ?_⟩
              clear HK
              try clear hHeld
              have hHeld := (HT.out _ hx)
              try simp only [Act.put, List.setIfInBounds_toArray, List.set_cons_zero, List.set_cons_succ]
              refine wpAnyH_take (i := 6) (oi := ⟨some 51, _, _, _, _, _⟩) (v := ?_) rfl (by kernel_rfl) (by kernel_rfl) (by kernel_rfl) (fun _ _ _ h => h) (Or.inl ⟨by rfl, ?_⟩) hHeld ?_
              rotate_left
              · intro w' hS'
                (try dsimp only at hS')
                go_simp
                try with_reducible rfl
              try simp only [Act.put, List.setIfInBounds_toArray, List.set_cons_zero, List.set_cons_succ]
              refine wpAnyH_all (rs := [8]) (by kernel_rfl) (by simp) ?_
              intro ix hix
              obtain rfl : ix = 8 := by simpa using hix
              clear hix
              refine wpOp_step (o := ⟨none, _, _, _, _, _⟩) rfl (fun K hK => ?_)
              have HK := Lib.hid hK
              clear hK
              refine step_store_whole rfl 128 (.tmp 12) (.tmp 51) rfl w6.heap.size rfl 128 #[.int .i64 0, .slice none 0 0] #[.int .i64 p.n, .slice a2 pn c2] rfl OQ.out Try.sizePt rfl (by simp [Value.oneCell']) ?_
              intro w9 hobj hupd
              have O7 := Lib.hid hobj
              have R7 := Lib.hid (R4.out.upd hupd (fun ad he hq => hne ⟨ad, he, hq⟩))
              have hq1 : w6.heap.size ≤ w6.heap.size := by first | exact hz4 | omega
              replace hx := hx.trans (hupd.below hx.size (fun k hk hq => by change _ = _ at hq; omega))
              clear hobj hupd hne
              refine HK.out _ _ ⟨(HT.out _ hx), ?_⟩
              clear HK
              try clear hHeld
              have hHeld := (HT.out _ hx)
              try simp only [Act.put, List.setIfInBounds_toArray, List.set_cons_zero, List.set_cons_succ]
              refine wpAnyH_done (by kernel_rfl) ?_ _
              clear hHeld
              go_wp2_with fail
              go_meet
              have h6z := Hb11.out.size
              exact ⟨_, a2, c2, rfl, O7.out, R7.out, F4.out.mono h6z, by omega, Hb11.out.trans (hx.mono h6z)⟩
          case rest =>
            obtain ⟨b12, a4, c4, rfl, ho12, hr12, hf12, hb12, hbx⟩ := hcut
            have hbw2 := HBW.out.trans (hbx.mono HBW.out.size)
            have y0 := obj_cell ho12 0
            have y1 := obj_cell ho12 1
            have fy := obj_free ho12 1
            have ob7 := below_obj hbw2 Ob.out (obj_lt Ob.out)
            have qb := obj_cell ob7 0
            simp at y0 y1 qb
            have h4n : ¬ blk a4 b12 := fun ⟨ad, he, hq⟩ => by
              obtain ⟨_, cur, hg, _⟩ := hr12.row ad he
              rw [hq, ho12] at hg
              cases hg
            have H4n := Lib.hid h4n
            have HO := Lib.hid ho12
            have HR := Lib.hid hr12
            have HF := Lib.hid hf12
            have HX := Lib.hid hbx
            have hwn : IntKind.i64.wrap ((n : Int) - 1) = (n : Int) - 1 := by simp [IntKind.wrap, IntKind.signed, IntKind.bits]; omega
            clear z0 z1 O11 Hb11 ho12 hr12 hf12 hbx hbw2 ob7 h4n d0 d1 Hev
            by_cases hjn : j + 1 = n
            · have hjb : ((j : Int) == (n : Int) - 1) = true := by simp; omega
              have Hjn := Lib.hid hjn
              clear hjn
              have HS := Lib.hid (Hs.out.all (HBW.out.trans (HX.out.mono HBW.out.size)))
              go_upto_region 17 with (at_builtin; refine wp_append rfl (.tmp 59) (.tmp 60) 40 rfl 64 (.agg #[.int .i64 0, .int .i64 0, .int .i64 0, .int .i64 0, .int .i64 0, .int .i64 0]) 6 48 Try.underlying40 Try.infoEv rfl (by decide) rfl rfl HR.out HS.out (by unfold maxLen; omega) (by omega) ?_; intro a7 c7 w7 hrow hupd hloc hnil; have o7 := hupd.obj HO.out H4n.out; have y0' := obj_cell o7 0; have y1' := obj_cell o7 1; have fy' := obj_free o7 1; simp at y0' y1'; have HR7 := Lib.hid hrow; have HU7 := Lib.hid hupd; have HO7 := Lib.hid o7; have HF7 := Lib.hid (HF.out.step HX.out.size hloc); clear o7 hrow hupd hloc hnil)
              have ha7 : ∀ ad, a7 = some ad → ad.block ≠ b12 := fun ad he hq => by
                obtain ⟨_, cur, hg, _⟩ := HR7.out.row ad he
                rw [hq, HO7.out] at hg
                cases hg
              have hb7 : Below wr.heap.size wr w7 := HX.out.trans (appendBelow HF.out HX.out.size HU7.out)
              have X8 := Lib.hid (hb7.setCell (p := ⟨b12, 1, none⟩) hb12 (.slice a7 (pn + k) c7))
              have o8 := obj_set HO7.out 1 (.slice a7 (pn + k) c7)
              simp at o8
              have R8 := Lib.hid (HR7.out.setCell ⟨b12, 1, none⟩ ha7 (.slice a7 (pn + k) c7))
              have HP := Lib.hid (show (rs2 ++ [(⟨p.n, p.l ++ l, a7, c7⟩ : Pr)]).map prP = qs.take (j + 1) by
                have h1 := addL_get l (rs.map prP) j (prP p) (by rw [List.getElem?_map, Hpp.out]; rfl)
                rw [if_pos (by rw [List.length_map, Hrl.out]; exact Hjn.out), ← Hqs.out] at h1
                obtain ⟨hk2, h2⟩ := List.getElem?_eq_some_iff.1 h1
                rw [List.take_succ_eq_append_getElem hk2, h2, List.map_append, Hm2.out]
                rfl)
              have HL := Lib.hid (show (p.l ++ l).length = pn + k by rw [List.length_append, ← Hpn.out, Hl.out])
              generalize (w7.setCell ⟨b12, 1, none⟩ (.slice a7 (pn + k) c7)) = w8 at *
              have HR8 := Lib.hid (show RowAt w8 64 6 a7 (pn + k) c7 (evs (p.l ++ l)) by rw [show evs (p.l ++ l) = evs p.l ++ evs l by simp [evs]]; exact R8.out)
              clear R8
              have yy0 := obj_cell o8 0
              have yy1 := obj_cell o8 1
              simp at yy0 yy1
              have G8 := Lib.hid (HG.out.all X8.out)
              have g0 := obj_cell G8.out.obj 0
              simp at g0
              have Lit := Lib.hid (RowAt.lit w8 #[.int .i64 p.n, .slice a7 (pn + k) c7] 128 2 1 (by decide) rfl (by simp [Value.oneCell'])).sl
              have GA := Lib.hid (G8.out.all ((Below.refl _ w8).alloc (Nat.le_refl _) (.cells #[.int .i64 p.n, .slice a7 (pn + k) c7] 128)))
              go_wp2_with (at_builtin; refine wp_append rfl (.tmp 64) (.tmp 66) 54 rfl 128 (.agg #[.int .i64 0, .slice none 0 0]) 2 32 Try.underlying54 Try.infoPart rfl (by decide) rfl rfl GA.out.row Lit.out (by unfold maxLen; omega) (by omega) ?_; intro a10 c10 w10 hrow hupd hloc hnil; have o10 := hupd.obj GA.out.obj (fun ⟨ad, he, hq⟩ => GA.out.off.1 ad he hq); have k10 := obj_cell o10 0; have f10 := obj_free o10 0; simp at k10; have HN := Lib.hid (HG.out.snoc (p := ⟨p.n, p.l ++ l, a7, c7⟩) X8.out (by rw [HL.out]; exact HR8.out) (HF7.out.mono hwz) (by rw [show prC (⟨p.n, p.l ++ l, a7, c7⟩ : Pr) = [.int .i64 p.n, .slice a7 (pn + k) c7] by simp only [prC, HL.out]]; exact hrow) hupd hloc); clear o10 hrow hupd hloc hnil)
              go_roundw
              case rel => exact ⟨j + 1, by omega, by go_num, _, a10, c10, HP.out, HN.out⟩
              case measure => simp [intOf]; omega
            · have hjb : ((j : Int) == (n : Int) - 1) = false := by simp; omega
              have Hjn := Lib.hid hjn
              clear hjn
              have HP := Lib.hid (show (rs2 ++ [(⟨p.n, p.l, a4, c4⟩ : Pr)]).map prP = qs.take (j + 1) by
                have h1 := addL_get l (rs.map prP) j (prP p) (by rw [List.getElem?_map, Hpp.out]; rfl)
                rw [if_neg (by rw [List.length_map, Hrl.out]; exact Hjn.out), ← Hqs.out] at h1
                obtain ⟨hk2, h2⟩ := List.getElem?_eq_some_iff.1 h1
                rw [List.take_succ_eq_append_getElem hk2, h2, List.map_append, Hm2.out]
                rfl)
              have HL := Lib.hid Hpn.out.symm
              have yy0 := obj_cell HO.out 0
              have yy1 := obj_cell HO.out 1
              simp at yy0 yy1
              have G8 := Lib.hid (HG.out.all HX.out)
              have g0 := obj_cell G8.out.obj 0
              simp at g0
              have Lit := Lib.hid (RowAt.lit wc #[.int .i64 p.n, .slice a4 pn c4] 128 2 1 (by decide) rfl (by simp [Value.oneCell'])).sl
              have GA := Lib.hid (G8.out.all ((Below.refl _ wc).alloc (Nat.le_refl _) (.cells #[.int .i64 p.n, .slice a4 pn c4] 128)))
              go_wp2_with (at_builtin; refine wp_append rfl (.tmp 64) (.tmp 66) 54 rfl 128 (.agg #[.int .i64 0, .slice none 0 0]) 2 32 Try.underlying54 Try.infoPart rfl (by decide) rfl rfl GA.out.row Lit.out (by unfold maxLen; omega) (by omega) ?_; intro a10 c10 w10 hrow hupd hloc hnil; have o10 := hupd.obj GA.out.obj (fun ⟨ad, he, hq⟩ => GA.out.off.1 ad he hq); have k10 := obj_cell o10 0; have f10 := obj_free o10 0; simp at k10; have HN := Lib.hid (HG.out.snoc (p := ⟨p.n, p.l, a4, c4⟩) HX.out (by rw [HL.out]; exact HR.out) (HF.out.mono hwz) (by rw [show prC (⟨p.n, p.l, a4, c4⟩ : Pr) = [.int .i64 p.n, .slice a4 pn c4] by simp only [prC, HL.out]]; exact hrow) hupd hloc); clear o10 hrow hupd hloc hnil)
              go_roundw
              case rel => exact ⟨j + 1, by omega, by go_num, _, a10, c10, HP.out, HN.out⟩
              case measure => simp [intOf]; omega
        · obtain rfl : j = n := by omega
          have hm3 : rs2.map prP = qs := by rw [Hm2.out, List.take_of_length_le (by rw [Hql.out]; exact Nat.le_refl _)]
          have Hm3 := Lib.hid hm3
          have g0 := obj_cell HG.out.obj 0
          have g1 := obj_cell HG.out.obj 1
          have oz7 := below_obj HBW.out Oz.out (obj_lt Oz.out)
          have k0 := obj_cell oz7 0
          have k1 := obj_cell oz7 1
          have f0 := obj_free oz7 0
          have f1 := obj_free oz7 1
          simp at g0 g1 k0 k1
          have Oz7 := Lib.hid oz7
          clear hm3 oz7
          go_wp2_with fail
          have o7 := obj_set Oz7.out 0 (.slice ao j co)
          have o8 := obj_set o7 1 (.int .i64 last)
          simp at o8
          refine bodyPost_ret (results_cell_slot rfl _ _ _ _ _ _ _ rfl o8 Try.underlying56 rfl Try.sizeRJ) rfl ?_
          rw [Hcl.out, Hall.out]
          have h3z : w.heap.size + 2 ≤ w3.heap.size := by have := B3.out.size; have := Hz.out; omega
          refine add_rfin (M2 := fun k => w.heap.size + 2 ≤ k ∧ k < wr.heap.size) hM (B0.out.trans (HBW.out.mono B0.out.size)) Hm3.out Hql.out.symm ⟨HG.out.row.sl, fun p hp => (HG.out.ev p hp).sl, fun p hp ad he => ⟨Nat.le_trans h3z (HG.out.frE p hp ad he), (HG.out.ev p hp).lt ad he⟩, fun ad he => ⟨Nat.le_trans h3z (HG.out.fr ad he), HG.out.row.lt ad he⟩⟩ (fun k hk => .inr hk) _ _
end Go.Proofs.Ytpbocficffbcbaa
namespace Go.Proofs.Ytpbocficffbcbaa
open Go Go.RowKit
set_option linter.unusedVariables false

set_option maxHeartbeats 400000 in
theorem cloneMks (w : World) (a : Option Addr) (n cap : Nat) (xs : List Value) (hx : SlAt w 2 a n cap xs) (hb : n * 16 ≤ 140737488355328) :
    Calls Try.prog 89 #[.slice a n cap] w (NewRow w 124 2 n (a = none) xs) := by
  have q : ∀ (w : World) (a : Option Addr) (n c n' c' : Nat), (binOp .eql 120 (.slice a n c) (.slice none n' c')).run Try.prog w = .ok (.bool a.isNone) w := fun w a n c n' c' => Lib.run_eql_slice_nil w _ _ a n c n' c' Try.underlying120
  rcases hx.form with ⟨rfl, rfl, rfl, rfl⟩ | ⟨ad, rfl⟩
  · go_enter Try.func89, Try.ntmps89
    go_wp2_with fail
    go_ret
    exact ⟨none, 0, rfl, RowAt.null _ _ _, (fun ad he => by cases he), Below.refl _ _, by simp⟩
  · go_enter Try.func89, Try.ntmps89
    go_wp2_with (at_builtin; refine wp_append rfl (.tmp 5) (.tmp 6) 120 rfl 124 (.agg #[.int .i64 0, .int .i64 0]) 2 16 Try.underlying120 Try.infoMk rfl (by decide) rfl rfl (RowAt.lit w #[] _ 2 0 (Nat.zero_le _) rfl (by simp)) (hx.alloc _) (by have := hx.le; have := hx.max; omega) (by omega) ?_; intro a' cap' w' hrow hupd hloc hnil; simp only [Nat.zero_add, List.nil_append] at hrow)
    go_ret
    refine ⟨a', cap', rfl, hrow, fun ad he => ?_, ?_, ?_⟩
    · rcases hloc ad he with h | h
      · obtain rfl := Option.some.inj h
        exact Nat.le_refl _
      · simp at h
        omega
    · exact ((Below.refl _ w).alloc (Nat.le_refl _) _).trans (hupd.below (by simp) (fun k hk => by rintro ⟨ad, he, rfl⟩; obtain rfl := Option.some.inj he; simp at hk))
    · rw [hnil]
      simp

theorem ev_lenJ {w : World} {bj : Nat} {es : List Ev} {ms : List Mk} {last : Int} {ea ma : Option Addr} {ec mc : Nat} (h : JAt w bj es ms last ea ec ma mc) : es.length ≤ maxLen ∧ ms.length ≤ maxLen :=
  ⟨Nat.le_trans h.ev.le h.ev.max, Nat.le_trans h.mkr.le h.mkr.max⟩

set_option maxRecDepth 100000 in
set_option maxHeartbeats 1600000 in
theorem jcopy (w : World) (bj : Nat) (es : List Ev) (ms : List Mk) (last : Int) (ea ma : Option Addr) (ec mc : Nat) (h : JAt w bj es ms last ea ec ma mc) (hes : es.length ≤ 65536) (hm : ms.length < 1000000) :
    Calls Try.prog 51 #[.pointer (some ⟨bj, 0, none⟩)] w (NewJ w es ms last) := by
  have hx : ∀ w', Below w.heap.size w w' → w'.cell? ⟨bj, 0, none⟩ = some (.slice ea es.length ec) ∧ w'.cell? ⟨bj, 1, none⟩ = some (.slice ma ms.length mc) ∧ w'.cell? ⟨bj, 2, none⟩ = some (.int .i64 last) := fun w' hb => by
    have h' := h.all hb
    have c0 := obj_cell h'.obj 0
    have c1 := obj_cell h'.obj 1
    have c2 := obj_cell h'.obj 2
    simp at c0 c1 c2
    exact ⟨c0, c1, c2⟩
  have Hx := Lib.hid hx
  have HJ := Lib.hid h
  have hx0 := hx w.drew (Below.refl _ _).drew
  clear hx h
  go_enter Try.func51, Try.ntmps51
  go_wp2_with fail
  go_region_held3 (fun x => x.cell? ⟨bj, 0, none⟩ = some (.slice ea es.length ec) ∧ x.cell? ⟨bj, 1, none⟩ = some (.slice ma ms.length mc) ∧ x.cell? ⟨bj, 2, none⟩ = some (.int .i64 last))
    (first | exact hx0 | exact hx1 | exact hx2 | exact Hx.out _ (B2.out.alloc B2.out.size _))
    (first
      | (go_at_call 88; refine (cloneEvs _ _ _ _ (evs es) HJ.out.ev.sl.drew (by omega)).mono ?_; rintro e w1 ⟨a1, c1, rfl, hr1, hf1, hb1, hn1⟩; have B1 := Lib.hid ((undrew hb1 : Below w.heap.size w w1)); have hx1 := Hx.out _ B1.out; have R1 := Lib.hid hr1; have F1 := Lib.hid hf1; clear hr1 hb1 hn1 hf1)
      | (go_at_call 89; refine (cloneMks _ _ _ _ (mks ms) (HJ.out.mkr.sl.all B1.out) (by omega)).mono ?_; rintro e w2 ⟨a2, c2, rfl, hr2, hf2, hb2, hn2⟩; have B2 := Lib.hid (B1.out.trans (hb2.mono B1.out.size) : Below w.heap.size w w2); have hx2 := Hx.out _ B2.out; have R2 := Lib.hid hr2; have F2 := Lib.hid hf2; have B12 := Lib.hid hb2; clear hr2 hn2 hf2 hb2))
  go_wp2_with fail
  go_ret
  have hz1 := B1.out.size
  have hz2 := B12.out.size
  refine ⟨_, a1, c1, a2, c2, rfl, ⟨alloc_new w2 _, (R1.out.all B12.out).alloc _, R2.out.alloc _⟩, ?_, B2.out.alloc B2.out.size _⟩
  rintro i (rfl | ⟨ad, he, rfl⟩ | ⟨ad, he, rfl⟩)
  · omega
  · exact F1.out ad he
  · have := F2.out ad he; omega
end Go.Proofs.Ytpbocficffbcbaa
namespace Go.Proofs.Ytpbocficffbcbaa
open Go Go.RowKit
set_option linter.unusedVariables false
set_option linter.unusedSimpArgs false

set_option maxRecDepth 100000 in
set_option maxHeartbeats 3200000 in
theorem isTrue (w : World) (bj : Nat) (es : List Ev) (ms : List Mk) (last : Int) (ea ma : Option Addr) (ec mc : Nat) (h : JAt w bj es ms last ea ec ma mc) (ok : JOk es ms last) (M : Nat → Prop) (pa : Option Addr) (pn pc : Nat) (rs : List Pr) (hp : PtAt w M pa pn pc rs)
    (jr : JR es ms (rs.map prP)) (hes : es.length ≤ 1000) (hms : ms.length ≤ 900) (hl0 : 0 ≤ last) (hl1 : last < 1000000000) (c : Int) :
    Calls Try.prog 52 #[.pointer (some ⟨bj, 0, none⟩), .agg #[.slice pa pn pc, .int .i64 last], .int .i64 c] w (fun e w' => e = .returned (.bool true) ∧ Below w.heap.size w w') := by
  have hpn : pn = ms.length + 1 := by rw [← hp.len, ← jr.mlen, List.length_map]
  have hlen : (ptEvs (rs.map prP)).length ≤ 1000 := by rw [← jr.es]; exact hes
  have hb0 := (Below.refl _ w).alloc (Nat.le_refl _) (.cells #[.slice pa pn pc, .int .i64 last] 56)
  have ob := alloc_new w (.cells #[.slice pa pn pc, .int .i64 last] 56)
  have HJ := Lib.hid (h.all hb0)
  have HP := Lib.hid (hp.all hb0)
  have HR := Lib.hid jr
  have Ok := Lib.hid ok
  have Hb0 := Lib.hid hb0
  have Ob := Lib.hid ob
  have Hpn := Lib.hid hpn
  have hwr : IntKind.i64.wrap (last + 1) = last + 1 := by simp [IntKind.wrap, IntKind.signed, IntKind.bits]; omega
  have h1n : 1 ≤ pn := by omega
  have hn1 : pn ≤ 1000 := by omega
  clear h hp jr ok hb0 ob hpn
  go_enter Try.func52, Try.ntmps52
  go_wp2_with fail
  generalize (w.alloc (.cells #[.slice pa pn pc, .int .i64 last] 56)) = w0 at *
  have HX := Lib.hid (fun (x : World) (hb : Below w0.heap.size w0 x) => (by
    have o := below_obj hb Ob.out (obj_lt Ob.out)
    exact ⟨obj_cell o 0, obj_cell o 1⟩ : x.cell? ⟨w.heap.size, 0, none⟩ = some (.slice pa pn pc) ∧ x.cell? ⟨w.heap.size, 1, none⟩ = some (.int .i64 last)))
  refine (refFind _ M _ _ _ rs HP.out last hn1 h1n c).mono ?_
  rintro e w1 ⟨rfl, hb1⟩
  have B1 := Lib.hid hb1
  clear hb1
  cases hpl : place ms c with
  | none =>
    rw [HR.out.findN hpl]
    have Hpl := Lib.hid hpl
    have Hlv := Lib.hid (show decide (0 ≤ placeI ms c) = false by rw [placeI_none hpl]; decide)
    clear hpl
    go_wp2_with fail
    refine (spanBad _ _ _ _ _ _ _ _ _ (HJ.out.all B1.out) Ok.out (by omega) c Hpl.out).mono ?_
    rintro e w2 ⟨rfl, hb2⟩
    have B2 := Lib.hid (B1.out.trans (hb2.mono B1.out.size))
    clear hb2
    go_upto_region 5 with (go_at_call 21; refine (isErr _ 16 16).mono ?_; rintro e w' ⟨rfl, rfl⟩)
    have hx0 := HX.out w2.drew (B2.out.drew)
    have Hb := Lib.hid (B2.out.drew)
    go_region_held3 (fun x => x.cell? ⟨w.heap.size, 0, none⟩ = some (.slice pa pn pc) ∧ x.cell? ⟨w.heap.size, 1, none⟩ = some (.int .i64 last))
      (first | exact hx0 | exact hx5 | exact hx6 | exact hx7 | exact hx8 | exact hx9 | exact hx10)
      (first
        | (go_at_call 38; refine (live _ _ _ _ _ _ _ _ _ (HJ.out.all Hb.out) Ok.out (by omega) c).mono ?_; rw [Hlv.out]; rintro e v5 ⟨rfl, hb⟩; have H5 := Lib.hid (Hb.out.trans (hb.mono Hb.out.size)); have hx5 := HX.out _ H5.out; clear hb)
        | (go_at_call 33; refine (jlen _ _ _ _ _ _ _ _ _ (HJ.out.all H5.out)).mono ?_; rintro e v6 ⟨rfl, rfl⟩; have hx6 := hx5)
        | (go_at_call 48; refine (refAll _ M _ _ _ rs (HP.out.all H5.out) last 0 (Nat.zero_le _) hn1 (by omega)).mono ?_; rw [List.drop_zero, ← HR.out.es]; rintro e v7 ⟨a7, c7, rfl, _, _, hb⟩; have H7 := Lib.hid (H5.out.trans (hb.mono H5.out.size)); have hx7 := HX.out _ H7.out; clear hb)
        | (go_at_call 40; refine (marksOk _ _ _ _ _ _ _ _ _ (HJ.out.all H7.out) (by omega)).mono ?_; rintro e v8 ⟨a8, c8, rfl, hr, _, hb⟩; have H8 := Lib.hid (H7.out.trans (hb.mono H7.out.size)); have hx8 := HX.out _ H8.out; have R8 := Lib.hid hr; clear hb hr)
        | (go_at_call 90; refine (refMarks _ M _ _ _ rs (HP.out.all H8.out) last hn1 h1n).mono ?_; rw [← HR.out.marks]; rintro e v9 ⟨a9, c9, rfl, hr, _, hb⟩; have H9 := Lib.hid (H8.out.trans (hb.mono H8.out.size)); have hx9 := HX.out _ H9.out; have R9 := Lib.hid hr; have R8b := Lib.hid (R8.out.all hb); clear hb hr)
        | (go_at_call 20; refine (ints _ _ _ _ _ _ _ _ _ R8b.out.sl R9.out.sl).mono ?_; rintro e v10 ⟨rfl, hq⟩; simp only [decide_true]; have H10 := Lib.hid (H9.out.trans ((hq.below _).mono H9.out.size)); have hx10 := HX.out _ H10.out; clear hq)
        | (go_at_call 39; refine (next _ _ _ _ _ _ _ _ _ (HJ.out.all H10.out) hl0 hl1).mono ?_; rintro e v11 ⟨rfl, rfl⟩))
    go_wp2_with fail
    go_ret
    exact ⟨rfl, Hb0.out.trans (H10.out.mono Hb0.out.size)⟩
  | some i =>
    rw [HR.out.findS hpl]
    obtain ⟨p, hqp, hpc, hmi, hdr, htk, hkl, hlt⟩ := HR.out.at_ hpl
    have Hpl := Lib.hid hpl
    have Hmi := Lib.hid hmi
    have Hdr := Lib.hid hdr
    have hin : i + 1 ≤ pn := by rw [List.length_map] at hlt; have := HP.out.len; omega
    have Hlv := Lib.hid (show decide (0 ≤ placeI ms c) = true by rw [placeI_some hpl]; simp)
    have h0i : (0 : Int) ≤ (i : Int) + 1 := by omega
    have h0d : decide ((i : Int) + 1 < 0) = false := by simp; omega
    clear hpl hqp hpc hmi hdr htk hlt
    go_wp2_with fail
    refine (spanOk _ _ _ _ _ _ _ _ _ (HJ.out.all B1.out) Ok.out (by omega) (by omega) c i _ _ Hpl.out Hmi.out hkl).mono ?_
    rw [Hdr.out]
    rintro e w2 ⟨sa, sc, rfl, hsr, hsf, hb2⟩
    have B2 := Lib.hid (B1.out.trans (hb2.mono B1.out.size))
    have hsub := ptEvs_sub (rs.map prP) (i + 1) rs.length
    rw [List.take_of_length_le (by simp)] at hsub
    obtain ⟨sl, hsl⟩ : ∃ sl, sl = ptEvs ((rs.map prP).drop (i + 1)) := ⟨_, rfl⟩
    rw [← hsl] at hsr hsub ⊢
    have Hsl := Lib.hid hsl
    have HS := Lib.hid hsr
    have hx2 := HX.out w2 B2.out
    obtain ⟨hx20, hx21⟩ := hx2
    clear hb2 hsf hsl hsr
    go_upto_region 5 with (first
      | (go_at_call 48; refine (refAll _ M _ _ _ rs (HP.out.all B2.out) last (i + 1) hin hn1 (by omega)).mono ?_; rw [← Hsl.out]; rintro e w3 ⟨a3, c3, rfl, hr3, hf3, hb3⟩; have B3 := Lib.hid (B2.out.trans (hb3.mono B2.out.size)); have R3 := Lib.hid hr3; have HS3 := Lib.hid (HS.out.all hb3); clear hr3 hf3 hb3)
      | (go_at_call 36; refine (events _ _ _ _ _ _ _ sl sl HS3.out.sl R3.out.sl).mono ?_; rintro e w4 ⟨rfl, hq4⟩; have B4 := Lib.hid (B3.out.trans ((hq4.below _).mono B3.out.size)); clear hq4; simp only [decide_true]))
    have hx0 := HX.out w4.drew (B4.out.drew)
    have Hb := Lib.hid (B4.out.drew)
    go_region_held3 (fun x => x.cell? ⟨w.heap.size, 0, none⟩ = some (.slice pa pn pc) ∧ x.cell? ⟨w.heap.size, 1, none⟩ = some (.int .i64 last))
      (first | exact hx0 | exact hx5 | exact hx6 | exact hx7 | exact hx8 | exact hx9 | exact hx10)
      (first
        | (go_at_call 38; refine (live _ _ _ _ _ _ _ _ _ (HJ.out.all Hb.out) Ok.out (by omega) c).mono ?_; rw [Hlv.out]; rintro e v5 ⟨rfl, hb⟩; have H5 := Lib.hid (Hb.out.trans (hb.mono Hb.out.size)); have hx5 := HX.out _ H5.out; clear hb)
        | (go_at_call 33; refine (jlen _ _ _ _ _ _ _ _ _ (HJ.out.all H5.out)).mono ?_; rintro e v6 ⟨rfl, rfl⟩; have hx6 := hx5)
        | (go_at_call 48; refine (refAll _ M _ _ _ rs (HP.out.all H5.out) last 0 (Nat.zero_le _) hn1 (by omega)).mono ?_; rw [List.drop_zero, ← HR.out.es]; rintro e v7 ⟨a7, c7, rfl, _, _, hb⟩; have H7 := Lib.hid (H5.out.trans (hb.mono H5.out.size)); have hx7 := HX.out _ H7.out; clear hb)
        | (go_at_call 40; refine (marksOk _ _ _ _ _ _ _ _ _ (HJ.out.all H7.out) (by omega)).mono ?_; rintro e v8 ⟨a8, c8, rfl, hr, _, hb⟩; have H8 := Lib.hid (H7.out.trans (hb.mono H7.out.size)); have hx8 := HX.out _ H8.out; have R8 := Lib.hid hr; clear hb hr)
        | (go_at_call 90; refine (refMarks _ M _ _ _ rs (HP.out.all H8.out) last hn1 h1n).mono ?_; rw [← HR.out.marks]; rintro e v9 ⟨a9, c9, rfl, hr, _, hb⟩; have H9 := Lib.hid (H8.out.trans (hb.mono H8.out.size)); have hx9 := HX.out _ H9.out; have R9 := Lib.hid hr; have R8b := Lib.hid (R8.out.all hb); clear hb hr)
        | (go_at_call 20; refine (ints _ _ _ _ _ _ _ _ _ R8b.out.sl R9.out.sl).mono ?_; rintro e v10 ⟨rfl, hq⟩; simp only [decide_true]; have H10 := Lib.hid (H9.out.trans ((hq.below _).mono H9.out.size)); have hx10 := HX.out _ H10.out; clear hq)
        | (go_at_call 39; refine (next _ _ _ _ _ _ _ _ _ (HJ.out.all H10.out) hl0 hl1).mono ?_; rintro e v11 ⟨rfl, rfl⟩))
    go_wp2_with fail
    go_ret
    exact ⟨rfl, Hb0.out.trans (H10.out.mono Hb0.out.size)⟩
end Go.Proofs.Ytpbocficffbcbaa
namespace Go.Proofs.Ytpbocficffbcbaa
open Go Go.RowKit
set_option linter.unusedVariables false

def ev00 : Ev := ⟨0, 0, 0, 0, 0, 0⟩
def ev01 : Ev := ⟨0, 1, 0, 0, 0, 0⟩
theorem ownJ_below {w w' w0 : World} {bj : Nat} {ea ma : Option Addr} (h : Upd (ownJ bj ea ma) w w') (ho : ∀ i, ownJ bj ea ma i → w0.heap.size ≤ i) (hz : w0.heap.size ≤ w.heap.size) : Below w0.heap.size w w' :=
  h.below hz (fun k hk hb => by have := ho k hb; omega)
theorem ownJ_step {w : World} {B bj : Nat} {ea ma ea' ma' : Option Addr} (ho : ∀ i, ownJ bj ea ma i → B ≤ i) (hz : B ≤ w.heap.size) (h1 : ∀ ad, ea' = some ad → ea = some ad ∨ w.heap.size ≤ ad.block) (h2 : ∀ ad, ma' = some ad → ma = some ad ∨ w.heap.size ≤ ad.block) :
    ∀ i, ownJ bj ea' ma' i → B ≤ i := by
  rintro i (rfl | ⟨ad, he, rfl⟩ | ⟨ad, he, rfl⟩)
  · exact ho _ (.inl rfl)
  · rcases h1 ad he with h | h
    · exact ho _ (.inr (.inl ⟨ad, h, rfl⟩))
    · omega
  · rcases h2 ad he with h | h
    · exact ho _ (.inr (.inr ⟨ad, h, rfl⟩))
    · omega

set_option maxRecDepth 100000 in
set_option maxHeartbeats 3200000 in
theorem aliveJ (w : World) : Calls Try.prog 30 #[] w (fun e w' => e = .returned (.bool true) ∧ Below w.heap.size w w') := by
  have q : ∀ w, (binOp .eql 64 (.agg #[.int .i64 5, .int .i64 1, .int .i64 0, .int .i64 0, .int .i64 0, .int .i64 0]) (.agg #[.int .i64 5, .int .i64 1, .int .i64 0, .int .i64 0, .int .i64 0, .int .i64 0])).run Try.prog w = .ok (.bool true) w :=
    fun w => (ev_eql w ⟨5, 1, 0, 0, 0, 0⟩ ⟨5, 1, 0, 0, 0, 0⟩).trans (by simp)
  go_enter Try.func30, Try.ntmps30
  go_wp2_with fail
  refine (jnew _).mono ?_
  rintro e w1 ⟨bj, ea, ec, ma, mc, rfl, hj1, ho1, hb1⟩
  go_wp2_with fail
  refine (show Calls Try.prog 34 _ w1 (JTo w1 bj ea ma [] [(1, 0)] 1 (.int .i64 1)) from mark _ _ _ _ _ _ _ _ _ hj1 (by decide) (by decide) (by decide)).mono ?_
  rintro e w2 ⟨ea2, ec2, ma2, mc2, rfl, hj2, hu2, hl2, hl2'⟩
  have ho2 := ownJ_step ho1 hb1.size hl2 hl2'
  have b2 := hb1.trans (ownJ_below hu2 ho1 hb1.size)
  have hlit := (RowAt.lit w2 #[.int .i64 0, .int .i64 0, .int .i64 0, .int .i64 0, .int .i64 0, .int .i64 0, .int .i64 0, .int .i64 1, .int .i64 0, .int .i64 0, .int .i64 0, .int .i64 0] 64 6 2 (by decide) rfl (by simp [Value.oneCell'])).sl
  go_wp2_with fail
  refine (show Calls Try.prog 32 _ _ (JTo _ bj ea2 ma2 [ev00, ev01] [(1, 0)] 1 (errV 32 0)) from add _ _ _ _ _ _ _ _ _ (hj2.alloc _) (by decide) _ _ _ [ev00, ev01] hlit (by decide)).mono ?_
  rintro e w3 ⟨ea3, ec3, ma3, mc3, rfl, hj3, hu3, hl3, hl3'⟩
  have hz2 := b2.size
  have ho3 := ownJ_step (B := w.heap.size) ho2 (by simp; omega) hl3 hl3'
  have b3 := (b2.alloc b2.size _).trans (ownJ_below hu3 ho2 (by simp; omega))
  have ez := errV_zero 32
  rw [ez]
  clear hlit ez
  go_wp2_with fail
  refine (show Calls Try.prog 34 _ w3 (JTo w3 bj ea3 ma3 [ev00, ev01] [(1, 0), (2, 2)] 2 (.int .i64 2)) from mark _ _ _ _ _ _ _ _ _ hj3 (by decide) (by decide) (by decide)).mono ?_
  rintro e w4 ⟨ea4, ec4, ma4, mc4, rfl, hj4, hu4, hl4, hl4'⟩
  have ho4 := ownJ_step (B := w.heap.size) ho3 b3.size hl4 hl4'
  have b4 := b3.trans (ownJ_below hu4 ho3 b3.size)
  have ok4 : JOk [ev00, ev01] [(1, 0), (2, 2)] 2 := jok_mark (last := 1) (jok_add (es := []) (jok_mark jok_nil))
  go_wp2_with fail
  refine (show Calls Try.prog 35 _ w4 (JRet w4 bj ea4 ma4 [] [(1, 0)] 2 [⟨5, 1, 0, 0, 0, 0⟩, ⟨5, 0, 0, 0, 0, 0⟩]) from backOk _ _ _ _ _ _ _ _ _ hj4 ok4 (by decide) (by decide) 1 0 1 0 rfl rfl).mono ?_
  rintro e w5 ⟨ea5, ec5, ma5, mc5, a5, c5, rfl, hj5, hr5, hf5, hu5, hl5, hl5', hno5⟩
  have ho5 := ownJ_step (B := w.heap.size) ho4 b4.size hl5 hl5'
  have b5 := b4.trans (ownJ_below hu5 ho4 b4.size)
  have ok5 : JOk [] [(1, 0)] 2 := jok_cut (i := 0) (n := 1) (k := 0) ok4 rfl
  obtain ⟨b, off, x, hax, hx, hbb, ⟨xk, xa, xb, xc, xd, xe⟩⟩ := ev_at hr5.sl (show 0 < 2 by decide)
  subst hax
  obtain rfl : (⟨5, 1, 0, 0, 0, 0⟩ : Ev) = x := Option.some.inj hx
  simp only [Nat.zero_mul, Nat.add_zero] at xk xa xb xc xd xe
  clear hx hr5
  go_wp2_with fail
  refine (show Calls Try.prog 38 _ w5 (fun e w' => e = .returned (.bool false) ∧ Below w5.heap.size w5 w') from live _ _ _ _ _ _ _ _ _ hj5 ok5 (by decide) 2).mono ?_
  rintro e w6 ⟨rfl, hb6⟩
  have hj6 := hj5.all hb6
  go_wp2_with fail
  refine (show Calls Try.prog 38 _ w6 (fun e w' => e = .returned (.bool true) ∧ Below w6.heap.size w6 w') from live _ _ _ _ _ _ _ _ _ hj6 ok5 (by decide) 1).mono ?_
  rintro e w7 ⟨rfl, hb7⟩
  have hj7 := hj6.all hb7
  have b7 := (b5.trans (hb6.mono b5.size)).trans (hb7.mono (by have := hb6.size; have := b5.size; omega))
  go_wp2_with fail
  refine (show Calls Try.prog 34 _ w7 (JTo w7 bj ea5 ma5 [] [(1, 0), (3, 0)] 3 (.int .i64 3)) from mark _ _ _ _ _ _ _ _ _ hj7 (by decide) (by decide) (by decide)).mono ?_
  rintro e w8 ⟨ea8, ec8, ma8, mc8, rfl, hj8, hu8, hl8, hl8'⟩
  have b8 := b7.trans (ownJ_below hu8 ho5 b7.size)
  go_wp2_with fail
  go_ret
  exact ⟨rfl, b8⟩
end Go.Proofs.Ytpbocficffbcbaa
namespace Go.Proofs.Ytpbocficffbcbaa
open Go Go.RowKit Go.ChangeShapes Go.WideShapes

def I64 (z : Int) : Prop := -9223372036854775808 ≤ z ∧ z ≤ 9223372036854775807

/-- A reading of type t says that its k cells are ints. -/
def IntCells (P : Program) (t : TypeId) (k : Nat) : Prop :=
  ∀ (H : Type) (enc : TypeId × Value → H) (w : World) (base : Nat) (spare : Nat → Bool) (held : Bool) (fuel : Nat) (cs : List Value) (x : DataW H × List MemPlace),
    DataW.trod enc P w base spare held fuel t cs = some x → ∃ zs : List Int, cs = zs.map (Value.int .i64) ∧ zs.length = k ∧ ∀ z ∈ zs, I64 z

theorem intCells_int {P : Program} {t : TypeId} (ht : P.underlying t = some (.int .i64)) : IntCells P t 1 := by
  intro H enc w base spare held fuel cs x h
  obtain ⟨n, rfl, _, hw⟩ := DataW.trod_int ht h
  exact ⟨[n], rfl, rfl, by simpa [I64] using bounds_i64 hw⟩

theorem list_chunks {k : Nat} (hk : 0 < k) : ∀ (n : Nat) (cs : List Value), cs.length = n * k → (∀ i, i < n → ∃ zs : List Int, (cs.drop (i * k)).take k = zs.map (Value.int .i64) ∧ zs.length = k ∧ ∀ z ∈ zs, I64 z) →
    ∃ zs : List Int, cs = zs.map (Value.int .i64) ∧ zs.length = n * k ∧ ∀ z ∈ zs, I64 z
  | 0, cs, hl, _ => ⟨[], by simpa using hl, by simp, by simp⟩
  | n + 1, cs, hl, h => by
    obtain ⟨z0, e0, l0, b0⟩ := h 0 (by omega)
    obtain ⟨zs, e1, l1, b1⟩ := list_chunks hk n (cs.drop k) (by rw [List.length_drop, hl, Nat.add_mul]; omega) (fun i hi => by
      obtain ⟨z, e, l, b⟩ := h (i + 1) (by omega)
      refine ⟨z, ?_, l, b⟩
      rw [List.drop_drop, ← e, show k + i * k = (i + 1) * k by rw [Nat.add_mul]; omega])
    refine ⟨z0 ++ zs, ?_, by rw [List.length_append, l0, l1, Nat.add_mul]; omega, fun z hz => (List.mem_append.1 hz).elim (b0 z) (b1 z)⟩
    rw [List.map_append, ← e0, ← e1]
    simp

theorem intCells_struct {P : Program} {t : TypeId} {fs : Array Field} (ht : P.underlying t = some (.struct fs)) (hc : P.cellsOf t = fs.size)
    (hf : ∀ (i : Nat) (f : Field), fs[i]? = some f → f.offset = i ∧ P.underlying f.type = some (.int .i64) ∧ P.cellsOf f.type = 1) : IntCells P t fs.size := by
  intro H enc w base spare held fuel cs x h
  obtain ⟨xs, n, _, _, hl, hxl, hx⟩ := DataW.trod_struct ht h
  obtain ⟨zs, e, l, b⟩ := list_chunks (k := 1) (by omega) fs.size cs (by rw [hl, hc]; omega) (fun i hi => by
    have hfi : fs[i]? = some fs[i] := Array.getElem?_eq_getElem hi
    obtain ⟨ho, hu, h1⟩ := hf i _ hfi
    have := hx i _ hfi
    rw [ho, h1, List.getElem?_eq_getElem (by omega)] at this
    obtain ⟨z, e, _, hw⟩ := DataW.trod_int hu this
    rw [Nat.mul_one]
    exact ⟨[z], e, rfl, by simpa [I64] using bounds_i64 hw⟩)
  exact ⟨zs, e, by simpa using l, b⟩

theorem intCells_array {P : Program} {t e : TypeId} {n k : Nat} (ht : P.underlying t = some (.array n e)) (hk : 0 < k) (he : IntCells P e k) (hce : P.cellsOf e = k) (hc : P.cellsOf t = n * k) : IntCells P t (n * k) := by
  intro H enc w base spare held fuel cs x h
  obtain ⟨xs, m, _, _, hl, hxl, hx⟩ := DataW.trod_array ht h
  refine list_chunks hk n cs (by rw [hl, hc]) (fun i hi => ?_)
  have := hx i hi
  rw [hce, List.getElem?_eq_getElem (by omega)] at this
  exact he _ _ _ _ _ _ _ _ _ this

/-- A slice whose elements are k ints each. -/
theorem open_rows {P : Program} {t e : TypeId} {k : Nat} (ht : P.underlying t = some (.slice e)) (hk : 0 < k) (hce : P.cellsOf e = k) (he : IntCells P e k) {H : Type} {enc : TypeId × Value → H} {w : World} {base : Nat} {spare : Nat → Bool} {held : Bool} {fuel : Nat} {cs : List Value} {x : DataW H × List MemPlace}
    (h : DataW.trod enc P w base spare held fuel t cs = some x) :
    ∃ a n cap zs, cs = [.slice a n cap] ∧ SlAt w k a n cap (List.map (Value.int .i64) zs) ∧ zs.length = n * k ∧ ∀ z ∈ zs, I64 z := by
  rcases DataW.trod_slice ht h with ⟨rfl, rfl⟩ | ⟨a, len, cap, elems, rest, n, _, rfl, rfl, hb, hl, hm, hlen, hel, _, _⟩
  · exact ⟨none, 0, 0, [], rfl, SlAt.null _ _, by simp, by simp⟩
  have each : ∀ i, i < len → ∃ zs : List Int, w.cells? base (a.add (i * k)) k = some (zs.map (Value.int .i64)) ∧ zs.length = k ∧ ∀ z ∈ zs, I64 z := by
    intro i hi
    have h1 := hel i hi
    rw [hce, List.getElem?_eq_getElem (by omega), Option.bind_eq_some_iff] at h1
    obtain ⟨cs', hcs, hy⟩ := h1
    obtain ⟨zs, rfl, hz, hb⟩ := he _ _ _ _ _ _ _ _ _ hy
    exact ⟨zs, hcs, hz, hb⟩
  have cell : ∀ j, j < len * k → ∃ z, w.cell? (a.add j) = some (.int .i64 z) ∧ I64 z := by
    intro j hj
    have hi : j / k < len := Nat.div_lt_of_lt_mul (by rwa [Nat.mul_comm])
    obtain ⟨zs, hcs, hz, hb⟩ := each _ hi
    have hr : j % k < k := Nat.mod_lt _ hk
    have := (World.cells?_some hcs).2.2 (j % k) hr
    rw [Deep.add_add, show j / k * k + j % k = j by rw [Nat.mul_comm]; exact Nat.div_add_mod j k, List.getElem?_map, List.getElem?_eq_getElem (by omega)] at this
    exact ⟨_, this, hb _ (List.getElem_mem _)⟩
  let zs := (List.range (len * k)).map fun j => match w.cell? (a.add j) with | some (.int .i64 z) => z | _ => 0
  have hzs : ∀ j, j < len * k → ∃ z, zs[j]? = some z ∧ w.cell? (a.add j) = some (.int .i64 z) ∧ I64 z := by
    intro j hj
    obtain ⟨z, hc, hi⟩ := cell j hj
    refine ⟨z, ?_, hc, hi⟩
    simp only [zs, List.getElem?_map, List.getElem?_range hj, Option.map_some, hc]
  have hzl : zs.length = len * k := by simp [zs]
  refine ⟨some a, len, cap, zs, rfl, ⟨by simpa using hzl, hl, hm, by simp, by simp [Value.oneCell'], fun ad he hn => ?_⟩, hzl, fun z hz => ?_⟩
  · obtain rfl := Option.some.inj he
    have hpos : 0 < len * k := Nat.mul_pos hn hk
    obtain ⟨z0, _, h0, _⟩ := hzs 0 hpos
    have hsp : a.spot = none := by
      cases hs : a.spot with
      | none => rfl
      | some s => simp [Addr.add, World.cell?, hs] at h0; split at h0 <;> simp at h0
    refine ⟨hsp, World.block_lt_of_cell? w (a.add 0) h0 |> (by simpa [block_add] using ·), fun j u hu => ?_⟩
    have hj : j < len * k := by
      have := (List.getElem?_eq_some_iff.1 hu).1
      simpa [hzl] using this
    obtain ⟨z, hz, hc, _⟩ := hzs j hj
    rw [List.getElem?_map, hz] at hu
    simp only [Option.map_some, Option.some.injEq] at hu
    subst hu
    obtain ⟨b, off, sp⟩ := a
    simp only at hsp
    subst hsp
    rwa [Addr.add_lit] at hc
  · obtain ⟨j, hj⟩ := List.getElem?_of_mem hz
    have hj' : j < len * k := by
      have := (List.getElem?_eq_some_iff.1 hj).1
      omega
    obtain ⟨z', hz', _, hi⟩ := hzs j hj'
    rw [hj] at hz'
    obtain rfl := Option.some.inj hz'
    exact hi
end Go.Proofs.Ytpbocficffbcbaa
namespace Go.Proofs.Ytpbocficffbcbaa
open Go Go.RowKit Go.ChangeShapes Go.WideShapes
set_option linter.unusedVariables false

theorem evCells : IntCells Try.prog 64 6 :=
  intCells_struct Try.underlying64 (by kernel_rfl) (fun i f hf => by
    match i, hf with
    | 0, hf | 1, hf | 2, hf | 3, hf | 4, hf | 5, hf => simp at hf; subst hf; exact ⟨rfl, Try.underlying3, by kernel_rfl⟩
    | n + 6, hf => simp at hf)
theorem evs_of : ∀ (n : Nat) (zs : List Int), zs.length = n * 6 → ∃ ls : List Ev, zs.map (Value.int .i64) = evs ls ∧ ls.length = n
  | 0, zs, h => ⟨[], by simpa using h, rfl⟩
  | n + 1, zs, h => by
    match zs, h with
    | a :: b :: c :: d :: e :: f :: zs, h =>
      obtain ⟨ls, e', l⟩ := evs_of n zs (by simp at h; omega)
      exact ⟨⟨a, b, c, d, e, f⟩ :: ls, by simp [e', evs, evC], by simp [l]⟩
    | [], h => simp at h
    | [_], h => simp at h; omega
    | [_, _], h => simp at h; omega
    | [_, _, _], h => simp at h; omega
    | [_, _, _, _], h => simp at h; omega
    | [_, _, _, _, _], h => simp at h; omega
set_option maxRecDepth 100000 in
/-- An event that came in. -/
theorem open_ev {H : Type} {enc : TypeId × Value → H} {w w' : World} {base base' : Nat} {spare : Nat → Bool} {held : Bool} {fuel : Nat} {v : Value} {x : DataW H × List MemPlace} {r : Reach}
    (hv : Value.okWide Try.prog w' r base' 64 v) (h : DataW.trod enc Try.prog w base spare held fuel 64 v.cells.toList = some x) : ∃ e : Ev, v = evV e := by
  obtain ⟨cs, rfl, hcs⟩ := okWide_struct Try.underlying64 hv
  obtain ⟨zs, hz, hl, _⟩ := evCells _ _ _ _ _ _ _ _ _ h
  obtain ⟨ls, he, hn⟩ := evs_of 1 zs (by simpa using hl)
  match ls, hn with
  | [e], _ =>
    refine ⟨e, ?_⟩
    have h1 : cs.toList = evC e := by rw [show cs.toList = (Value.agg cs).cells.toList from rfl, hz, he]; simp [evs]
    have : cs = evA e := by rw [← Array.toArray_toList (xs := cs), h1]; rfl
    rw [this]
end Go.Proofs.Ytpbocficffbcbaa
namespace Go.Proofs.Ytpbocficffbcbaa
open Go Go.RowKit Go.ChangeShapes Go.WideShapes
set_option linter.unusedVariables false

theorem objCells : IntCells Try.prog 108 18 :=
  intCells_array (n := 18) (k := 1) Try.underlying108 (by decide) (intCells_int Try.underlying3) (by kernel_rfl) (by kernel_rfl)
theorem playCells : IntCells Try.prog 76 18 :=
  intCells_array (n := 2) (k := 9) Try.underlying76 (by decide) (intCells_array (n := 9) (k := 1) Try.underlying75 (by decide) (intCells_int Try.underlying3) (by kernel_rfl) (by kernel_rfl)) (by kernel_rfl) (by kernel_rfl)
theorem gameCells : IntCells Try.prog 77 7 :=
  intCells_array (n := 7) (k := 1) Try.underlying77 (by decide) (intCells_int Try.underlying3) (by kernel_rfl) (by kernel_rfl)

theorem objs_of : ∀ (n : Nat) (zs : List Int), zs.length = n * 18 → ∃ ls : List (List Int), zs.map (Value.int .i64) = objs ls ∧ ls.length = n ∧ ∀ x ∈ ls, x.length = 18
  | 0, zs, h => ⟨[], by simpa using h, rfl, by simp⟩
  | n + 1, zs, h => by
    obtain ⟨ls, e, l, o⟩ := objs_of n (zs.drop 18) (by rw [List.length_drop, h]; omega)
    refine ⟨zs.take 18 :: ls, ?_, by simp [l], fun x hx => ?_⟩
    · show _ = objC (zs.take 18) ++ objs ls
      rw [← e, objC, ← List.map_append, List.take_append_drop]
    · rcases List.mem_cons.1 hx with rfl | h1
      · rw [List.length_take, h]
        omega
      · exact o x h1

theorem stC_of {w : World} {cs : Array Value} (hs : cs.size = 37) {a0 : Option Addr} {n0 c0 : Nat} {os : List (List Int)} (h0 : cs[0]? = some (.slice a0 n0 c0)) (s0 : SlAt w 18 a0 n0 c0 (objs os)) (ho : ∀ x ∈ os, x.length = 18) (hol : os.length = n0)
    (hl : ∀ i, i < 11 → ∃ a n c zs, cs[1 + i]? = some (.slice a n c) ∧ SlAt w 1 a n c (List.map (Value.int .i64) zs)) (ps : List Int) (hpl : ps.length = 25) (hp : ∀ j, j < 25 → cs[12 + j]? = some (.int .i64 (ps.getD j 0))) : ∃ s, StC w cs s ∧ StOk s := by
  have hl' : ∀ i, ∃ zs : List Int, i < 11 → ∃ a n c, cs[1 + i]? = some (.slice a n c) ∧ SlAt w 1 a n c (List.map (Value.int .i64) zs) := fun i => by
    by_cases h : i < 11
    · obtain ⟨a, n, c, zs, h1, h2⟩ := hl i h
      exact ⟨zs, fun _ => ⟨a, n, c, h1, h2⟩⟩
    · exact ⟨[], fun h1 => absurd h1 h⟩
  obtain ⟨f, hf⟩ := Classical.axiomOfChoice hl'
  refine ⟨⟨os, (List.range 11).map f, ps⟩, ⟨hs, fun i hi => ?_, hp⟩, ⟨ho, by simp, hpl⟩⟩
  match i, hi with
  | 0, _ =>
    subst hol
    exact ⟨a0, c0, h0, s0⟩
  | j + 1, hi =>
    obtain ⟨a, n, c, h1, h2⟩ := hf j (by omega)
    have hj : ((List.range 11).map f).getD j [] = f j := by simp [List.getD, List.getElem?_map, List.getElem?_range (show j < 11 by omega)]
    have hn : (f j).length = n := by simpa using h2.len
    refine ⟨a, c, ?_, ?_⟩
    · simp only [lenOf, Nat.add_sub_cancel, hj, hn]
      rw [if_neg (by omega), Nat.add_comm]
      exact h1
    · simp only [lenOf, rowOf, szOf, Nat.add_sub_cancel, hj, hn]
      rw [if_neg (by omega), if_neg (by omega), if_neg (by omega)]
      exact h2

theorem take1_get {α : Type} {l : List α} {o : Nat} {v : α} (h : (l.drop o).take 1 = [v]) : l[o]? = some v := by
  have : ((l.drop o).take 1)[0]? = some v := by rw [h]; rfl
  rw [List.getElem?_take, if_pos (by decide), List.getElem?_drop] at this
  exact this
theorem trod_field {H : Type} {enc : TypeId × Value → H} {P : Program} {w : World} {base : Nat} {spare : Nat → Bool} {held : Bool} {fuel : Nat} {t : TypeId} {cs : List Value} {x : DataW H × List MemPlace} {fs : Array Field}
    (ht : P.underlying t = some (.struct fs)) (h : DataW.trod enc P w base spare held fuel t cs = some x) (i : Nat) (f : Field) (hf : fs[i]? = some f) (o k : Nat) (ty : TypeId) (ho : f.offset = o) (hty : f.type = ty) (hk : P.cellsOf ty = k) :
    ∃ n y, DataW.trod enc P w base spare held n ty ((cs.drop o).take k) = some y := by
  obtain ⟨xs, n, _, _, hl, hxl, hx⟩ := DataW.trod_struct ht h
  have := hx i f hf
  subst hty ho hk
  rw [List.getElem?_eq_getElem (by have := (Array.getElem?_eq_some_iff.1 hf).1; omega)] at this
  exact ⟨n, _, this⟩

theorem ints_get {cs : List Value} {zs : List Int} {o k : Nat} (h : (cs.drop o).take k = zs.map (Value.int .i64)) (j : Nat) (hj : j < zs.length) : cs[o + j]? = some (.int .i64 (zs.getD j 0)) := by
  have h1 : ((cs.drop o).take k)[j]? = some (.int .i64 (zs.getD j 0)) := by rw [h]; simp [hj]
  rw [List.getElem?_take] at h1
  split at h1
  · rwa [List.getElem?_drop] at h1
  · cases h1

set_option maxRecDepth 100000 in
/-- A state that came in. -/
theorem open_state {H : Type} {enc : TypeId × Value → H} {w w' : World} {base base' : Nat} {spare : Nat → Bool} {held : Bool} {fuel : Nat} {v : Value} {x : DataW H × List MemPlace} {r : Reach}
    (hv : Value.okWide Try.prog w' r base' 79 v) (h : DataW.trod enc Try.prog w base spare held fuel 79 v.cells.toList = some x) : ∃ cs s, v = .agg cs ∧ StC w cs s ∧ StOk s := by
  obtain ⟨cs, rfl, hcs⟩ := okWide_struct Try.underlying79 hv
  have e0 : (Value.agg cs).cells.toList = cs.toList := rfl
  rw [e0] at h
  obtain ⟨n0, y0, g0⟩ := trod_field Try.underlying79 h 0 _ rfl 0 1 73 rfl rfl (by kernel_rfl)
  obtain ⟨n1, y1, g1⟩ := trod_field Try.underlying79 h 1 _ rfl 1 11 74 rfl rfl (by kernel_rfl)
  obtain ⟨n2, y2, g2⟩ := trod_field Try.underlying79 h 2 _ rfl 12 18 76 rfl rfl (by kernel_rfl)
  obtain ⟨n3, y3, g3⟩ := trod_field Try.underlying79 h 3 _ rfl 30 7 77 rfl rfl (by kernel_rfl)
  have hsz : cs.size = 37 := by
    obtain ⟨xs, n, _, _, hl, _, _⟩ := DataW.trod_struct Try.underlying79 h
    rw [show Try.prog.cellsOf 79 = 37 by kernel_rfl] at hl
    simpa using hl
  obtain ⟨a, n, c, zs, hc0, hs0, hl0, _⟩ := open_rows Try.underlying73 (by decide) (by kernel_rfl) objCells g0
  obtain ⟨os, ho, hol, ho18⟩ := objs_of n zs hl0
  rw [ho] at hs0
  obtain ⟨ps, hp, hpl, _⟩ := playCells _ _ _ _ _ _ _ _ _ g2
  obtain ⟨gs, hg, hgl, _⟩ := gameCells _ _ _ _ _ _ _ _ _ g3
  obtain ⟨xs, m, _, _, hla, hxl, hx⟩ := DataW.trod_array Try.underlying74 g1
  refine ⟨cs, ?_⟩
  obtain ⟨s, h1, h2⟩ := stC_of (w := w) hsz (by have := take1_get hc0; rwa [Array.getElem?_toList] at this) hs0 ho18 hol (fun i hi => by
      have h1 := hx i hi
      rw [show Try.prog.cellsOf 22 = 1 by kernel_rfl, List.getElem?_eq_getElem (by omega)] at h1
      obtain ⟨a, n, c, zs, hc, hs, _⟩ := open_rows Try.underlying22 (by decide) (by kernel_rfl) (intCells_int Try.underlying3) h1
      refine ⟨a, n, c, zs, ?_, hs⟩
      have := take1_get hc
      rw [Nat.mul_one, List.getElem?_take, if_pos hi, List.getElem?_drop, Array.getElem?_toList] at this
      exact this) (ps ++ gs) (by simp [hpl, hgl]) (fun j hj => by
      by_cases h18 : j < 18
      · have := ints_get hp j (by omega)
        rw [Array.getElem?_toList] at this
        rw [this]
        simp [List.getD, List.getElem?_append_left (show j < ps.length by omega)]
      · have := ints_get hg (j - 18) (by omega)
        rw [Array.getElem?_toList, show 30 + (j - 18) = 12 + j by omega] at this
        rw [this]
        simp [List.getD, List.getElem?_append_right (show ps.length ≤ j by omega), hpl])
  exact ⟨s, rfl, h1, h2⟩
end Go.Proofs.Ytpbocficffbcbaa
namespace Go.Proofs.Ytpbocficffbcbaa
open Go Go.RowKit Go.ChangeShapes Go.WideShapes
set_option linter.unusedVariables false

/-- A slice whose elements have k cells each, which are those of something. -/
theorem open_rows_of {α : Type} [Inhabited α] {P : Program} {t e : TypeId} {k : Nat} (ht : P.underlying t = some (.slice e)) (hk : 0 < k) (hce : P.cellsOf e = k) {H : Type} {enc : TypeId × Value → H} {w : World} {base : Nat} {spare : Nat → Bool} {held : Bool} (f : α → List Value) (R : α → Prop)
    (hf : ∀ p, (f p).length = k) (hh : ∀ p, ∃ z, (f p)[0]? = some (Value.int .i64 z)) (h1 : ∀ p, ∀ u ∈ f p, u.oneCell' = true) (he : ∀ (n : Nat) (cs : List Value) (y : DataW H × List MemPlace), DataW.trod enc P w base spare held n e cs = some y → ∃ p, cs = f p ∧ R p)
    {fuel : Nat} {cs : List Value} {x : DataW H × List MemPlace} (h : DataW.trod enc P w base spare held fuel t cs = some x) :
    ∃ a n cap rs, cs = [.slice a n cap] ∧ SlAt w k a n cap (List.flatMap f rs) ∧ rs.length = n ∧ ∀ p ∈ rs, R p := by
  rcases DataW.trod_slice ht h with ⟨rfl, rfl⟩ | ⟨a, len, cap, elems, rest, n, _, rfl, rfl, hb, hl, hm, hlen, hel, _, _⟩
  · exact ⟨none, 0, 0, [], rfl, SlAt.null _ _, by simp, by simp⟩
  have each : ∀ i, ∃ p : α, i < len → w.cells? base (a.add (i * k)) k = some (f p) ∧ R p := by
    intro i
    by_cases hi : i < len
    · have h1 := hel i hi
      rw [hce, List.getElem?_eq_getElem (by omega), Option.bind_eq_some_iff] at h1
      obtain ⟨cs', hcs, hy⟩ := h1
      obtain ⟨p, rfl, hp⟩ := he _ _ _ hy
      exact ⟨p, fun _ => ⟨hcs, hp⟩⟩
    · exact ⟨default, fun h => absurd h hi⟩
  obtain ⟨g, hg⟩ := Classical.axiomOfChoice each
  have hrl : ((List.range len).map g).length = len := by simp
  have hcl : (List.flatMap f ((List.range len).map g)).length = len * k := by rw [cells_len f k hf, hrl]
  have cell : ∀ j, j < len * k → ∃ u, (List.flatMap f ((List.range len).map g))[j]? = some u ∧ w.cell? (a.add j) = some u := by
    intro j hj
    have hi : j / k < len := Nat.div_lt_of_lt_mul (by rwa [Nat.mul_comm])
    have hr : j % k < k := Nat.mod_lt _ hk
    have hc := cells_at f k hf ((List.range len).map g) (j / k) (j % k) default (by rw [hrl]; exact hi) hr
    have hgd : ((List.range len).map g).getD (j / k) default = g (j / k) := by simp [List.getD, hi]
    rw [hgd, show j / k * k + j % k = j by rw [Nat.mul_comm]; exact Nat.div_add_mod j k, List.getElem?_eq_getElem (show j % k < (f (g (j / k))).length by rw [hf]; exact hr)] at hc
    have := (World.cells?_some (hg _ hi).1).2.2 (j % k) hr
    rw [Deep.add_add, show j / k * k + j % k = j by rw [Nat.mul_comm]; exact Nat.div_add_mod j k, List.getElem?_eq_getElem (show j % k < (f (g (j / k))).length by rw [hf]; exact hr)] at this
    exact ⟨_, hc, this⟩
  refine ⟨some a, len, cap, (List.range len).map g, rfl, ⟨hcl, hl, hm, by simp, one_flat f h1 _, fun ad hea hn => ?_⟩, hrl, fun p hp => ?_⟩
  · obtain rfl := Option.some.inj hea
    have hpos : 0 < len * k := Nat.mul_pos hn hk
    obtain ⟨u0, _, h0⟩ := cell 0 hpos
    have hsp : a.spot = none := by
      cases hs : a.spot with
      | none => rfl
      | some s =>
        have h2 := (World.cells?_some (hg 0 hn).1).2.2 0 hk
        obtain ⟨z, hz⟩ := hh (g 0)
        rw [hz, Deep.add_add] at h2
        simp [Addr.add, World.cell?, hs] at h2
        split at h2 <;> simp at h2
    refine ⟨hsp, World.block_lt_of_cell? w (a.add 0) h0 |> (by simpa [block_add] using ·), fun j u hu => ?_⟩
    have hj : j < len * k := by
      have := (List.getElem?_eq_some_iff.1 hu).1
      omega
    obtain ⟨u', hu', hc⟩ := cell j hj
    rw [hu'] at hu
    obtain rfl := Option.some.inj hu
    obtain ⟨b, off, sp⟩ := a
    simp only at hsp
    subst hsp
    rwa [Addr.add_lit] at hc
  · obtain ⟨i, hi, rfl⟩ := List.mem_map.1 hp
    exact (hg i (by simpa using hi)).2

/-- An act: its kind, its number, its events (where they lie). -/
structure Ac where
  k : Int
  c : Int
  l : List Ev
  a : Option Addr
  cp : Nat
instance : Inhabited Ac := ⟨⟨0, 0, [], none, 0⟩⟩
def acC (p : Ac) : List Value := [.int .i64 p.k, .int .i64 p.c, .slice p.a p.l.length p.cp]
abbrev acs (rs : List Ac) : List Value := rs.flatMap acC

set_option maxRecDepth 100000 in
theorem open_acts {H : Type} {enc : TypeId × Value → H} {w : World} {base : Nat} {spare : Nat → Bool} {held : Bool} {fuel : Nat} {cs : List Value} {x : DataW H × List MemPlace}
    (h : DataW.trod enc Try.prog w base spare held fuel 52 cs = some x) :
    ∃ a n cap rs, cs = [.slice a n cap] ∧ SlAt w 3 a n cap (acs rs) ∧ rs.length = n ∧ ∀ p ∈ rs, SlAt w 6 p.a p.l.length p.cp (evs p.l) := by
  refine open_rows_of Try.underlying52 (by decide) (by kernel_rfl) acC (fun p => SlAt w 6 p.a p.l.length p.cp (evs p.l)) (fun _ => rfl) (fun p => ⟨p.k, rfl⟩) (fun p u hu => by simp [acC] at hu; rcases hu with rfl | rfl | rfl <;> rfl) (fun n cs y h => ?_) h
  have hl : cs.length = 3 := by
    obtain ⟨xs, n, _, _, hl, _, _⟩ := DataW.trod_struct Try.underlying59 h
    rw [show Try.prog.cellsOf 59 = 3 by kernel_rfl] at hl
    exact hl
  obtain ⟨n0, y0, g0⟩ := trod_field Try.underlying59 h 0 _ rfl 0 1 3 rfl rfl (by kernel_rfl)
  obtain ⟨n1, y1, g1⟩ := trod_field Try.underlying59 h 1 _ rfl 1 1 3 rfl rfl (by kernel_rfl)
  obtain ⟨n2, y2, g2⟩ := trod_field Try.underlying59 h 2 _ rfl 2 1 40 rfl rfl (by kernel_rfl)
  obtain ⟨a0, e0, _, _⟩ := DataW.trod_int Try.underlying3 g0
  obtain ⟨a1, e1, _, _⟩ := DataW.trod_int Try.underlying3 g1
  obtain ⟨a, n, c, zs, e2, hs, hz, _⟩ := open_rows Try.underlying40 (by decide) (by kernel_rfl) evCells g2
  obtain ⟨ls, he, hn⟩ := evs_of n zs hz
  match cs, hl with
  | [u0, u1, u2], _ =>
    simp at e0 e1 e2
    subst e0 e1 e2 hn
    exact ⟨⟨a0, a1, ls, a, c⟩, rfl, he ▸ hs⟩
end Go.Proofs.Ytpbocficffbcbaa
namespace Go.Proofs.Ytpbocficffbcbaa
open Go Go.RowKit
set_option linter.unusedVariables false
set_option linter.unusedSimpArgs false

/-- A journal: where it lies, what it holds. -/
structure JI where
  bj : Nat
  es : List Ev
  ms : List Mk
  last : Int
  ea : Option Addr
  ma : Option Addr
  ec : Nat
  mc : Nat
abbrev JI.at_ (g : JI) (w : World) : Prop := JAt w g.bj g.es g.ms g.last g.ea g.ec g.ma g.mc
abbrev JI.own (g : JI) (k : Nat) : Prop := ownJ g.bj g.ea g.ma k
def oldV : Option JI → Value
  | none => .pointer none
  | some o => .pointer (some ⟨o.bj, 0, none⟩)

/-- The journal, the other one, the document's: apart. -/
structure J14 (w0 wr : World) (g : JI) (old : Option JI) (mb : Nat) (mv : Array Value) (M : Nat → Prop) (pa : Option Addr) (pn pc : Nat) (rs : List Pr) : Prop where
  jat : g.at_ wr
  oat : ∀ o, old = some o → o.at_ wr
  mat : wr.heap[mb]? = some (.cells mv 56 (0, 0))
  pat : PtAt wr M pa pn pc rs
  jB : ∀ k, g.own k → w0.heap.size ≤ k
  oB : ∀ o, old = some o → ∀ k, o.own k → w0.heap.size ≤ k ∧ ¬ g.own k ∧ ¬ M k ∧ k ≠ mb
  mB : w0.heap.size ≤ mb ∧ ¬ g.own mb ∧ ¬ M mb
  MB : ∀ k, M k → k < wr.heap.size ∧ w0.heap.size ≤ k ∧ ¬ g.own k
  bel : Below w0.heap.size w0 wr
theorem J14.upd {S : Nat → Prop} {w0 wr w' : World} {g : JI} {old : Option JI} {mb : Nat} {mv : Array Value} {M : Nat → Prop} {pa : Option Addr} {pn pc : Nat} {rs : List Pr} (h : J14 w0 wr g old mb mv M pa pn pc rs) (k : Upd S wr w')
    (h1 : ∀ i, g.own i → ¬ S i) (h2 : ∀ o, old = some o → ∀ i, o.own i → ¬ S i) (h3 : ¬ S mb) (h4 : ∀ i, M i → ¬ S i) (h5 : ∀ i, S i → w0.heap.size ≤ i) : J14 w0 w' g old mb mv M pa pn pc rs :=
  ⟨h.jat.upd k h1, fun o ho => (h.oat o ho).upd k (h2 o ho), k.obj h.mat h3, h.pat.upd k h4, h.jB, h.oB, h.mB, fun i hi => ⟨Nat.lt_of_lt_of_le (h.MB i hi).1 k.size, (h.MB i hi).2⟩, h.bel.trans (k.below h.bel.size (fun i hi hs => by have := h5 i hs; omega))⟩
theorem J14.below {w0 wr w' : World} {g : JI} {old : Option JI} {mb : Nat} {mv : Array Value} {M : Nat → Prop} {pa : Option Addr} {pn pc : Nat} {rs : List Pr} (h : J14 w0 wr g old mb mv M pa pn pc rs) (k : Below wr.heap.size wr w') : J14 w0 w' g old mb mv M pa pn pc rs :=
  h.upd (Upd.of_below k (S := fun _ => False)) (fun _ _ f => f) (fun _ _ _ _ f => f) id (fun _ _ f => f) (fun _ f => f.elim)
theorem J14.lts {w0 wr : World} {g : JI} {old : Option JI} {mb : Nat} {mv : Array Value} {M : Nat → Prop} {pa : Option Addr} {pn pc : Nat} {rs : List Pr} (h : J14 w0 wr g old mb mv M pa pn pc rs) :
    (∀ k, g.own k → k < wr.heap.size) ∧ (∀ o, old = some o → ∀ k, o.own k → k < wr.heap.size) ∧ mb < wr.heap.size ∧ (∀ k, M k → k < wr.heap.size) :=
  ⟨fun k hk => h.jat.lt hk, fun o ho k hk => (h.oat o ho).lt hk, obj_lt h.mat, fun k hk => (h.MB k hk).1⟩
/-- What lies behind its end touches nothing of it. -/
theorem J14.new {w0 wr w' : World} {g : JI} {old : Option JI} {mb : Nat} {mv : Array Value} {M : Nat → Prop} {pa : Option Addr} {pn pc : Nat} {rs : List Pr} (h : J14 w0 wr g old mb mv M pa pn pc rs) {wq : World} (hq : J14 w0 wq g old mb mv M pa pn pc rs) {S : Nat → Prop} (k : Upd S wq w') (hS : ∀ i, S i → wr.heap.size ≤ i) : J14 w0 w' g old mb mv M pa pn pc rs := by
  obtain ⟨l1, l2, l3, l4⟩ := h.lts
  have hz := h.bel.size
  exact hq.upd k (fun i hi hs => by have := hS i hs; have := l1 i hi; omega) (fun o ho i hi hs => by have := hS i hs; have := l2 o ho i hi; omega) (fun hs => by have := hS mb hs; omega) (fun i hi hs => by have := hS i hs; have := l4 i hi; omega) (fun i hs => by have := hS i hs; omega)
theorem J14.jto {w0 wr w' : World} {g : JI} {old : Option JI} {mb : Nat} {mv : Array Value} {M : Nat → Prop} {pa : Option Addr} {pn pc : Nat} {rs : List Pr} (h : J14 w0 wr g old mb mv M pa pn pc rs) {es' : List Ev} {ms' : List Mk} {last' : Int} {v : Value} {e : Ending} (t : JTo wr g.bj g.ea g.ma es' ms' last' v e w') :
    ∃ g' : JI, e = .returned v ∧ g'.bj = g.bj ∧ g'.es = es' ∧ g'.ms = ms' ∧ g'.last = last' ∧ J14 w0 w' g' old mb mv M pa pn pc rs ∧ Upd g.own wr w' ∧ ∀ i, g'.own i → g.own i ∨ wr.heap.size ≤ i := by
  obtain ⟨ea', ec', ma', mc', rfl, hj, hu, k1, k2⟩ := t
  obtain ⟨l1, l2, l3, l4⟩ := h.lts
  have hz := h.bel.size
  have own' : ∀ i, ownJ g.bj ea' ma' i → g.own i ∨ wr.heap.size ≤ i := by
    rintro i (rfl | ⟨ad, he, rfl⟩ | ⟨ad, he, rfl⟩)
    · exact .inl (.inl rfl)
    · exact (k1 ad he).imp (fun h => .inr (.inl ⟨ad, h, rfl⟩)) id
    · exact (k2 ad he).imp (fun h => .inr (.inr ⟨ad, h, rfl⟩)) id
  refine ⟨⟨g.bj, es', ms', last', ea', ma', ec', mc'⟩, rfl, rfl, rfl, rfl, rfl, ⟨hj, fun o ho => (h.oat o ho).upd hu (fun i hi => (h.oB o ho i hi).2.1), hu.obj h.mat h.mB.2.1, h.pat.upd hu (fun i hi => (h.MB i hi).2.2), fun i hi => ?_, fun o ho i hi => ?_, ⟨h.mB.1, fun hi => ?_, h.mB.2.2⟩, fun i hi => ⟨Nat.lt_of_lt_of_le (h.MB i hi).1 hu.size, (h.MB i hi).2.1, fun hq => ?_⟩, h.bel.trans (hu.below hz (fun i hi ho => by have := h.jB i ho; omega))⟩, hu, own'⟩
  · rcases own' i hi with h1 | h1
    · exact h.jB i h1
    · omega
  · obtain ⟨a1, a2, a3, a4⟩ := h.oB o ho i hi
    refine ⟨a1, fun hq => ?_, a3, a4⟩
    rcases own' i hq with h1 | h1
    · exact a2 h1
    · have := l2 o ho i hi; omega
  · rcases own' mb hi with h1 | h1
    · exact h.mB.2.1 h1
    · omega
  · rcases own' i hq with h1 | h1
    · exact (h.MB i hi).2.2 h1
    · have := l4 i hi; omega
theorem J14.jret {w0 wr w' : World} {g : JI} {old : Option JI} {mb : Nat} {mv : Array Value} {M : Nat → Prop} {pa : Option Addr} {pn pc : Nat} {rs : List Pr} (h : J14 w0 wr g old mb mv M pa pn pc rs) {es' : List Ev} {ms' : List Mk} {last' : Int} {l : List Ev} {e : Ending} (t : JRet wr g.bj g.ea g.ma es' ms' last' l e w') :
    ∃ (g' : JI) (a : Option Addr) (c : Nat), e = .returned (.tuple #[.slice a l.length c, .nilIface]) ∧ g'.bj = g.bj ∧ g'.es = es' ∧ g'.ms = ms' ∧ g'.last = last' ∧ J14 w0 w' g' old mb mv M pa pn pc rs ∧ Upd g.own wr w' ∧ RowAt w' 64 6 a l.length c (evs l) := by
  obtain ⟨ea', ec', ma', mc', a, c, rfl, hj, hr, hf, hu, k1, k2, hno⟩ := t
  obtain ⟨g', _, h1, h2, h3, h4, h5, h6, _⟩ := h.jto (⟨ea', ec', ma', mc', rfl, hj, hu, k1, k2⟩ : JTo wr g.bj g.ea g.ma es' ms' last' (.tuple #[]) _ w')
  exact ⟨g', a, c, rfl, h1, h2, h3, h4, h5, h6, hr⟩
theorem J14.oto {w0 wr w' : World} {g o : JI} {mb : Nat} {mv : Array Value} {M : Nat → Prop} {pa : Option Addr} {pn pc : Nat} {rs : List Pr} (h : J14 w0 wr g (some o) mb mv M pa pn pc rs) {es' : List Ev} {ms' : List Mk} {last' : Int} {v : Value} {e : Ending} (t : JTo wr o.bj o.ea o.ma es' ms' last' v e w') :
    ∃ o' : JI, e = .returned v ∧ o'.bj = o.bj ∧ o'.es = es' ∧ o'.ms = ms' ∧ o'.last = last' ∧ J14 w0 w' g (some o') mb mv M pa pn pc rs ∧ Upd o.own wr w' ∧ ∀ i, o'.own i → o.own i ∨ wr.heap.size ≤ i := by
  obtain ⟨ea', ec', ma', mc', rfl, hj, hu, k1, k2⟩ := t
  obtain ⟨l1, l2, l3, l4⟩ := h.lts
  have hz := h.bel.size
  have ob := h.oB o rfl
  have own' : ∀ i, ownJ o.bj ea' ma' i → o.own i ∨ wr.heap.size ≤ i := by
    rintro i (rfl | ⟨ad, he, rfl⟩ | ⟨ad, he, rfl⟩)
    · exact .inl (.inl rfl)
    · exact (k1 ad he).imp (fun h => .inr (.inl ⟨ad, h, rfl⟩)) id
    · exact (k2 ad he).imp (fun h => .inr (.inr ⟨ad, h, rfl⟩)) id
  refine ⟨⟨o.bj, es', ms', last', ea', ma', ec', mc'⟩, rfl, rfl, rfl, rfl, rfl, ⟨h.jat.upd hu (fun i hi hq => (ob i hq).2.1 hi), fun q hq => by obtain rfl := Option.some.inj hq; exact hj, hu.obj h.mat (fun hq => (ob mb hq).2.2.2 rfl), h.pat.upd hu (fun i hi hq => (ob i hq).2.2.1 hi), h.jB, fun q hq i hi => ?_, h.mB, fun i hi => ⟨Nat.lt_of_lt_of_le (h.MB i hi).1 hu.size, (h.MB i hi).2⟩, h.bel.trans (hu.below hz (fun i hi ho => by have := (ob i ho).1; omega))⟩, hu, own'⟩
  obtain rfl := Option.some.inj hq
  rcases own' i hi with h1 | h1
  · exact ob i h1
  · exact ⟨by omega, fun hq => by have := l1 i hq; omega, fun hq => by have := l4 i hq; omega, fun hq => by omega⟩
theorem J14.parts {w0 w1 w2 : World} {g : JI} {old : Option JI} {mb : Nat} {mv : Array Value} {M : Nat → Prop} {pa pa' : Option Addr} {pn pc pn' pc' : Nat} {rs rs' : List Pr} (h : J14 w0 w1 g old mb mv M pa pn pc rs) (hb : Below w1.heap.size w1 w2) (hp : PtAt w2 (fun k => M k ∨ (w1.heap.size ≤ k ∧ k < w2.heap.size)) pa' pn' pc' rs') :
    J14 w0 w2 g old mb mv (fun k => M k ∨ (w1.heap.size ≤ k ∧ k < w2.heap.size)) pa' pn' pc' rs' := by
  obtain ⟨l1, l2, l3, l4⟩ := h.lts
  have h2 := h.below hb
  have hz := h.bel.size
  refine ⟨h2.jat, h2.oat, h2.mat, hp, h.jB, fun o ho i hi => ?_, ⟨h.mB.1, h.mB.2.1, fun hq => ?_⟩, fun i hi => ?_, h2.bel⟩
  · obtain ⟨a1, a2, a3, a4⟩ := h.oB o ho i hi
    exact ⟨a1, a2, fun hq => hq.elim a3 (fun hq => by have := l2 o ho i hi; omega), a4⟩
  · rcases hq with hq | hq
    · exact h.mB.2.2 hq
    · omega
  · rcases hi with hi | hi
    · exact h2.MB i hi
    · exact ⟨hi.2, by omega, fun hq => by have := l1 i hq; omega⟩
theorem J14.mset {w0 wr : World} {g : JI} {old : Option JI} {mb : Nat} {x y : Value} {M : Nat → Prop} {pa : Option Addr} {pn pc : Nat} {rs : List Pr} (h : J14 w0 wr g old mb #[x, y] M pa pn pc rs) (u v : Value) : J14 w0 ((wr.setCell ⟨mb, 0, none⟩ u).setCell ⟨mb, 1, none⟩ v) g old mb #[u, v] M pa pn pc rs := by
  have hu : Upd (fun k => k = mb) wr ((wr.setCell ⟨mb, 0, none⟩ u).setCell ⟨mb, 1, none⟩ v) := ((Upd.refl (fun k => k = mb) wr).setCell ⟨mb, 0, none⟩ (fun _ => rfl) u).setCell ⟨mb, 1, none⟩ (fun _ => rfl) v
  have o2 := obj_set (obj_set h.mat 0 u) 1 v
  simp at o2
  exact ⟨h.jat.upd hu (fun i hi hq => h.mB.2.1 (hq ▸ hi)), fun o ho => (h.oat o ho).upd hu (fun i hi hq => (h.oB o ho i hi).2.2.2 hq), o2, h.pat.upd hu (fun i hi hq => h.mB.2.2 (hq ▸ hi)), h.jB, h.oB, h.mB, fun i hi => ⟨Nat.lt_of_lt_of_le (h.MB i hi).1 hu.size, (h.MB i hi).2⟩, h.bel.trans (hu.below h.bel.size (fun i hi hq => by have := h.mB.1; omega))⟩
theorem J14.copy {w0 wr w' : World} {g : JI} {old : Option JI} {mb : Nat} {mv : Array Value} {M : Nat → Prop} {pa : Option Addr} {pn pc : Nat} {rs : List Pr} (h : J14 w0 wr g old mb mv M pa pn pc rs) {e : Ending} (t : NewJ wr g.es g.ms g.last e w') :
    ∃ g' : JI, e = .returned (.pointer (some ⟨g'.bj, 0, none⟩)) ∧ g'.es = g.es ∧ g'.ms = g.ms ∧ g'.last = g.last ∧ J14 w0 w' g' (some g) mb mv M pa pn pc rs ∧ Below wr.heap.size wr w' := by
  obtain ⟨bj, ea, ec, ma, mc, rfl, hj, ho, hb⟩ := t
  obtain ⟨l1, l2, l3, l4⟩ := h.lts
  have h2 := h.below hb
  have hz := h.bel.size
  refine ⟨⟨bj, g.es, g.ms, g.last, ea, ma, ec, mc⟩, rfl, rfl, rfl, rfl, ⟨hj, fun o hq => by obtain rfl := Option.some.inj hq; exact h2.jat, h2.mat, h2.pat, fun i hi => by have := ho i hi; omega, fun o hq i hi => ?_, ⟨h.mB.1, fun hi => by have := ho mb hi; omega, h.mB.2.2⟩, fun i hi => ⟨(h2.MB i hi).1, (h2.MB i hi).2.1, fun hq => by have := ho i hq; have := l4 i hi; omega⟩, h2.bel⟩, hb⟩
  obtain rfl := Option.some.inj hq
  exact ⟨h.jB i hi, fun hq => by have := ho i hq; have := l1 i hi; omega, fun hq => (h.MB i hq).2.2 hi, fun hq => h.mB.2.1 (hq ▸ hi)⟩

/-- Between two acts. -/
structure S14 (w0 wr : World) (g : JI) (old : Option JI) (mb : Nat) (M : Nat → Prop) (pa : Option Addr) (pn pc : Nat) (rs : List Pr) (k : Nat) : Prop where
  m : J14 w0 wr g old mb #[.slice pa pn pc, .int .i64 g.last] M pa pn pc rs
  jr : JR g.es g.ms (rs.map prP)
  ok : JOk g.es g.ms g.last
  el : g.es.length ≤ 20 * k
  ml : g.ms.length ≤ k
  ll : g.last ≤ k
  old : ∀ o, old = some o → o.es.length ≤ 21 * k ∧ o.ms.length ≤ 2 * k ∧ 0 ≤ o.last ∧ o.last ≤ 2 * k
theorem S14.next {w0 wr : World} {g : JI} {old : Option JI} {mb : Nat} {M : Nat → Prop} {pa : Option Addr} {pn pc : Nat} {rs : List Pr} {k : Nat} (h : S14 w0 wr g old mb M pa pn pc rs k) : S14 w0 wr g old mb M pa pn pc rs (k + 1) :=
  ⟨h.m, h.jr, h.ok, by have := h.el; omega, by have := h.ml; omega, by have := h.ll; omega, fun o ho => by have := h.old o ho; omega⟩
theorem S14.below {w0 wr w' : World} {g : JI} {old : Option JI} {mb : Nat} {M : Nat → Prop} {pa : Option Addr} {pn pc : Nat} {rs : List Pr} {k : Nat} (h : S14 w0 wr g old mb M pa pn pc rs k) (b : Below wr.heap.size wr w') : S14 w0 w' g old mb M pa pn pc rs k :=
  ⟨h.m.below b, h.jr, h.ok, h.el, h.ml, h.ll, h.old⟩
theorem S14.plen {w0 wr : World} {g : JI} {old : Option JI} {mb : Nat} {M : Nat → Prop} {pa : Option Addr} {pn pc : Nat} {rs : List Pr} {k : Nat} (h : S14 w0 wr g old mb M pa pn pc rs k) : pn = g.ms.length + 1 ∧ (ptEvs (rs.map prP)).length = g.es.length := by
  refine ⟨by rw [← h.m.pat.len, ← h.jr.mlen, List.length_map], by rw [← h.jr.es]⟩
theorem JR.len {es : List Ev} {ms : List Mk} {qs : List Pt} (h : JR es ms qs) : qs.length = ms.length + 1 := h.mlen

def LongTo (w : World) (rs : List Ac) (e : Ending) (w' : World) : Prop := ∃ b : Bool, e = .returned (.bool b) ∧ (b = false → rs.length ≤ 41 ∧ ∀ p ∈ rs, p.l.length ≤ 20) ∧ Below w.heap.size w w'
set_option maxRecDepth 100000 in
set_option maxHeartbeats 800000 in
theorem long14 (w : World) (a : Option Addr) (n cap : Nat) (rs : List Ac) (h : SlAt w 3 a n cap (acs rs)) :
    Calls Try.prog 41 #[.slice a n cap] w (LongTo w rs) := by
  have hl : rs.length = n := by
    have := h.len
    rw [cells_len acC 3 (fun _ => rfl)] at this
    omega
  have Hl := Lib.hid hl
  have hle := h.le
  have hmx := h.max
  unfold maxLen at hmx
  clear hl
  go_enter Try.func41, Try.ntmps41
  go_wp2_with fail
  go_loopw [7] (fun i wr => ∃ k : Nat, k ≤ n ∧ i = .int .i64 k ∧ k ≤ 41 ∧ (∀ p ∈ rs.take k, p.l.length ≤ 20) ∧ Below w.heap.size w wr) (fun i _ => n - (intOf i).toNat)
  case atStart => exact ⟨0, Nat.zero_le _, rfl, by omega, by simp, Below.refl _ _⟩
  case round =>
    obtain ⟨k, hk, rfl, hk41, hsm, hbel⟩ := hrel
    have HB := Lib.hid hbel
    have hbz := hbel.size
    by_cases hlt : k < n
    · obtain ⟨b, off, rfl, hb, hc⟩ := (h.all hbel).nonempty (by omega)
      have hk' : k < rs.length := by have := Hl.out; omega
      have key := fun j hj => cells_at acC 3 (fun _ => rfl) rs k j (rs[k]) hk' hj
      have e : rs.getD k rs[k] = rs[k] := by simp [List.getD, List.getElem?_eq_getElem hk']
      rw [e] at key
      obtain ⟨p, hp⟩ : ∃ p, p = rs[k] := ⟨_, rfl⟩
      rw [← hp] at key
      have d0 : wr.cell? ⟨b, off + k * 3, none⟩ = _ := hc (k * 3) (.int .i64 p.k) (by rw [show k * 3 = k * 3 + 0 from rfl, key 0 (by decide)]; rfl)
      have d1 : wr.cell? ⟨b, off + k * 3 + 1, none⟩ = _ := hc (k * 3 + 1) (.int .i64 p.c) (by rw [key 1 (by decide)]; rfl)
      have d2 : wr.cell? ⟨b, off + k * 3 + 2, none⟩ = _ := hc (k * 3 + 2) (.slice p.a p.l.length p.cp) (by rw [key 2 (by decide)]; rfl)
      have Hp := Lib.hid hp
      have Hsm := Lib.hid hsm
      obtain ⟨pl, hpl⟩ : ∃ pl, pl = p.l.length := ⟨_, rfl⟩
      rw [← hpl] at d2
      have Hpl := Lib.hid hpl
      clear hc key e hp hsm hpl hbel
      by_cases hk40 : (40 : Int) < (k : Int)
      · go_wp2_with fail
        go_ret
        exact ⟨true, rfl, by simp, HB.out.alloc hbz _⟩
      · by_cases hl20 : (20 : Int) < (pl : Int)
        · go_wp2_with fail
          go_ret
          exact ⟨true, rfl, by simp, HB.out.alloc hbz _⟩
        · have Hk := Lib.hid (show k + 1 ≤ 41 by omega)
          have Hs2 := Lib.hid (show ∀ p ∈ rs.take (k + 1), p.l.length ≤ 20 by
            rw [List.take_succ_eq_append_getElem hk']
            intro q hq
            rcases List.mem_append.1 hq with hq | hq
            · exact Hsm.out q hq
            · simp at hq
              subst hq
              rw [← Hp.out, ← Hpl.out]
              omega)
          go_wp2_with fail
          go_roundw
          case rel => exact ⟨k + 1, by omega, by go_num, Hk.out, Hs2.out, HB.out.alloc hbz _⟩
          case measure => simp [intOf]; omega
    · obtain rfl : k = n := by omega
      have Hsm := Lib.hid hsm
      clear hsm hbel
      go_wp2_with fail
      go_ret
      refine ⟨false, rfl, fun _ => ⟨by rw [Hl.out]; exact hk41, ?_⟩, HB.out⟩
      have := Hsm.out
      rwa [List.take_of_length_le (by rw [Hl.out]; exact Nat.le_refl _)] at this
end Go.Proofs.Ytpbocficffbcbaa
namespace Go.Proofs.Ytpbocficffbcbaa
open Go Go.RowKit
set_option linter.unusedVariables false
set_option linter.unusedSimpArgs false

def Loop14 (w : World) (mb n : Nat) (vj vo vi : Value) (wr : World) : Prop :=
  ∃ (k : Nat) (g : JI) (old : Option JI) (M : Nat → Prop) (pa : Option Addr) (pn pc : Nat) (ps : List Pr), k ≤ n ∧ vi = .int .i64 k ∧ vj = .pointer (some ⟨g.bj, 0, none⟩) ∧ vo = oldV old ∧ S14 w wr g old mb M pa pn pc ps k

def Mid14 (w : World) (mb ab k : Nat) (ao : Obj) (vj vo : Value) (wx : World) : Prop :=
  ∃ (g : JI) (old : Option JI) (M : Nat → Prop) (pa : Option Addr) (pn pc : Nat) (ps : List Pr), vj = .pointer (some ⟨g.bj, 0, none⟩) ∧ vo = oldV old ∧ S14 w wx g old mb M pa pn pc ps (k + 1) ∧ wx.heap[ab]? = some ao ∧ ∀ o, old = some o → o.es.length ≤ 21 * k ∧ o.ms.length ≤ 2 * k ∧ 0 ≤ o.last ∧ o.last ≤ 2 * k ∧ ¬ o.own ab
theorem add_err {es l : List Ev} (hs : es.length + l.length ≤ 65536) : addErr es l = chks l ∧ addNext es l = (if chks l = 0 then es ++ l else es) := by
  have h1 : addErr es l = chks l := by
    unfold addErr
    by_cases h : chks l = 0
    · rw [if_pos h, if_neg (by omega), h]
    · rw [if_neg h]
  exact ⟨h1, by unfold addNext; rw [h1]⟩
def addE (z : Int) (es l : List Ev) : List Ev := if z = 0 then es ++ l else es
theorem addE_len (z : Int) (es l : List Ev) : (addE z es l).length ≤ es.length + l.length := by
  unfold addE
  split
  · simp
  · omega
theorem addE_ok {z : Int} {es l : List Ev} {ms : List Mk} {last : Int} (h : JOk es ms last) : JOk (addE z es l) ms last := by
  unfold addE
  split
  · exact jok_add h
  · exact h
theorem addE_jr {z : Int} {es l : List Ev} {ms : List Mk} {qs : List Pt} (hz : z = chks l) (h : JR es ms qs) : JR (addE z es l) ms (addQ l qs) := by
  unfold addE addQ
  rw [← hz]
  split
  · exact h.add l
  · exact h
theorem add_err2 {z : Int} {es l : List Ev} (hz : z = chks l) (hs : es.length + l.length ≤ 65536) : addErr es l = z ∧ addNext es l = addE z es l := by
  obtain ⟨h1, h2⟩ := add_err hs
  unfold addE
  rw [hz]
  exact ⟨h1, h2⟩
theorem add_ok {es l : List Ev} (h : chks l = 0) (hs : es.length + l.length ≤ 65536) : addErr es l = 0 ∧ addNext es l = es ++ l := by
  have h1 : addErr es l = 0 := by unfold addErr; rw [if_pos h, if_neg (by omega)]
  exact ⟨h1, by unfold addNext; rw [if_pos h1]⟩

set_option maxRecDepth 100000 in
set_option maxHeartbeats 6400000 in
theorem journalPlays (w : World) (a : Option Addr) (n cap : Nat) (rs : List Ac) (h : SlAt w 3 a n cap (acs rs)) (hev : ∀ p ∈ rs, SlAt w 6 p.a p.l.length p.cp (evs p.l)) :
    Calls Try.prog 8 #[.slice a n cap] w (fun e w' => e = .returned (.bool true) ∧ Below w.heap.size w w') := by
  have hl : rs.length = n := by
    have := h.len
    rw [cells_len acC 3 (fun _ => rfl)] at this
    omega
  have Hl := Lib.hid hl
  have Hev := Lib.hid hev
  have hle := h.le
  have hmx := h.max
  unfold maxLen at hmx
  clear hl hev
  go_enter Try.func8, Try.ntmps8
  go_wp2_with fail
  refine (aliveJ _).mono ?_
  rintro e w1 ⟨rfl, hb1⟩
  go_wp2_with fail
  refine (long14 _ _ _ _ rs (h.all hb1)).mono ?_
  rintro e w2 ⟨bl, rfl, hbl, hb2⟩
  have b2 : Below w.heap.size w w2 := hb1.trans (hb2.mono hb1.size)
  have B2 := Lib.hid b2
  clear hb1 hb2 b2
  cases bl
  · obtain ⟨hn41, hl20⟩ := hbl rfl
    have hn : n ≤ 41 := by rw [← Hl.out]; exact hn41
    have Hl20 := Lib.hid hl20
    have hz2 := B2.out.size
    clear hbl hn41 hl20
    go_wp2_with fail
    refine (jnew _).mono ?_
    rintro e w3 ⟨bj, ea, ec, ma, mc, rfl, hj3, ho3, hb3⟩
    go_wp2_with fail
    refine (refNew _).mono ?_
    rintro e w4 ⟨pa, pc, ps, rfl, hpm, hpt, hb4⟩
    have hz3 := hb3.size
    have hz4 := hb4.size
    have hst : S14 w (w4.alloc (.cells #[.slice pa 1 pc, .int .i64 0] 56)) ⟨bj, [], [], 0, ea, ma, ec, mc⟩ none w4.heap.size (fun k => False ∨ (w3.heap.size ≤ k ∧ k < w4.heap.size)) pa 1 pc ps 0 := by
      refine ⟨⟨(hj3.all hb4).alloc _, (fun o ho => by cases ho), alloc_new w4 _, hpt.all ((Below.refl _ _).alloc (Nat.le_refl _) _), fun k hk => Nat.le_trans hz2 (ho3 k hk), (fun o ho => by cases ho), ⟨by omega, fun hk => ?_, fun hk => ?_⟩, fun k hk => ⟨?_, ?_, fun hq => ?_⟩, ?_⟩, by rw [hpm]; exact JR.new, jok_nil, by simp, by simp, by simp, (fun o ho => by cases ho)⟩
      · have := hj3.lt hk; omega
      · rcases hk with hk | hk
        · exact hk
        · omega
      · rcases hk with hk | hk
        · exact hk.elim
        · simp; omega
      · rcases hk with hk | hk
        · exact hk.elim
        · omega
      · rcases hk with hk | hk
        · exact hk
        · have := hj3.lt hq; omega
      · exact ((B2.out.trans (hb3.mono hz2)).trans (hb4.mono (by omega))).alloc (by omega) _
    have Hst := Lib.hid hst
    clear hst hj3 ho3 hpt hb3 hb4 hpm
    go_wp2_with fail
    go_loopw [3, 5, 23] (fun vj vo vi wr => Loop14 w w4.heap.size n vj vo vi wr) (fun _ _ vi _ => n - (intOf vi).toNat)
    case atStart => exact ⟨0, _, none, _, pa, 1, pc, ps, Nat.zero_le _, rfl, rfl, rfl, Hst.out⟩
    case round =>
      obtain ⟨k, g, old, M, qa, qn, qc, qs, hk, rfl, rfl, rfl, hS⟩ := hrel
      have HS := Lib.hid hS
      clear hS
      by_cases hlt : k < n
      · have hbel := HS.out.m.bel
        have hbz := hbel.size
        obtain ⟨b, off, rfl, hb, hc⟩ := (h.all hbel).nonempty (by omega)
        have hk' : k < rs.length := by have := Hl.out; omega
        have key := fun j hj => cells_at acC 3 (fun _ => rfl) rs k j (rs[k]) hk' hj
        have e : rs.getD k rs[k] = rs[k] := by simp [List.getD, List.getElem?_eq_getElem hk']
        rw [e] at key
        have hpe := (Hev.out (rs[k]) (List.getElem_mem hk')).all hbel
        have hpl := Hl20.out (rs[k]) (List.getElem_mem hk')
        obtain ⟨p, hp⟩ : ∃ p, p = rs[k] := ⟨_, rfl⟩
        rw [← hp] at key hpe hpl
        have d0 : wr.cell? ⟨b, off + k * 3, none⟩ = _ := hc (k * 3) (.int .i64 p.k) (by rw [show k * 3 = k * 3 + 0 from rfl, key 0 (by decide)]; rfl)
        have d1 : wr.cell? ⟨b, off + k * 3 + 1, none⟩ = _ := hc (k * 3 + 1) (.int .i64 p.c) (by rw [key 1 (by decide)]; rfl)
        have d2 : wr.cell? ⟨b, off + k * 3 + 2, none⟩ = _ := hc (k * 3 + 2) (.slice p.a p.l.length p.cp) (by rw [key 2 (by decide)]; rfl)
        obtain ⟨kk, cc, l, la, lc⟩ := p
        dsimp only at d0 d1 d2 hpe hpl
        obtain ⟨ln, hln⟩ : ∃ ln, ln = l.length := ⟨_, rfl⟩
        rw [← hln] at d2 hpe hpl
        have Hln := Lib.hid hln
        have Hpe := Lib.hid (hpe.alloc (.cells #[.int .i64 kk, .int .i64 cc, .slice la ln lc] 59))
        have Hlts := Lib.hid HS.out.m.lts
        have HS6 := Lib.hid (HS.out.below ((Below.refl _ wr).alloc (Nat.le_refl _) (.cells #[.int .i64 kk, .int .i64 cc, .slice la ln lc] 59)))
        have Oa := Lib.hid (alloc_new wr (.cells #[.int .i64 kk, .int .i64 cc, .slice la ln lc] 59))
        have Hb6 := Lib.hid ((Below.refl _ wr).alloc (Nat.le_refl _) (.cells #[.int .i64 kk, .int .i64 cc, .slice la ln lc] 59))
        have a0 := (obj_cell Oa.out 0 : _ = some (Value.int .i64 kk))
        clear hc key e hp hpe hbel hln
        go_upto_block 2 with fail
        have hbab : b < wr.heap.size := hb
        generalize (wr.alloc (.cells #[.int .i64 kk, .int .i64 cc, .slice la ln lc] 59)) = w6 at *
        clear d0 d1 d2 a0 hb
        generalize hab : wr.heap.size = ab at *
        go_cut [3, 5] (fun vj vo wx => Mid14 w w4.heap.size ab k (.cells #[.int .i64 kk, .int .i64 cc, .slice la ln lc] 59) vj vo wx)
        case first =>
          have ca0 := obj_cell Oa.out 0
          have ca1 := obj_cell Oa.out 1
          have ca2 := obj_cell Oa.out 2
          have cm0 := obj_cell HS6.out.m.mat 0
          have cm1 := obj_cell HS6.out.m.mat 1
          simp at ca0 ca1 ca2 cm0 cm1
          obtain ⟨hqn, hqe⟩ := HS6.out.plen
          have hel := HS6.out.el
          have hml := HS6.out.ml
          have hll := HS6.out.ll
          have hl0 := HS6.out.ok.last0
          have hqn2 : qn ≤ 1000 := by omega
          have hqn1 : 1 ≤ qn := by omega
          have Hqn := Lib.hid hqn
          have Hqe := Lib.hid hqe
          have hga : ¬ g.own ab := fun hq => by have := Hlts.out.1 ab hq; omega
          have Hga := Lib.hid hga
          have Hold := Lib.hid (fun o ho => (by
            obtain ⟨h1, h2, h3, h4⟩ := HS6.out.old o ho
            exact ⟨h1, h2, h3, h4, fun hq => by have := Hlts.out.2.1 o ho ab hq; omega⟩) : ∀ o, old = some o → o.es.length ≤ 21 * k ∧ o.ms.length ≤ 2 * k ∧ 0 ≤ o.last ∧ o.last ≤ 2 * k ∧ ¬ o.own ab)
          have hab6 : ab < w6.heap.size := obj_lt Oa.out
          have hM6 := HS6.out.m.lts.2.2.2
          clear hqn hqe hga
          have hkk : kk = 0 ∨ kk = 1 ∨ kk = 2 ∨ kk = 3 ∨ kk = 4 ∨ ((kk == 0) = false ∧ (kk == 1) = false ∧ (kk == 2) = false ∧ (kk == 3) = false ∧ (kk == 4) = false) := by simp; omega
          rcases hkk with rfl | rfl | rfl | rfl | rfl | ⟨hk0, hk1, hk2, hk3, hk4⟩
          · go_wp2_with (at_builtin; refine wp_append rfl (.tmp 31) (.tmp 33) 40 rfl 64 (.agg #[.int .i64 0, .int .i64 0, .int .i64 0, .int .i64 0, .int .i64 0, .int .i64 0]) 6 48 Try.underlying40 Try.infoEv rfl (by decide) rfl rfl (RowAt.lit w6 #[] 64 6 0 (Nat.zero_le _) rfl (by simp)) (Hpe.out.alloc _) (by unfold maxLen; omega) (by omega) ?_; intro a7 c7 w7 hrow hupd hloc hnil; simp only [Nat.zero_add, List.nil_append] at hrow; have HR7 := Lib.hid hrow; have HF7 := Lib.hid ((fresh_new (Nat.le_refl w6.heap.size)).step (by simp) hloc : Fresh w6.heap.size a7); have HB7 := Lib.hid (((Below.refl _ w6).alloc (Nat.le_refl _) _).trans (appendBelow (fresh_new (Nat.le_refl w6.heap.size)) (by simp) hupd) : Below w6.heap.size w6 w7); have HS7 := Lib.hid (HS6.out.below HB7.out); have HA7 := Lib.hid (below_obj HB7.out Oa.out hab6); have cm0' := obj_cell HS7.out.m.mat 0; have cm1' := obj_cell HS7.out.m.mat 1; have ca2' := obj_cell HA7.out 2; simp at cm0' cm1' ca2'; clear hrow hupd hloc hnil)
            refine (refAdd _ M HS7.out.m.lts.2.2.2 _ _ _ qs HS7.out.m.pat g.last hqn1 hqn2 (by have := Hqe.out; omega) _ _ _ l (Hpe.out.all HB7.out) (by omega)).mono ?_
            rintro e w8 ⟨a8, c8, rs8, rfl, hm8, hp8, hb8⟩
            obtain ⟨z, hz⟩ : ∃ z, z = chks l := ⟨_, rfl⟩
            rw [← hz]
            have Hz := Lib.hid hz
            have HM8 := Lib.hid (HS7.out.m.parts hb8 hp8)
            obtain ⟨rn8, hrn8⟩ : ∃ rn8, rn8 = (addQ l (qs.map prP)).length := ⟨_, rfl⟩
            rw [← hrn8] at HM8 ⊢
            have Hrn8 := Lib.hid hrn8
            have Hm8 := Lib.hid hm8
            have HR8 := Lib.hid (HR7.out.all hb8)
            have hab7 : ab < w7.heap.size := obj_lt HA7.out
            have HA8 := Lib.hid (below_obj hb8 HA7.out hab7)
            have h67 := HB7.out.size
            have h78 := hb8.size
            have HM9 := Lib.hid (HM8.out.below ((Below.refl _ w8).alloc (Nat.le_refl _) (.cells #[.slice a8 rn8 c8, .int .i64 g.last] 56)))
            have HR9 := Lib.hid (HR8.out.alloc (.cells #[.slice a8 rn8 c8, .int .i64 g.last] 56))
            have HA9 := Lib.hid (alloc_obj (x := .cells #[.slice a8 rn8 c8, .int .i64 g.last] 56) HA8.out)
            have HN9 := Lib.hid (alloc_new w8 (.cells #[.slice a8 rn8 c8, .int .i64 g.last] 56))
            have h9z : (w8.alloc (.cells #[.slice a8 rn8 c8, .int .i64 g.last] 56)).heap.size = w8.heap.size + 1 := by simp
            have H9z := Lib.hid h9z
            have H7lt := Lib.hid HR7.out.lt
            clear hm8 hp8 hb8 hz hrn8 h9z
            go_wp2_with fail
            generalize (w8.alloc (.cells #[.slice a8 rn8 c8, .int .i64 g.last] 56)) = w9 at *
            refine (add _ _ _ _ _ _ _ _ _ HM9.out.jat (by omega) _ _ _ l HR9.out.sl (by omega)).mono ?_
            intro e w10 ht
            rw [(add_err2 (es := g.es) Hz.out (by have := Hln.out; omega)).1, (add_err2 (es := g.es) Hz.out (by have := Hln.out; omega)).2] at ht
            obtain ⟨⟨gb10, ges10, gms10, gl10, gea10, gma10, gec10, gmc10⟩, rfl, he1, he2, he3, he4, hm10, hu10, hw10⟩ := HM9.out.jto ht
            dsimp only at he1 he2 he3 he4
            subst he1 he2 he3 he4
            have h7n : ∀ ad, a7 = some ad → ad.block < w9.heap.size ∧ ab < ad.block ∧ ¬ g.own ad.block ∧ (∀ o, old = some o → ¬ o.own ad.block) ∧ ad.block ≠ w4.heap.size ∧ ad.block < w7.heap.size ∧ w6.heap.size ≤ ad.block := fun ad he => by
              have h1 := HF7.out ad he
              have h2 := H7lt.out ad he
              have h3 := H9z.out
              exact ⟨by omega, by omega, fun hq => by have := Hlts.out.1 _ hq; omega, fun o ho hq => by have := Hlts.out.2.1 o ho _ hq; omega, by have := Hlts.out.2.2.1; omega, h2, h1⟩
            have HR10 := Lib.hid (HR9.out.upd hu10 (fun ad he => (h7n ad he).2.2.1))
            have HA10 := Lib.hid (hu10.obj HA9.out Hga.out)
            have HN10 := Lib.hid (hu10.obj HN9.out (fun hq => by have := Hlts.out.1 _ hq; omega))
            have HM10 := Lib.hid hm10
            have HQ := Lib.hid (fun ad he => (by
              obtain ⟨h1, h2, h3, h4, h5, h6, h7⟩ := h7n ad he
              refine ⟨fun hq => (hw10 _ hq).elim h3 (fun h => by omega), h4, h5, fun hq => hq.elim (fun hq => by have := Hlts.out.2.2.2 _ hq; omega) (fun hq => by omega), by omega, by omega, by omega⟩) : ∀ ad, a7 = some ad → ¬ JI.own ⟨g.bj, addE z g.es l, g.ms, g.last, gea10, gma10, gec10, gmc10⟩ ad.block ∧ (∀ o, old = some o → ¬ o.own ad.block) ∧ ad.block ≠ w4.heap.size ∧ ¬ (M ad.block ∨ (w7.heap.size ≤ ad.block ∧ ad.block < w8.heap.size)) ∧ w.heap.size ≤ ad.block ∧ ad.block ≠ ab ∧ ad.block ≠ w8.heap.size)
            have hzz : (z != z) = false := by simp
            clear ht hm10 hu10 hw10 h7n cm0 cm1 cm0' cm1' ca2' ca0 ca1 ca2
            go_wp2_with (go_at_call 44; refine (num _ z).mono ?_; rintro e w' ⟨rfl, rfl⟩)
            go_loopw [50] (fun i wx => ∃ j : Nat, j ≤ ln ∧ i = .int .i64 j ∧ J14 w wx ⟨g.bj, addE z g.es l, g.ms, g.last, gea10, gma10, gec10, gmc10⟩ old w4.heap.size #[.slice qa qn qc, .int .i64 g.last] (fun k => M k ∨ (w7.heap.size ≤ k ∧ k < w8.heap.size)) a8 rn8 c8 rs8 ∧ (∃ xs, RowAt wx 64 6 a7 ln c7 xs) ∧ wx.heap[ab]? = some (.cells #[.int .i64 0, .int .i64 cc, .slice la ln lc] 59 (0, 0)) ∧ wx.heap[w8.heap.size]? = some (.cells #[.slice a8 rn8 c8, .int .i64 g.last] 56 (0, 0))) (fun i _ => ln - (intOf i).toNat)
            case atStart => exact ⟨0, Nat.zero_le _, rfl, HM10.out, ⟨_, HR10.out⟩, HA10.out, HN10.out⟩
            case round =>
              obtain ⟨j, hj, rfl, hJ, ⟨xs, hx⟩, hA, hN⟩ := hrel
              have HJ := Lib.hid hJ
              have HX := Lib.hid hx
              have HA := Lib.hid hA
              have HN := Lib.hid hN
              clear hJ hx hA hN
              by_cases hlj : j < ln
              · obtain ⟨b7, o7, rfl, hb7, hc7⟩ := HX.out.sl.nonempty (by omega)
                have hxl : xs.length = ln * 6 := HX.out.len
                obtain ⟨v1, hv1⟩ : ∃ v, wr.cell? ⟨b7, o7 + j * 6 + 1, none⟩ = some v := ⟨_, hc7 (j * 6 + 1) _ (List.getElem?_eq_getElem (by omega))⟩
                obtain ⟨_, cur, hg7, _⟩ := HX.out.row _ rfl
                have hf7 := fun i => (obj_free hg7 i : wr.frozen? ⟨b7, i, none⟩ = false)
                obtain ⟨n1, n2, n3, n4, n5, n6, n7⟩ := HQ.out _ rfl
                have N1 := Lib.hid n1
                have N2 := Lib.hid n2
                have N3 := Lib.hid n3
                have N4 := Lib.hid n4
                have N5 := Lib.hid n5
                have N6 := Lib.hid n6
                have N7 := Lib.hid n7
                clear hc7 hg7 n1 n2 n3 n4 n5 n6 n7
                go_wp2_with fail
                go_roundw
                case rel => exact ⟨j + 1, by omega, by go_num, HJ.out.upd ((Upd.refl (fun k => k = b7) wr).setCell ⟨b7, o7 + j * 6 + 1, none⟩ (fun _ => rfl) _) (fun i hi hq => N1.out (hq ▸ hi)) (fun o ho i hi hq => N2.out o ho (hq ▸ hi)) (fun hq => N3.out hq.symm) (fun i hi hq => N4.out (hq ▸ hi)) (fun i hq => by have h5 : w.heap.size ≤ b7 := N5.out; change i = b7 at hq; omega), ⟨_, HX.out.setJ (j * 6 + 1) (by omega) (.int .i64 77) rfl⟩, setCell_obj HA.out (fun hq => N6.out hq.symm), setCell_obj HN.out (fun hq => N7.out hq.symm)⟩
                case measure => simp [intOf]; omega
              · obtain rfl : j = ln := by omega
                have kn0 := obj_cell HN.out 0
                have kn1 := obj_cell HN.out 1
                have km0 := obj_cell HJ.out.mat 0
                have km1 := obj_cell HJ.out.mat 1
                have fm0 := obj_free HJ.out.mat 0
                have fm1 := obj_free HJ.out.mat 1
                simp at kn0 kn1 km0 km1
                have HM11 := Lib.hid (HJ.out.mset (.slice a8 rn8 c8) (.int .i64 g.last))
                have HA11 := Lib.hid (setCell_obj (p := ⟨w4.heap.size, 1, none⟩) (u := .int .i64 g.last) (setCell_obj (p := ⟨w4.heap.size, 0, none⟩) (u := .slice a8 rn8 c8) HA.out (fun hq => by have := Hlts.out.2.2.1; change ab = w4.heap.size at hq; omega)) (fun hq => by have := Hlts.out.2.2.1; change ab = w4.heap.size at hq; omega))
                have Hlt := Lib.hid (show l.length ≤ 20 by rw [← Hln.out]; exact hpl)
                go_wp2_with fail
                go_meet
                exact ⟨⟨g.bj, _, _, _, gea10, gma10, gec10, gmc10⟩, old, _, a8, rn8, c8, rs8, rfl, rfl, ⟨HM11.out, by rw [Hm8.out]; exact addE_jr Hz.out HS6.out.jr, addE_ok HS6.out.ok, by have h1 := addE_len z g.es l; have h2 := HS6.out.el; have h3 := Hlt.out; simp only; omega, by have := HS6.out.ml; simp only; omega, by have := HS6.out.ll; simp only; omega, fun o ho => by have := HS6.out.old o ho; omega⟩, HA11.out, Hold.out⟩
          · go_wp2_with fail
            refine (refMark _ M _ _ _ qs HS6.out.m.pat g.last hl0 (by omega) hqn2).mono ?_
            rintro e w7 ⟨a7, c7, rs7, rfl, hm7, hp7, hb7⟩
            have HM7 := Lib.hid (HS6.out.m.parts hb7 hp7)
            have HA7 := Lib.hid (below_obj hb7 Oa.out hab6)
            have Hm7 := Lib.hid hm7
            obtain ⟨rn7, hrn7⟩ : ∃ rn7, rn7 = (qs.map prP ++ [(g.last + 1, [])]).length := ⟨_, rfl⟩
            rw [← hrn7] at HM7 ⊢
            have Hrn7 := Lib.hid hrn7
            clear hrn7
            have km0 := obj_cell HM7.out.mat 0
            have km1 := obj_cell HM7.out.mat 1
            have fm0 := obj_free HM7.out.mat 0
            have fm1 := obj_free HM7.out.mat 1
            simp at km0 km1
            have HM8 := Lib.hid (HM7.out.mset (.slice a7 rn7 c7) (.int .i64 (g.last + 1)))
            have HA8 := Lib.hid (setCell_obj (p := ⟨w4.heap.size, 1, none⟩) (u := .int .i64 (g.last + 1)) (setCell_obj (p := ⟨w4.heap.size, 0, none⟩) (u := .slice a7 rn7 c7) HA7.out (fun hq => by have := Hlts.out.2.2.1; change ab = w4.heap.size at hq; omega)) (fun hq => by have := Hlts.out.2.2.1; change ab = w4.heap.size at hq; omega))
            have hne1 : (g.last + 1 != g.last + 1) = false := by simp
            have hab7 : ab < w7.heap.size := obj_lt HA7.out
            clear hm7 hp7 hb7
            go_upto_region 24 with fail
            generalize ((w7.setCell ⟨w4.heap.size, 0, none⟩ (.slice a7 rn7 c7)).setCell ⟨w4.heap.size, 1, none⟩ (.int .i64 (g.last + 1))) = w8 at *
            have hx8 := obj_cell HM8.out.mat 1
            simp at hx8
            have HM8d := Lib.hid (HM8.out.below (Below.refl _ w8).drew)
            have hx8d : w8.drew.cell? ⟨w4.heap.size, 1, none⟩ = some (.int .i64 (g.last + 1)) := hx8
            clear km0 km1 fm0 fm1 cm0 cm1
            go_region_held3 (fun x => x.cell? ⟨w4.heap.size, 1, none⟩ = some (.int .i64 (g.last + 1)))
              (first | exact hx8d | exact hx9)
              (first | (go_at_call 34; refine (mark _ _ _ _ _ _ _ _ _ HM8d.out.jat hl0 (by omega) (by omega)).mono ?_; intro e w9 ht; obtain ⟨⟨gb9, ges9, gms9, gl9, gea9, gma9, gec9, gmc9⟩, rfl, he1, he2, he3, he4, hm9, hu9, hw9⟩ := HM8d.out.jto ht; dsimp only at he1 he2 he3 he4; subst he1 he2 he3 he4; have HM9 := Lib.hid hm9; have HA9 := Lib.hid (hu9.obj (show w8.drew.heap[ab]? = _ from HA8.out) Hga.out); have hx9 := obj_cell HM9.out.mat 1; simp at hx9; clear ht hm9 hu9 hw9))
            go_wp2_with fail
            go_meet
            exact ⟨⟨g.bj, _, _, _, gea9, gma9, gec9, gmc9⟩, old, _, a7, rn7, c7, rs7, rfl, rfl, ⟨HM9.out, by rw [Hm7.out]; exact HS6.out.jr.mark (g.last + 1), jok_mark HS6.out.ok, by have := HS6.out.el; simp only; omega, by have := HS6.out.ml; simp; omega, by have := HS6.out.ll; simp only; omega, fun o ho => by have := HS6.out.old o ho; omega⟩, HA9.out, Hold.out⟩
          · go_wp2_with fail
            refine (refFind _ M _ _ _ qs HS6.out.m.pat g.last hqn2 hqn1 cc).mono ?_
            rintro e w7 ⟨rfl, hb7⟩
            have HA7 := Lib.hid (below_obj hb7 Oa.out hab6)
            have cb1 := obj_cell HA7.out 1
            have cb0 := obj_cell HA7.out 0
            simp at cb0 cb1
            cases hpl : place g.ms cc with
            | none =>
              have Hpl := Lib.hid hpl
              rw [HS6.out.jr.findN hpl]
              clear hpl
              go_wp2_with fail
              refine (backBad _ _ _ _ _ _ _ _ _ (HS6.out.m.jat.all hb7) HS6.out.ok (by omega) cc Hpl.out).mono ?_
              rintro e w8 ⟨rfl, hb8⟩
              have B8 := Lib.hid (hb7.trans (hb8.mono hb7.size))
              have HA8 := Lib.hid (below_obj B8.out Oa.out hab6)
              clear hb8
              go_wp2_with (go_at_call 21; refine (isErr _ 16 16).mono ?_; rintro e w' ⟨rfl, rfl⟩)
              go_meet
              exact ⟨g, old, M, qa, qn, qc, qs, rfl, rfl, (HS6.out.below B8.out).next, HA8.out, Hold.out⟩
            | some i =>
              rw [HS6.out.jr.findS hpl]
              obtain ⟨pq, hqp, hpc, hmi, hdr, htk, hkl, hlt⟩ := HS6.out.jr.at_ hpl
              obtain ⟨pr, hpr, hprp⟩ : ∃ pr, qs[i + 1]? = some pr ∧ prP pr = pq := by
                rw [List.getElem?_map] at hqp
                cases hq : qs[i + 1]? with
                | none => rw [hq] at hqp; cases hqp
                | some x => rw [hq] at hqp; exact ⟨x, rfl, Option.some.inj hqp⟩
              have hprn : pr.n = cc := by rw [← hpc, ← hprp]; rfl
              have Hpr := Lib.hid hpr
              have Hprn := Lib.hid hprn
              have Hpl := Lib.hid hpl
              have Hmi := Lib.hid hmi
              have Hdr := Lib.hid hdr
              have Htk := Lib.hid htk
              have hin : i + 1 < qn := by rw [List.length_map] at hlt; have := HS6.out.m.pat.len; omega
              have h0i : (0 : Int) ≤ (i : Int) + 1 := by omega
              have h0d : decide ((i : Int) + 1 < 0) = false := by simp; omega
              have h0e : decide ((0 : Int) ≤ (i : Int) + 1) = true := by simp; omega
              have HS7 := Lib.hid (HS6.out.below hb7)
              obtain ⟨kl, hkle⟩ : ∃ kl, kl = (ptEvs ((qs.map prP).take (i + 1))).length := ⟨_, rfl⟩
              rw [← hkle] at hkl
              have Hkle := Lib.hid hkle
              clear hpl hqp hpc hmi hdr htk hlt hpr hprp hprn hkle
              go_wp2_with fail
              refine (backOk _ _ _ _ _ _ _ _ _ HS7.out.m.jat HS7.out.ok (by omega) (by omega) cc i _ _ Hpl.out Hmi.out).mono ?_
              intro e w8 ht
              obtain ⟨⟨gb8, ges8, gms8, gl8, gea8, gma8, gec8, gmc8⟩, ra8, rc8, rfl, he1, he2, he3, he4, hm8, hu8, hr8⟩ := HS7.out.m.jret ht
              rw [Hdr.out] at hr8 ⊢
              dsimp only at he1 he2 he3 he4
              subst he1 he2 he3 he4
              have HM8 := Lib.hid hm8
              have HR8 := Lib.hid hr8
              have HA8 := Lib.hid (hu8.obj HA7.out Hga.out)
              have ck0 := obj_cell HM8.out.mat 0
              have ck1 := obj_cell HM8.out.mat 1
              simp at ck0 ck1
              have hab8 : ab < w8.heap.size := obj_lt HA8.out
              have hsub := ptEvs_sub (qs.map prP) (i + 1) qs.length
              rw [List.take_of_length_le (by simp)] at hsub
              obtain ⟨sl, hsl⟩ : ∃ sl, sl = ptEvs ((qs.map prP).drop (i + 1)) := ⟨_, rfl⟩
              rw [← hsl] at HR8 hsub ⊢
              have Hsl := Lib.hid hsl
              have hsub2 : sl.length ≤ 1000 := by have := Hqe.out; omega
              clear ht hm8 hu8 hr8 hsl
              go_upto_region 36 with (first
                | (go_at_call 48; refine (refAll _ M _ _ _ qs HM8.out.pat g.last (i + 1) (by omega) hqn2 (by have := Hqe.out; omega)).mono ?_; rw [← Hsl.out]; rintro e v1 ⟨b1, d1, rfl, hr, _, hb⟩; have V1 := Lib.hid hb; have R1 := Lib.hid hr; clear hb hr)
                | (go_at_call 37; refine (refInverts _ _ _ _ sl R1.out.sl (by omega)).mono ?_; rintro e v2 ⟨b2, d2, rfl, hr, _, hb⟩; have V2 := Lib.hid (V1.out.trans (hb.mono V1.out.size)); have R2 := Lib.hid hr; clear hb hr)
                | (go_at_call 36; refine (events _ _ _ _ _ _ _ (invs sl) (invs sl) (HR8.out.all V2.out).sl R2.out.sl).mono ?_; rintro e v3 ⟨rfl, hq⟩; simp only [decide_true]; have V3 := Lib.hid (V2.out.trans ((hq.below _).mono V2.out.size)); clear hq))
              have HMv := Lib.hid (HM8.out.below V3.out)
              have HAv := Lib.hid (below_obj V3.out HA8.out hab8)
              have ce0 := obj_cell HAv.out 0
              have cv0 := obj_cell HMv.out.mat 0
              have cv1 := obj_cell HMv.out.mat 1
              simp at ce0 cv0 cv1
              have habv : ab < v3.heap.size := obj_lt HAv.out
              go_wp2_with fail
              refine (refBack _ M _ _ _ qs HMv.out.pat g.last hqn2 (i + 1) hin pr Hpr.out none 0 0 [] (SlAt.null _ _) (fun ad he => by cases he)).mono ?_
              rintro e w9 ⟨a9, c9, rs9, rfl, hm9, hp9, hb9⟩
              have HM9 := Lib.hid (HMv.out.parts hb9 hp9)
              have HA9 := Lib.hid (below_obj hb9 HAv.out habv)
              have Hm9 := Lib.hid hm9
              obtain ⟨rn9, hrn9⟩ : ∃ rn9, rn9 = (backP (qs.map prP) (i + 1) pr.n []).length := ⟨_, rfl⟩
              rw [← hrn9] at HM9 ⊢
              have Hrn9 := Lib.hid hrn9
              clear hrn9
              have km0 := obj_cell HM9.out.mat 0
              have km1 := obj_cell HM9.out.mat 1
              have fm0 := obj_free HM9.out.mat 0
              have fm1 := obj_free HM9.out.mat 1
              simp at km0 km1
              have HM10 := Lib.hid (HM9.out.mset (.slice a9 rn9 c9) (.int .i64 g.last))
              have HA10 := Lib.hid (setCell_obj (p := ⟨w4.heap.size, 1, none⟩) (u := .int .i64 g.last) (setCell_obj (p := ⟨w4.heap.size, 0, none⟩) (u := .slice a9 rn9 c9) HA9.out (fun hq => by have := Hlts.out.2.2.1; change ab = w4.heap.size at hq; omega)) (fun hq => by have := Hlts.out.2.2.1; change ab = w4.heap.size at hq; omega))
              clear hm9 hp9 hb9 cm0 cm1
              go_wp2_with fail
              go_meet
              exact ⟨⟨g.bj, _, _, _, gea8, gma8, gec8, gmc8⟩, old, _, a9, rn9, c9, rs9, rfl, rfl, ⟨HM10.out, by rw [Hm9.out]; simp only; rw [Hprn.out]; exact (by have := HS6.out.jr.back Hpl.out []; rwa [List.append_nil] at this), jok_cut HS6.out.ok Hmi.out, by have h2 := HS6.out.el; simp; omega, by have := HS6.out.ml; simp; omega, by have := HS6.out.ll; simp only; omega, fun o ho => by have := HS6.out.old o ho; omega⟩, HA10.out, Hold.out⟩
          · go_wp2_with fail
            refine (refFind _ M _ _ _ qs HS6.out.m.pat g.last hqn2 hqn1 cc).mono ?_
            rintro e w7 ⟨rfl, hb7⟩
            have HA7 := Lib.hid (below_obj hb7 Oa.out hab6)
            have cb1 := obj_cell HA7.out 1
            have cb0 := obj_cell HA7.out 0
            simp at cb0 cb1
            cases hpl : place g.ms cc with
            | none =>
              have Hpl := Lib.hid hpl
              rw [HS6.out.jr.findN hpl]
              clear hpl
              go_wp2_with fail
              refine (foldBad _ _ _ _ _ _ _ _ _ (HS6.out.m.jat.all hb7) HS6.out.ok (by omega) cc Hpl.out).mono ?_
              rintro e w8 ⟨rfl, hb8⟩
              have B8 := Lib.hid (hb7.trans (hb8.mono hb7.size))
              have HA8 := Lib.hid (below_obj B8.out Oa.out hab6)
              clear hb8
              go_wp2_with (go_at_call 21; refine (isErr _ 16 16).mono ?_; rintro e w' ⟨rfl, rfl⟩)
              go_meet
              exact ⟨g, old, M, qa, qn, qc, qs, rfl, rfl, (HS6.out.below B8.out).next, HA8.out, Hold.out⟩
            | some i =>
              rw [HS6.out.jr.findS hpl]
              obtain ⟨pq, hqp, hpc, hmi, hdr, htk, hkl, hlt⟩ := HS6.out.jr.at_ hpl
              obtain ⟨pr, hpr, hprp⟩ : ∃ pr, qs[i + 1]? = some pr ∧ prP pr = pq := by
                rw [List.getElem?_map] at hqp
                cases hq : qs[i + 1]? with
                | none => rw [hq] at hqp; cases hqp
                | some x => rw [hq] at hqp; exact ⟨x, rfl, Option.some.inj hqp⟩
              have hprn : pr.n = cc := by rw [← hpc, ← hprp]; rfl
              have Hpr := Lib.hid hpr
              have Hprn := Lib.hid hprn
              have Hpl := Lib.hid hpl
              have Hmi := Lib.hid hmi
              have Hdr := Lib.hid hdr
              have Htk := Lib.hid htk
              have hin : i + 1 < qn := by rw [List.length_map] at hlt; have := HS6.out.m.pat.len; omega
              have h0i : (0 : Int) ≤ (i : Int) + 1 := by omega
              have h0d : decide ((i : Int) + 1 < 0) = false := by simp; omega
              have h0e : decide ((0 : Int) ≤ (i : Int) + 1) = true := by simp; omega
              have HS7 := Lib.hid (HS6.out.below hb7)
              obtain ⟨kl, hkle⟩ : ∃ kl, kl = (ptEvs ((qs.map prP).take (i + 1))).length := ⟨_, rfl⟩
              rw [← hkle] at hkl
              have Hkle := Lib.hid hkle
              clear hpl hqp hpc hmi hdr htk hlt hpr hprp hprn hkle
              go_wp2_with fail
              refine (foldOk _ _ _ _ _ _ _ _ _ HS7.out.m.jat HS7.out.ok (by omega) (by omega) cc i _ _ Hpl.out Hmi.out).mono ?_
              intro e w8 ht
              obtain ⟨⟨gb8, ges8, gms8, gl8, gea8, gma8, gec8, gmc8⟩, rfl, he1, he2, he3, he4, hm8, hu8, hw8⟩ := HS7.out.m.jto ht
              dsimp only at he1 he2 he3 he4
              subst he1 he2 he3 he4
              have HM8 := Lib.hid hm8
              have HA8 := Lib.hid (hu8.obj HA7.out Hga.out)
              have ce0 := obj_cell HA8.out 0
              have ck0 := obj_cell HM8.out.mat 0
              have ck1 := obj_cell HM8.out.mat 1
              simp at ce0 ck0 ck1
              have hab8 : ab < w8.heap.size := obj_lt HA8.out
              clear ht hm8 hu8 hw8
              go_wp2_with fail
              refine (refFold _ M HM8.out.lts.2.2.2 _ _ _ qs HM8.out.pat g.last hqn2 (i + 1) hin pr Hpr.out (by have := Hqe.out; omega)).mono ?_
              rintro e w9 ⟨a9, c9, rs9, rfl, hm9, hp9, hb9⟩
              have HM9 := Lib.hid (HM8.out.parts hb9 hp9)
              have HA9 := Lib.hid (below_obj hb9 HA8.out hab8)
              have Hm9 := Lib.hid hm9
              obtain ⟨rn9, hrn9⟩ : ∃ rn9, rn9 = (backP (qs.map prP) (i + 1) pr.n (netF (ptEvs ((qs.map prP).drop (i + 1))))).length := ⟨_, rfl⟩
              rw [← hrn9] at HM9 ⊢
              have Hrn9 := Lib.hid hrn9
              clear hrn9
              have km0 := obj_cell HM9.out.mat 0
              have km1 := obj_cell HM9.out.mat 1
              have fm0 := obj_free HM9.out.mat 0
              have fm1 := obj_free HM9.out.mat 1
              simp at km0 km1
              have HM10 := Lib.hid (HM9.out.mset (.slice a9 rn9 c9) (.int .i64 g.last))
              have HA10 := Lib.hid (setCell_obj (p := ⟨w4.heap.size, 1, none⟩) (u := .int .i64 g.last) (setCell_obj (p := ⟨w4.heap.size, 0, none⟩) (u := .slice a9 rn9 c9) HA9.out (fun hq => by have := Hlts.out.2.2.1; change ab = w4.heap.size at hq; omega)) (fun hq => by have := Hlts.out.2.2.1; change ab = w4.heap.size at hq; omega))
              clear hm9 hp9 hb9 cm0 cm1
              go_wp2_with fail
              go_meet
              exact ⟨⟨g.bj, _, _, _, gea8, gma8, gec8, gmc8⟩, old, _, a9, rn9, c9, rs9, rfl, rfl, ⟨HM10.out, by rw [Hm9.out]; simp only; rw [Hprn.out]; exact (by rw [Hdr.out]; exact HS6.out.jr.back Hpl.out _), jok_add (jok_cut HS6.out.ok Hmi.out), by have h1 := netF_len (g.es.drop (ptEvs ((qs.map prP).take (i + 1))).length); have h2 := HS6.out.el; simp at h1 ⊢; omega, by have := HS6.out.ml; simp; omega, by have := HS6.out.ll; simp only; omega, fun o ho => by have := HS6.out.old o ho; omega⟩, HA10.out, Hold.out⟩
          · go_wp2_with fail
            refine (jcopy _ _ _ _ _ _ _ _ _ HS6.out.m.jat (by omega) (by omega)).mono ?_
            intro e w7 ht
            obtain ⟨⟨gb7, ges7, gms7, gl7, gea7, gma7, gec7, gmc7⟩, rfl, he1, he2, he3, hm7, hb7⟩ := HS6.out.m.copy ht
            dsimp only at he1 he2 he3
            subst he1 he2 he3
            have HM7 := Lib.hid hm7
            have HA7 := Lib.hid (below_obj hb7 Oa.out hab6)
            clear ht hm7 hb7
            go_wp2_with fail
            go_meet
            exact ⟨⟨gb7, _, _, _, gea7, gma7, gec7, gmc7⟩, some g, M, qa, qn, qc, qs, rfl, rfl, ⟨HM7.out, HS6.out.jr, HS6.out.ok, by have := HS6.out.el; simp only; omega, by have := HS6.out.ml; simp only; omega, by have := HS6.out.ll; simp only; omega, fun o ho => by obtain rfl := Option.some.inj ho; exact ⟨by omega, by omega, hl0, by omega⟩⟩, HA7.out, fun o ho => by obtain rfl := Option.some.inj ho; exact ⟨by omega, by omega, hl0, by omega, Hga.out⟩⟩
          · go_wp2_with fail
            go_meet
            exact ⟨g, old, M, qa, qn, qc, qs, rfl, rfl, HS6.out.next, Oa.out, Hold.out⟩
        case rest =>
          obtain ⟨g2, old2, M2, ra, rn, rc, rps, rfl, rfl, hS2, ho2, hold⟩ := hcut
          have HS2 := Lib.hid hS2
          have Ho2 := Lib.hid ho2
          obtain ⟨hrn, hpe2⟩ := hS2.plen
          have Hrn := Lib.hid hrn
          have h41 : k + 1 ≤ 41 := by omega
          clear hS2 ho2 hrn hpe2 Hlts
          cases old2 with
          | none =>
            simp only [oldV]
            have q0 := obj_cell HS2.out.m.mat 0
            have q1 := obj_cell HS2.out.m.mat 1
            have q2 := obj_cell Ho2.out 1
            simp at q0 q1 q2
            have hel := HS2.out.el
            have hml := HS2.out.ml
            have hll := HS2.out.ll
            have hl0 := HS2.out.ok.last0
            go_wp2_with (first
              | (go_at_call 34; refine (nMark _).mono ?_; rintro e w' ⟨rfl, rfl⟩)
              | (go_at_call 52; refine (isTrue _ _ _ _ _ _ _ _ _ HS2.out.m.jat HS2.out.ok M2 _ _ _ rps HS2.out.m.pat HS2.out.jr (by omega) (by omega) hl0 (by omega) cc).mono ?_; rintro e w9 ⟨rfl, hb9⟩; have HS9 := Lib.hid (HS2.out.below hb9); clear hb9))
            go_roundw
            case rel => exact ⟨k + 1, g2, none, M2, ra, rn, rc, rps, by omega, by go_num, rfl, rfl, HS9.out⟩
            case measure => simp [intOf]; omega
          | some o =>
            simp only [oldV]
            obtain ⟨oe, om, ol0, ol, onab⟩ := hold o rfl
            have hel := HS2.out.el
            have hml := HS2.out.ml
            have hll := HS2.out.ll
            have hl0 := HS2.out.ok.last0
            have HO := Lib.hid (HS2.out.m.oat o rfl)
            have hpos : decide ((0 : Int) < o.last + 1) = true := by simp; omega
            have hpos2 : (0 : Int) < o.last + 1 := by omega
            go_wp2_with fail
            refine (mark _ _ _ _ _ _ _ _ _ HO.out ol0 (by omega) (by omega)).mono ?_
            intro e w7 ht
            obtain ⟨⟨ob7, oes7, oms7, ol7, oea7, oma7, oec7, omc7⟩, rfl, hob, hoe, hom, hol, hm7, hu7, hw7⟩ := HS2.out.m.oto ht
            dsimp only at hob hoe hom hol
            subst hob hoe hom hol
            have HM7 := Lib.hid (hm7.below ((Below.refl _ w7).alloc (Nat.le_refl _) (.cells #[.int .i64 0, .int .i64 0, .int .i64 0, .int .i64 0, .int .i64 0, .int .i64 0] 64)))
            have HA7 := Lib.hid (alloc_obj (x := .cells #[.int .i64 0, .int .i64 0, .int .i64 0, .int .i64 0, .int .i64 0, .int .i64 0] 64) (hu7.obj Ho2.out onab))
            have HL7 := Lib.hid (RowAt.lit w7 #[.int .i64 0, .int .i64 0, .int .i64 0, .int .i64 0, .int .i64 0, .int .i64 0] 64 6 1 (by decide) rfl (by simp [Value.oneCell'])).sl
            have hab7 : ab < w7.heap.size := obj_lt (hu7.obj Ho2.out onab)
            have Hw7 := Lib.hid (fun hq => (hw7 ab hq).elim onab (fun h => by have := obj_lt Ho2.out; omega) : ¬ JI.own ⟨o.bj, o.es, o.ms ++ [(o.last + 1, o.es.length)], o.last + 1, oea7, oma7, oec7, omc7⟩ ab)
            clear ht hm7 hu7 hw7
            go_wp2_with fail
            generalize (w7.alloc (.cells #[.int .i64 0, .int .i64 0, .int .i64 0, .int .i64 0, .int .i64 0, .int .i64 0] 64)) = w8 at *
            refine (add _ _ _ _ _ _ _ _ _ (HM7.out.oat _ rfl) (by simp only; omega) _ _ _ [ev00] HL7.out (by decide)).mono ?_
            intro e w9 ht
            rw [(add_ok (es := o.es) (l := [ev00]) rfl (by simp; omega)).1, (add_ok (es := o.es) (l := [ev00]) rfl (by simp; omega)).2, errV_zero] at ht
            obtain ⟨⟨ob9, oes9, oms9, ol9, oea9, oma9, oec9, omc9⟩, rfl, hob, hoe, hom, hol, hm9, hu9, _⟩ := HM7.out.oto ht
            dsimp only at hob hoe hom hol
            subst hob hoe hom hol
            have HM9 := Lib.hid hm9
            have HA9 := Lib.hid (hu9.obj HA7.out Hw7.out)
            have HS9 := Lib.hid (⟨hm9, HS2.out.jr, HS2.out.ok, HS2.out.el, HS2.out.ml, HS2.out.ll, fun q hq => by obtain rfl := Option.some.inj hq; refine ⟨by simp; omega, by simp; omega, by simp only; omega, by simp only; omega⟩⟩ : S14 w w9 g2 (some _) w4.heap.size M2 ra rn rc rps (k + 1))
            have q0 := obj_cell HM9.out.mat 0
            have q1 := obj_cell HM9.out.mat 1
            have q2 := obj_cell HA9.out 1
            simp at q0 q1 q2
            clear ht hm9 hu9 hpos hpos2
            go_wp2_with (go_at_call 52; refine (isTrue _ _ _ _ _ _ _ _ _ HM9.out.jat HS2.out.ok M2 _ _ _ rps HM9.out.pat HS2.out.jr (by omega) (by omega) hl0 (by omega) cc).mono ?_; rintro e w10 ⟨rfl, hb10⟩; have HS10 := Lib.hid (HS9.out.below hb10); clear hb10)
            go_roundw
            case rel =>
              refine ⟨k + 1, g2, _, M2, ra, rn, rc, rps, by omega, by go_num, rfl, ?_, HS10.out⟩
              rfl
            case measure => simp [intOf]; omega
      · obtain rfl : k = n := by omega
        go_wp2_with fail
        go_ret
        exact ⟨rfl, HS.out.m.bel⟩
  · clear hbl
    go_wp2_with fail
    go_ret
    exact ⟨rfl, B2.out⟩
end Go.Proofs.Ytpbocficffbcbaa
namespace Go.Proofs.Ytpbocficffbcbaa
open Go Go.RowKit Go.ChangeShapes Go.WideShapes

theorem trodAll_stays {H : Type} {enc : TypeId × Value → H} {P : Program} {W W' : World} {sp : Nat → Bool} (hl : laidOutB P = true) (hb : Below W.heap.size W W') :
    ∀ {ts : List TypeId} {vs : List Value} {ds : List (DataW H)} {ps : List MemPlace}, (∀ t ∈ ts, P.readableRec t = true ∧ t < P.types.size) → DataW.TrodAll enc P W 0 (fun _ => true) true ts vs ds ps →
      (∀ p ∈ ps, p.block < W.heap.size) → (∀ p ∈ ps, sp p.block = true) → DataW.TrodAll enc P W' 0 sp true ts vs ds ps
  | [], [], [], _, _, h, _, _ => h
  | [], [], _ :: _, _, _, h, _, _ => h.elim
  | [], _ :: _, _, _, _, h, _, _ => by cases h
  | _ :: _, [], _, _, _, h, _, _ => by cases h
  | _ :: _, _ :: _, [], _, _, h, _, _ => by cases h
  | t :: ts, v :: vs, d :: ds, ps, hr, ⟨p, q, h1, h2, e⟩, hlt, hs => by
    subst e
    refine ⟨p, q, WideElems.Trod_stays hl (hr t (by simp)).1 (hr t (by simp)).2 h1 (fun x hx => hb.same (hlt x (by simp [hx]))) (fun x hx => hs x (by simp [hx])), ?_, rfl⟩
    exact trodAll_stays hl hb (fun t ht => hr t (by simp [ht])) h2 (fun x hx => hlt x (by simp [hx])) (fun x hx => hs x (by simp [hx]))

theorem post_true {H : Type} {enc : TypeId × Value → H} {P : Program} {f : Func} {s : ChangeSpec} {apart fresh handsOn again : Bool} {W W' : World} {args : Array Value} {ds gs : List (DataW H)} {before : List MemPlace} {tb : TypeId}
    (hl : laidOutB P = true) (hrt : f.resultTypes = #[tb]) (htb : P.underlying tb = some .bool) (hreadsB : f.params.toList.all (fun t => P.readableRec t && decide (t < P.types.size)) = true) (hvars : s.vars = [])
    (hspec : s.fn H (ds ++ []) = { results := [.lit (.bool true)], args := ds }) (hW : DataW.Whole enc P f.params.toList s.vars apart W args.toList ds gs before) (hb : Below W.heap.size W W') :
    s.post enc P f apart fresh handsOn again W args (.bool true) W' := by
  have hreads : ∀ t ∈ f.params.toList, P.readableRec t = true ∧ t < P.types.size := fun t ht => by simpa using List.all_eq_true.1 hreadsB t ht
  have hW' := hW
  have hlt := hW.lt
  obtain ⟨p, q, hA, hV, rfl, hfz, hnd⟩ := hW
  rw [hvars] at hV
  cases gs with
  | cons _ _ => exact hV.elim
  | nil =>
    obtain rfl : q = [] := hV
    have hres : ∀ (b : Nat) (sp : Nat → Bool) (hd : Bool), DataW.TrodAll enc P W' b sp hd f.resultTypes.toList ((Value.bool true).resultList f.resultTypes.size) (s.fn H (ds ++ [])).results [] := by
      intro b sp hd
      rw [hspec, hrt]
      exact trodAll_mk1 (shut_bool htb true)
    have hargs : ∀ sp : Nat → Bool, (∀ x ∈ p, sp x.block = true) → DataW.TrodAll enc P W' 0 sp true f.params.toList args.toList (s.fn H (ds ++ [])).args p := by
      intro sp hs
      rw [hspec]
      exact trodAll_stays hl hb hreads hA (fun x hx => hlt x (by simp [hx])) hs
    have hvv : ∀ sp : Nat → Bool, DataW.TrodVars enc P W' sp s.vars (s.fn H (ds ++ [])).vars [] := by
      intro sp
      rw [hspec, hvars]
      rfl
    refine ⟨ds, [], _, [], p, [], hW', hres _ _ _, hargs _ (fun x hx => by simpa using hlt x (by simp [hx])), hvv _, hb.frame _, fun _ => ⟨?_, _, _, ([] ++ p) ++ [], ⟨[] ++ p, [], trodAll_append (hargs _ (fun _ _ => rfl)) (hres _ _ _), hvv _, rfl, ?_, ?_⟩, ?_⟩⟩
    · exact ok_one hrt rfl (okWide_bool_mk htb true)
    · intro b off hp
      rw [hb.frozen (p := ⟨b, off, none⟩) (hlt _ hp)]
      exact hfz b off hp
    · exact hnd
    · intro x hx _
      exact hx
end Go.Proofs.Ytpbocficffbcbaa
namespace Go.Proofs.Ytpbocficffbcbaa
open Go Go.RowKit Go.ChangeShapes Go.WideShapes
set_option linter.unusedVariables false

namespace LawJPlays
theorem own : ownKnob Try.prog.godebug = none := by kernel_rfl
set_option maxRecDepth 100000 in
theorem lifted (os : Os) (started : os.Started) (H : Type) (enc : TypeId × Value → H) :
    ReturnsInHanded {} Try.checked os 8 .any (Rows.journalPlaysSpec.pre6 enc Try.prog Try.f8 Rows.journalPlaysRow.domain false) (Rows.journalPlaysSpec.post enc Try.prog Try.f8 false true false false) := by
  refine returnsInHanded_of_change (C := Try.checked) own started (by kernel_rfl) Try.func8
    (ChangeSpec.witness6 (enc := enc) (C := Try.checked) false ⟨#[], #[.slice none 0 0], []⟩ 8 (by kernel_rfl) (by kernel_rfl) (by kernel_rfl) (by kernel_rfl)) ?_
  intro W base args ds gs before hval0 hW hcnd _
  have hval : ∀ (j : Nat) t v, Try.f8.params[j]? = some t → args[j]? = some v → Value.okWide Try.prog W .any base t v := hval0
  have hW' := hW
  have hlt := hW.lt
  obtain ⟨p, q, hA0, hV, rfl, hfz, hnd⟩ := hW
  have hA : DataW.TrodAll enc Try.prog W 0 (fun _ => true) true Try.f8.params.toList args.toList ds p := hA0
  rw [Try.params8] at hA hval
  obtain ⟨v0, vs0, d0, ds0, p0, q0, hargs, rfl, rfl, h0, r0⟩ := trodAll_cons hA
  obtain ⟨rfl, rfl, rfl⟩ := trodAll_nil r0
  obtain rfl : args = #[v0] := by cases args; simp_all
  obtain ⟨rfl, rfl⟩ := trodVars_none hV
  obtain ⟨fuel0, hf0⟩ := h0
  obtain ⟨a0, n0, c0, rs, hcs0, hs0, hl0, hev⟩ := open_acts hf0
  obtain ⟨s00, s01, s02, rfl⟩ := okWide_slice Try.underlying52 (hval 0 52 v0 rfl rfl)
  simp only [Value.cells, List.cons.injEq, Value.slice.injEq, and_true] at hcs0
  obtain ⟨rfl, rfl, rfl⟩ := hcs0
  refine (journalPlays W _ _ _ rs hs0 hev).mono fun e W' ⟨he, hb⟩ => ?_
  subst he
  exact ⟨_, rfl, post_true (by kernel_rfl) rfl Try.underlying4 (by kernel_rfl) rfl rfl hW' hb⟩

theorem proved : Rows.JournalPlaysSaid :=
  OpenClaim.holds_of_wide 8 Try.f8 rfl rfl rfl rfl rfl rfl rfl ⟨rfl, rfl, rfl, rfl, rfl⟩ rfl rfl rfl rfl rfl (by kernel_rfl) Try.func8 (by kernel_rfl)
    (of_decide_eq_true (by kernel_rfl)) (by unfold Func.isWrapper; first | (rw [if_pos (by decide +kernel)]; kernel_rfl) | (rw [if_neg (by decide +kernel)]; exact ⟨rfl, rfl⟩))
    (fun os started H enc _ => lifted os started H enc)
end LawJPlays
end Go.Proofs.Ytpbocficffbcbaa
