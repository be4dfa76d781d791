import Derived.Test.YtpbocficffbcbaaPut3
import Derived.Laws.BitsAllLaws
namespace Go.Proofs.Ytpbocficffbcbaa
open Go Go.RowKit
set_option linter.unusedVariables false

/-- The number that x stands for. -/
def zagI (x : Nat) : Int := if x % 2 = 0 then ((x / 2 : Nat) : Int) else -((x / 2 : Nat) : Int) - 1
theorem xor_i64_0 (m : Nat) (h : m < 9223372036854775808) : bits .xor .i64 (m : Int) 0 = m := by
  show IntKind.i64.wrap ((BitVec.ofInt 64 (m : Int) ^^^ BitVec.ofInt 64 0).toNat : Int) = _
  rw [BitVec.toNat_xor, BitVec.ofInt_natCast, BitVec.toNat_ofNat, Nat.mod_eq_of_lt (by omega)]
  simp only [BitVec.ofInt_ofNat, BitVec.toNat_zero, Nat.xor_zero]
  simp [IntKind.wrap, IntKind.bits, IntKind.signed]
  omega
theorem xor_i64_1 (m : Nat) (h : m < 9223372036854775808) : bits .xor .i64 (m : Int) (-1) = -(m : Int) - 1 := by
  show IntKind.i64.wrap ((BitVec.ofInt 64 (m : Int) ^^^ BitVec.ofInt 64 (-1)).toNat : Int) = _
  rw [BitVec.toNat_xor, BitVec.ofInt_natCast, BitVec.toNat_ofNat, Nat.mod_eq_of_lt (by omega)]
  rw [show (BitVec.ofInt 64 (-1)).toNat = 18446744073709551615 from by decide, xor_ones _ (by omega)]
  simp [IntKind.wrap, IntKind.bits, IntKind.signed]
  omega
set_option maxHeartbeats 400000 in
theorem zag (w : World) (n : Nat) (h : n < 18446744073709551616) : Calls Try.prog 123 #[.int .u64 n] w (fun x w' => x = .returned (.int .i64 (zagI n)) ∧ w = w') := by
  have hu : bits .and .u64 (n : Int) 1 = ((n % 2 : Nat) : Int) := by
    have := u64_and_nat n 1 h (by decide)
    rw [Nat.and_one_is_mod] at this
    exact this
  by_cases hm : n % 2 = 0
  · rw [hm] at hu
    have hx := xor_i64_0 (n / 2) (by omega)
    have hz : zagI n = ((n / 2 : Nat) : Int) := by unfold zagI; rw [if_pos hm]
    rw [hz]
    go_enter Try.func123, Try.ntmps123
    go_wp2
    go_ret
    exact ⟨by push_cast at hx; simp [hx], rfl⟩
  · have hm1 : n % 2 = 1 := by omega
    rw [hm1] at hu
    have hx := xor_i64_1 (n / 2) (by omega)
    have hz : zagI n = -((n / 2 : Nat) : Int) - 1 := by unfold zagI; rw [if_neg hm]
    rw [hz]
    go_enter Try.func123, Try.ntmps123
    go_wp2
    go_ret
    exact ⟨by push_cast at hx; simp [hx], rfl⟩

/-- What is taken of bytes, x of i bytes being told: the number, how many bytes it has, the error. -/
def takeS : List Int → Nat → Nat → Int × Nat × Int
  | [], _, _ => (0, 0, 7)
  | c :: l, i, x =>
    if 10 ≤ i then (0, 0, 7) else if i = 9 ∧ 1 < c then (0, 0, 2) else if 128 ≤ c then takeS l (i + 1) (x + (c % 128).toNat * 2 ^ (7 * i)) else if c = 0 ∧ 0 < i then (0, 0, 2) else (zagI (x + (c % 128).toNat * 2 ^ (7 * i)), i + 1, 0)
theorem takeS_or (x c i : Nat) (hx : x < 2 ^ (7 * i)) (hc : c < 128) (hi : i < 9 ∨ (i = 9 ∧ c ≤ 1)) : x + c * 2 ^ (7 * i) < 18446744073709551616 ∧ c * 2 ^ (7 * i) < 18446744073709551616 ∧ x ||| (c * 2 ^ (7 * i)) = x + c * 2 ^ (7 * i) := by
  have hor : x ||| (c * 2 ^ (7 * i)) = x + c * 2 ^ (7 * i) := by
    rw [Nat.or_comm, Nat.mul_comm c, ← Nat.two_pow_add_eq_or_of_lt hx, Nat.add_comm]
  refine ⟨?_, ?_, hor⟩
  · rcases hi with hi | ⟨rfl, hc1⟩
    · have h1 : 2 ^ (7 * i) ≤ 2 ^ 56 := Nat.pow_le_pow_right (by decide) (by omega)
      have h2 := Nat.mul_le_mul (show c ≤ 127 by omega) h1
      omega
    · have := Nat.mul_le_mul_right (2 ^ 63) hc1
      omega
  · rcases hi with hi | ⟨rfl, hc1⟩
    · have h1 : 2 ^ (7 * i) ≤ 2 ^ 56 := Nat.pow_le_pow_right (by decide) (by omega)
      have h2 := Nat.mul_le_mul (show c ≤ 127 by omega) h1
      omega
    · have := Nat.mul_le_mul_right (2 ^ 63) hc1
      omega

theorem bytes_u8_andNot (c : Nat) (h : c < 256) : bits .andNot .u8 (c : Int) 128 = ((c % 128 : Nat) : Int) := by
  have := u8_andNot_nat c 128 h (by decide)
  rw [show (255 - 128 : Nat) = 2 ^ 7 - 1 by decide, Nat.and_two_pow_sub_one_eq_mod] at this
  exact this
set_option maxRecDepth 100000 in
theorem bytes_u8_and : ∀ c : Fin 256, (bits .and .u8 (c.val : Int) 128 != 0) = decide (128 ≤ c.val) := by decide

/-- Behind wire.Take. -/
def TakeTo (w : World) (l : List Int) (r : Int × Nat × Int) (x : Ending) (w' : World) : Prop :=
  (r.2.2 ≠ 0 ∧ x = .returned (.tuple #[.int .i64 0, .slice none 0 0, errV 32 r.2.2]) ∧ Below w.heap.size w w') ∨
  (r.2.2 = 0 ∧ ∃ a c, x = .returned (.tuple #[.int .i64 r.1, .slice a (l.drop r.2.1).length c, errV 32 0]) ∧ SlAt w' 1 a (l.drop r.2.1).length c ((l.drop r.2.1).map (.int .u8)) ∧ Fresh w.heap.size a ∧ Below w.heap.size w w')

set_option maxRecDepth 100000 in
set_option maxHeartbeats 6400000 in
theorem wireTake (w : World) (a : Option Addr) (n cap : Nat) (l : List Int) (h : SlAt w 1 a n cap (l.map (.int .u8))) (hb : ∀ c ∈ l, 0 ≤ c ∧ c < 256) (hn : n ≤ 1000) (r : Int × Nat × Int) (hr : r = takeS l 0 0) :
    Calls Try.prog 106 #[.slice a n cap] w (TakeTo w l r) := by
  have hl : l.length = n := by simpa using h.len
  have hle := h.le
  have hmax := h.max
  have Hr := Lib.hid hr
  have Hl := Lib.hid hl
  have Hb := Lib.hid hb
  have Hh := Lib.hid h
  clear hr hl hb
  rcases Nat.eq_zero_or_pos n with h0 | h0
  · subst h0
    obtain rfl : l = [] := List.eq_nil_of_length_eq_zero Hl.out
    have hr7 : r = (0, 0, 7) := Hr.out
    subst hr7
    rcases h.form with ⟨rfl, _, rfl, _⟩ | ⟨ad, rfl⟩
    · clear h
      go_enter Try.func106, Try.ntmps106
      go_wp2_with fail
      go_loopw [14] (fun i wr => i = .int .i64 0 ∧ wr = w) (fun _ _ => 0)
      case atStart => exact ⟨rfl, rfl⟩
      case round =>
        obtain ⟨rfl, rfl⟩ := hrel
        go_wp2_with fail
        exact bodyPost_ret (v := .tuple #[.int .i64 0, .slice none 0 0, errV 32 7]) (by simp [results, Try.results106, go_sem]; rfl) rfl (.inl ⟨by decide, rfl, Below.refl _ _⟩)
    · clear h
      go_enter Try.func106, Try.ntmps106
      go_wp2_with fail
      go_loopw [14] (fun i wr => i = .int .i64 0 ∧ wr = w) (fun _ _ => 0)
      case atStart => exact ⟨rfl, rfl⟩
      case round =>
        obtain ⟨rfl, rfl⟩ := hrel
        go_wp2_with fail
        exact bodyPost_ret (v := .tuple #[.int .i64 0, .slice none 0 0, errV 32 7]) (by simp [results, Try.results106, go_sem]; rfl) rfl (.inl ⟨by decide, rfl, Below.refl _ _⟩)
  · obtain ⟨b, off, rfl, hbl, hc⟩ := h.nonempty h0
    have Hc := Lib.hid hc
    clear h hc
    go_enter Try.func106, Try.ntmps106
    go_wp2_with fail
    all_goals
      go_loopw [14, 5] (fun i x wr => ∃ (k X : Nat), k ≤ n ∧ k ≤ 9 ∧ i = .int .i64 k ∧ x = .int .u64 X ∧ wr = w ∧ X < 2 ^ (7 * k) ∧ takeS (l.drop k) k X = r) (fun i _ _ => 10 - (intOf i).toNat)
      case atStart => exact ⟨0, 0, by omega, by omega, rfl, rfl, rfl, by decide, Hr.out.symm⟩
      case round =>
        obtain ⟨k, X, hkn, hk9, rfl, rfl, rfl, hX, hrel⟩ := hrel
        by_cases hlt : k < n
        · have hlk : k < l.length := by rw [Hl.out]; exact hlt
          obtain ⟨hc0, hc1⟩ := Hb.out _ (List.getElem_mem hlk)
          obtain ⟨c, hce⟩ : ∃ c : Nat, l[k] = (c : Int) := ⟨l[k].toNat, by omega⟩
          have hcell := Hc.out k (.int .u8 c) (by rw [List.getElem?_map, List.getElem?_eq_getElem hlk, hce]; rfl)
          rw [List.drop_eq_getElem_cons hlk, hce] at hrel
          rw [hce] at hc0 hc1
          have hc256 : c < 256 := by omega
          have han := bytes_u8_andNot c hc256
          have hand := bytes_u8_and ⟨c, hc256⟩
          simp only at hand
          have bad2 : r = (0, 0, 2) → ∀ x w', x = .returned (.tuple #[.int .i64 0, .slice none 0 0, errV 32 2]) → w' = wr → TakeTo wr l r x w' := fun hr2 x w' hx hw' => by
            subst hr2 hx hw'
            exact .inl ⟨by decide, rfl, Below.refl _ _⟩
          have Hbad := Lib.hid bad2
          clear bad2
          simp only [takeS] at hrel
          rw [if_neg (by omega), show ((c : Int) % 128).toNat = c % 128 by omega] at hrel
          by_cases hA : k = 9 ∧ 1 < c
          · rw [if_pos (by omega)] at hrel
            obtain ⟨rfl, hA2⟩ := hA
            have Hrel := Lib.hid hrel
            clear hrel hX hce
            go_wp2_with fail
            exact bodyPost_ret (v := .tuple #[.int .i64 0, .slice none 0 0, errV 32 2]) (by simp [results, Try.results106, go_sem]; rfl) rfl (Hbad.out Hrel.out.symm _ _ rfl rfl)
          · rw [if_neg (by omega)] at hrel
            obtain ⟨hy1, hy2, hy3⟩ := takeS_or X (c % 128) k hX (Nat.mod_lt _ (by decide)) (by omega)
            have hwr : IntKind.u64.wrap ((c : Int) % 128 * 2 ^ (k * 7)) = ((c % 128 * 2 ^ (7 * k) : Nat) : Int) := by
              rw [show ((c : Int) % 128 * 2 ^ (k * 7)) = ((c % 128 * 2 ^ (7 * k) : Nat) : Int) by push_cast; rw [Nat.mul_comm k 7]]
              simp only [IntKind.wrap_u64]
              omega
            have hor : bits .or .u64 (X : Int) (IntKind.u64.wrap ((c : Int) % 128 * 2 ^ (k * 7))) = ((X + c % 128 * 2 ^ (7 * k) : Nat) : Int) := by
              rw [hwr, u64_or_nat _ _ (by omega) hy2, hy3]
            have hk9' : k = 9 → c ≤ 1 := fun h => by omega
            clear hwr hy3
            by_cases hB : 128 ≤ c
            · rw [if_pos (by omega)] at hrel
              have hx2 : X + c % 128 * 2 ^ (7 * k) < 2 ^ (7 * (k + 1)) := by
                rw [Nat.mul_add, Nat.pow_add]
                have : c % 128 * 2 ^ (7 * k) ≤ 127 * 2 ^ (7 * k) := Nat.mul_le_mul_right _ (by omega)
                omega
              generalize X + c % 128 * 2 ^ (7 * k) = Y at *
              have Hrel := Lib.hid hrel
              have Hx2 := Lib.hid hx2
              have hdt : decide (128 ≤ c) = true := by simp [hB]
              rw [hdt] at hand
              clear hrel hX hce hx2
              go_wp2_with fail
              all_goals first
                | (exfalso; omega)
                | (go_roundw
                   case rel => exact ⟨k + 1, Y, by omega, by omega, by go_num, by trivial, by trivial, Hx2.out, Hrel.out⟩
                   case measure => simp [intOf]; omega)
            · rw [if_neg (by omega)] at hrel
              have hdf : decide (128 ≤ c) = false := by simp [hB]
              rw [hdf] at hand
              generalize X + c % 128 * 2 ^ (7 * k) = Y at *
              by_cases hC : c = 0 ∧ 0 < k
              · rw [if_pos (by omega)] at hrel
                obtain ⟨rfl, hC2⟩ := hC
                have Hrel := Lib.hid hrel
                clear hrel hX hce
                go_wp2_with fail
                all_goals first
                  | (exfalso; omega)
                  | exact bodyPost_ret (v := .tuple #[.int .i64 0, .slice none 0 0, errV 32 2]) (by simp [results, Try.results106, go_sem]; rfl) rfl (Hbad.out Hrel.out.symm _ _ rfl rfl)
              · rw [if_neg (by omega)] at hrel
                have Hrel := Lib.hid hrel
                clear hrel hX hce
                have hsub : SlAt wr 1 (some ⟨b, off + (k + 1), none⟩) (l.drop (k + 1)).length (cap - (k + 1)) ((l.drop (k + 1)).map (.int .u8)) := ⟨by simp, by rw [List.length_drop, Hl.out]; omega, by omega, by simp, (fun u hu => by obtain ⟨z, _, rfl⟩ := List.mem_map.1 hu; rfl), fun ad he _ => by
                  obtain rfl := Option.some.inj he
                  exact ⟨rfl, hbl, fun j u hu => by
                    have := Hc.out (k + 1 + j) u (by rw [List.map_drop, List.getElem?_drop] at hu; exact hu)
                    rw [show off + (k + 1) + j = off + (k + 1 + j) by omega]
                    exact this⟩⟩
                have hsl : (l.drop (k + 1)).length = n - (k + 1) := by rw [List.length_drop, Hl.out]
                have Hsub := Lib.hid hsub
                have Hsl := Lib.hid hsl
                have Hy := Lib.hid hy1
                clear hsub hsl hy1
                obtain ⟨p, hp⟩ : ∃ p : Nat, p = k + 1 := ⟨_, rfl⟩
                have hw : IntKind.i64.wrap ((k : Int) + 1) = (p : Int) := by rw [hp]; simp [IntKind.wrap, IntKind.signed, IntKind.bits]; omega
                have hi1 : (0 : Int) ≤ (p : Int) := by omega
                have hi2 : (p : Int) ≤ n := by omega
                have hi4 : (p : Int) ≤ cap := by omega
                rw [← hp] at Hsub Hsl
                have hw10 : (k : Int) = 9 → IntKind.i64.wrap 10 = (p : Int) := fun h => by rw [← hw, h]; rfl
                obtain ⟨sa, hsa⟩ : ∃ sa, (if cap = p then some (⟨b, off, none⟩ : Addr) else some ⟨b, off + p, none⟩) = sa := ⟨_, rfl⟩
                have hsub2 : SlAt wr 1 sa (l.drop p).length (cap - p) ((l.drop p).map (.int .u8)) := by
                  rw [← hsa]
                  by_cases hcp : cap = p
                  · rw [if_pos hcp]
                    have h := Hsub.out
                    have : (l.drop p).length = 0 := by rw [Hsl.out]; omega
                    exact ⟨h.len, h.le, h.max, by simp, h.one, fun ad he hn => by omega⟩
                  · rw [if_neg hcp]
                    exact Hsub.out
                have Hsub2 := Lib.hid hsub2
                clear hsub2 Hsub
                have Hp := Lib.hid hp
                clear hp
                go_wp2_with fail
                all_goals first
                  | (exfalso; omega)
                  | skip
                all_goals
                  clear hor hy2 han hand hA hk9' hcell
                  have hx : Below wr.heap.size wr wr.drew := (Below.refl _ _).drew
                  refine wp_region_held_drew (S := fun x => Below wr.heap.size wr x) (by kernel_rfl) hx (fun hHeld => ?_)
                  refine wpAnyH_take (i := 0) (oi := ⟨some 48, _, _, _, _, _⟩) (v := ?_) rfl (by kernel_rfl) (by kernel_rfl) (by kernel_rfl) (fun _ _ _ h => h) (Or.inl ⟨by rfl, ?_⟩) hHeld ?_
                  rotate_left
                  · intro w' hS'
                    (try dsimp only at hS')
                    go_simp
                    try with_reducible rfl
                  try simp only [Act.put, List.setIfInBounds_toArray, List.set_cons_zero, List.set_cons_succ]
                  refine wpAnyH_take (i := 2) (oi := ⟨some 50, _, _, _, _, _⟩) (v := ?_) rfl (by kernel_rfl) (by kernel_rfl) (by kernel_rfl) (fun _ _ _ h => h) (Or.inl ⟨by rfl, ?_⟩) hHeld ?_
                  rotate_left
                  · intro w' hS'
                    (try dsimp only at hS')
                    go_simp
                    try with_reducible rfl
                  try simp only [Act.put, List.setIfInBounds_toArray, List.set_cons_zero, List.set_cons_succ]
                  refine wpAnyH_take (i := 3) (oi := ⟨some 51, _, _, _, _, _⟩) (v := ?_) rfl (by kernel_rfl) (by kernel_rfl) (by kernel_rfl) (fun _ _ _ h => h) (Or.inl ⟨by rfl, ?_⟩) hHeld ?_
                  rotate_left
                  · intro w' hS'
                    (try dsimp only at hS')
                    go_simp
                    try with_reducible rfl
                  try simp only [Act.put, List.setIfInBounds_toArray, List.set_cons_zero, List.set_cons_succ]
                  refine wpAnyH_take (i := 4) (oi := ⟨some 52, _, _, _, _, _⟩) (v := ?_) rfl (by kernel_rfl) (by kernel_rfl) (by kernel_rfl) (fun _ _ _ h => h) (Or.inl ⟨by rfl, ?_⟩) hHeld ?_
                  rotate_left
                  · intro w' hS'
                    (try dsimp only at hS')
                    go_simp
                    try with_reducible rfl
                  try simp only [Act.put, List.setIfInBounds_toArray, List.set_cons_zero, List.set_cons_succ]
                  refine wpAnyH_take (i := 5) (oi := ⟨some 53, _, _, _, _, _⟩) (v := ?_) rfl (by kernel_rfl) (by kernel_rfl) (by kernel_rfl) (fun _ _ _ h => h) (Or.inl ⟨by rfl, ?_⟩) hHeld ?_
                  rotate_left
                  · intro w' hS'
                    (try dsimp only at hS')
                    go_simp
                    try with_reducible rfl
                  try simp only [Act.put, List.setIfInBounds_toArray, List.set_cons_zero, List.set_cons_succ]
                  refine wpAnyH_all (rs := [1]) (by kernel_rfl) (by simp) ?_
                  intro ix hix
                  obtain rfl : ix = 1 := by simpa using hix
                  clear hix
                  refine wpOp_step (o := ⟨some 49, _, _, _, _, _⟩) rfl (fun K hK => ?_)
                  have HK := Lib.hid hK
                  clear hK
                  go_simp
                  refine (zag _ Y Hy.out).mono ?_
                  rintro x w2 ⟨rfl, rfl⟩
                  go_wp2_with fail
                  refine HK.out _ _ ⟨hx, ?_⟩
                  clear HK hHeld
                  have hHeld := hx
                  try simp only [Act.put, List.setIfInBounds_toArray, List.set_cons_zero, List.set_cons_succ]
                  refine wpAnyH_all (rs := [6]) (by kernel_rfl) (by simp) ?_
                  intro ix hix
                  obtain rfl : ix = 6 := by simpa using hix
                  clear hix
                  refine wpOp_step (o := ⟨some 54, _, _, _, _, _⟩) rfl (fun K hK => ?_)
                  have HK := Lib.hid hK
                  clear hK
                  go_simp
                  refine (cloneBytes _ _ _ _ _ (by rw [← Hsl.out]; exact (Hsub2.out.drew)) (by omega)).mono ?_
                  rintro x w2 ⟨a2, c2, rfl, hr2, hf2, hb2, hn2⟩
                  replace hx := undrew hb2
                  go_wp2_with fail
                  refine HK.out _ _ ⟨hx, ?_⟩
                  clear HK hHeld
                  have hHeld := hx
                  try simp only [Act.put, List.setIfInBounds_toArray, List.set_cons_zero, List.set_cons_succ]
                  refine wpAnyH_take (i := 7) (oi := ⟨some 2, _, _, _, _, _⟩) (v := ?_) rfl (by kernel_rfl) (by kernel_rfl) (by kernel_rfl) (fun _ _ _ h => h) (Or.inl ⟨by rfl, ?_⟩) hHeld ?_
                  rotate_left
                  · intro w' hS'
                    (try dsimp only at hS')
                    go_simp
                    try with_reducible rfl
                  try simp only [Act.put, List.setIfInBounds_toArray, List.set_cons_zero, List.set_cons_succ]
                  refine wpAnyH_take (i := 8) (oi := ⟨some 3, _, _, _, _, _⟩) (v := ?_) rfl (by kernel_rfl) (by kernel_rfl) (by kernel_rfl) (fun _ _ _ h => h) (Or.inl ⟨by rfl, ?_⟩) hHeld ?_
                  rotate_left
                  · intro w' hS'
                    (try dsimp only at hS')
                    go_simp
                    try with_reducible rfl
                  try simp only [Act.put, List.setIfInBounds_toArray, List.set_cons_zero, List.set_cons_succ]
                  refine wpAnyH_take (i := 9) (oi := ⟨some 4, _, _, _, _, _⟩) (v := ?_) rfl (by kernel_rfl) (by kernel_rfl) (by kernel_rfl) (fun _ _ _ h => h) (Or.inl ⟨by rfl, ?_⟩) hHeld ?_
                  rotate_left
                  · intro w' hS'
                    (try dsimp only at hS')
                    go_simp
                    try with_reducible rfl
                  try simp only [Act.put, List.setIfInBounds_toArray, List.set_cons_zero, List.set_cons_succ]
                  refine wpAnyH_done (by kernel_rfl) ?_ _
                  go_wp2_with fail
                  have hrr := Hrel.out
                  rw [← Hp.out] at hrr
                  subst hrr
                  rw [← Hsl.out] at hr2
                  exact bodyPost_ret (v := .tuple #[.int .i64 (zagI Y), .slice a2 (n - p) c2, errV 32 0]) (by simp [results, Try.results106, go_sem]; rfl) rfl (.inr ⟨rfl, a2, c2, by rw [Hsl.out], hr2.sl, hf2, hx⟩)
        · have hkn2 : k = n := by omega
          subst hkn2
          rw [List.drop_eq_nil_of_le (by rw [Hl.out]; exact Nat.le_refl _)] at hrel
          have hr7 : r = (0, 0, 7) := hrel.symm
          subst hr7
          clear hrel hX
          first
            | omega
            | (go_wp2_with fail
               exact bodyPost_ret (v := .tuple #[.int .i64 0, .slice none 0 0, errV 32 7]) (by simp [results, Try.results106, go_sem]; rfl) rfl (.inl ⟨by decide, rfl, Below.refl _ _⟩))
end Go.Proofs.Ytpbocficffbcbaa
