import Derived.Test.YtpbocficffbcbaaEvB
import Derived.Laws.BytesString
namespace Go.Proofs.Ytpbocficffbcbaa
open Go Go.RowKit
set_option linter.unusedVariables false

/-- Bytes as a string. -/
def bstr (l : List Int) : ByteArray := l.foldl (fun r n => r.push (UInt8.ofNat n.toNat)) ByteArray.empty
theorem convB (w : World) (a : Option Addr) (n cap : Nat) (l : List Int) (h : SlAt w 1 a n cap (l.map (.int .u8))) (src : TypeId) (hs : src = 92) :
    (convert src 9 (.slice a n cap)).run Try.prog w = .ok (.string (bstr l)) w := by
  subst hs
  rw [run_convert_bytes_string w _ _ 5 a n cap Try.underlying92 (by kernel_rfl) (by kernel_rfl)]
  have hl : l.length = n := by simpa using h.len
  rcases h.form with ⟨rfl, rfl, rfl, hnil⟩ | ⟨ad, rfl⟩
  · obtain rfl : l = [] := List.eq_nil_of_length_eq_zero hl
    rfl
  · refine run_bytesToString w ad n cap l ?_
    have := run_loadCells_list (P := Try.prog) w ad (l.map (.int .u8)) h.news
    rw [List.length_map, hl] at this
    exact this

set_option maxHeartbeats 400000 in
/-- The same bytes are the same. -/
theorem numBytes (w : World) (a b : Option Addr) (n m ca cb : Nat) (l : List Int) (ha : SlAt w 1 a n ca (l.map (.int .u8))) (hb : SlAt w 1 b m cb (l.map (.int .u8))) :
    Calls Try.prog 67 #[.slice a n ca, .slice b m cb] w (fun x w' => x = .returned (.bool true) ∧ w = w') := by
  have h1 := convB w a n ca l ha _ rfl
  have h2 := convB w b m cb l hb _ rfl
  generalize bstr l = s at *
  clear ha hb
  go_enter Try.func67, Try.ntmps67
  go_wp2
  go_ret
  exact ⟨by simp, rfl⟩
end Go.Proofs.Ytpbocficffbcbaa
