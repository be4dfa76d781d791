/-
  No cell of these rows narrows 'for every input' (looked for: loops, veiled, ifaces, maps, wideKeys, modest, calm, conditions, laid).
  DERIVED. THE GIVEN ROWS OF THIS SEAT. 14 by the template 'for every input the law returns true; each argument reads behind the call as it read before'; 0 by the template 'total and deterministic' (their statements: YtpbocficffbcbaaTotals.lean).
  GIVEN WITH THE SEED: the statements are not yours to turn. If you find one false, say at which input.
  Laid BY PROGRAM, IN A SANDBOX (cutbox-rows.mjs): the forced cells as the released guide's own fill.sh prints them over the translation 18a3f3271daef586… (all of the seat's roots in one cut). By AI agents, Wed Nov 11 2026. No macro, syntax, notation, axiom, sorry.
-/
import Derived.Test.YtpbocficffbcbaaChecked
import GoSem.Claim
import GoSem.ClaimJoined
import GoSem.ClaimMapViews
import Derived.JoinedTies
import Derived.KernelRfl
namespace Go.Proofs.Ytpbocficffbcbaa
/- THE CELL 'sum', in the pinned program and in every row, IS THE sha256 OF THE DUMP (.gsa) THAT YtpbocficffbcbaaProg.lean LOADS. Nothing in Lean hashes anything: it is a label: what it is worth is what the hold of that sum in a sandbox is worth. -/
noncomputable def Try.pinned : Pinned := { name := "ytpbocficffbcbaa", sum := "18a3f3271daef586b78de191092cd260ef7ab7b74259f4c909a51588833e8acc", checked := Try.checked }
namespace Rows
def none {H : Type} : Left H := { results := [], args := [] }

/-- 'mulliganlaw09.ListInserts': WHATEVER THE INPUT: true; the input reads as it did. -/
def listInsertsSpec : ChangeSpec := { name := "listInserts", fn := fun _ => fun
  | [d1, d2, d3] => { results := [.lit (.bool true)], args := [d1, d2, d3] }
  | _ => none }
def listInsertsRow : OpenClaim := { program := "ytpbocficffbcbaa", sum := "18a3f3271daef586b78de191092cd260ef7ab7b74259f4c909a51588833e8acc", func := "mulligan/mulliganlaw09.ListInserts", spec := "listInserts", inPlace := ["slices.overlaps[int]"], plainKeys := false, apart := false }
def ListInsertsSaid : Prop := listInsertsRow.holds Try.pinned (OpenSpec.ofChange listInsertsSpec)

/-- ITS FALSE NEIGHBOUR: 'it returns false'. Refute it at one input. -/
def listInsertsWrong : ChangeSpec := { name := "listInserts", fn := fun _ => fun
  | [d1, d2, d3] => { results := [.lit (.bool false)], args := [d1, d2, d3] }
  | _ => none }
def ListInsertsWrongFalsely : Prop := listInsertsRow.holds Try.pinned (OpenSpec.ofChange listInsertsWrong)

/-- 'mulliganlaw09.ListBack': WHATEVER THE INPUT: true; the input reads as it did. -/
def listBackSpec : ChangeSpec := { name := "listBack", fn := fun _ => fun
  | [d1, d2, d3] => { results := [.lit (.bool true)], args := [d1, d2, d3] }
  | _ => none }
def listBackRow : OpenClaim := { program := "ytpbocficffbcbaa", sum := "18a3f3271daef586b78de191092cd260ef7ab7b74259f4c909a51588833e8acc", func := "mulligan/mulliganlaw09.ListBack", spec := "listBack", inPlace := ["slices.overlaps[int]"], plainKeys := false, apart := false }
def ListBackSaid : Prop := listBackRow.holds Try.pinned (OpenSpec.ofChange listBackSpec)

/-- ITS FALSE NEIGHBOUR: 'it returns false'. Refute it at one input. -/
def listBackWrong : ChangeSpec := { name := "listBack", fn := fun _ => fun
  | [d1, d2, d3] => { results := [.lit (.bool false)], args := [d1, d2, d3] }
  | _ => none }
def ListBackWrongFalsely : Prop := listBackRow.holds Try.pinned (OpenSpec.ofChange listBackWrong)

/-- 'mulliganlaw09.ListMoves': WHATEVER THE INPUT: true; the input reads as it did. -/
def listMovesSpec : ChangeSpec := { name := "listMoves", fn := fun _ => fun
  | [d1, d2, d3] => { results := [.lit (.bool true)], args := [d1, d2, d3] }
  | _ => none }
def listMovesRow : OpenClaim := { program := "ytpbocficffbcbaa", sum := "18a3f3271daef586b78de191092cd260ef7ab7b74259f4c909a51588833e8acc", func := "mulligan/mulliganlaw09.ListMoves", spec := "listMoves", inPlace := ["slices.overlaps[int]"], plainKeys := false, apart := false }
def ListMovesSaid : Prop := listMovesRow.holds Try.pinned (OpenSpec.ofChange listMovesSpec)

/-- ITS FALSE NEIGHBOUR: 'it returns false'. Refute it at one input. -/
def listMovesWrong : ChangeSpec := { name := "listMoves", fn := fun _ => fun
  | [d1, d2, d3] => { results := [.lit (.bool false)], args := [d1, d2, d3] }
  | _ => none }
def ListMovesWrongFalsely : Prop := listMovesRow.holds Try.pinned (OpenSpec.ofChange listMovesWrong)

/-- 'mulliganlaw14.JournalBack': WHATEVER THE INPUT: true; the input reads as it did. -/
def journalBackSpec : ChangeSpec := { name := "journalBack", fn := fun _ => fun
  | [d1, d2, d3] => { results := [.lit (.bool true)], args := [d1, d2, d3] }
  | _ => none }
def journalBackRow : OpenClaim := { program := "ytpbocficffbcbaa", sum := "18a3f3271daef586b78de191092cd260ef7ab7b74259f4c909a51588833e8acc", func := "mulligan/mulliganlaw14.JournalBack", spec := "journalBack", unfollowed := true, recurses := true, plainKeys := false, apart := false }
def JournalBackSaid : Prop := journalBackRow.holds Try.pinned (OpenSpec.ofChange journalBackSpec)

/-- ITS FALSE NEIGHBOUR: 'it returns false'. Refute it at one input. -/
def journalBackWrong : ChangeSpec := { name := "journalBack", fn := fun _ => fun
  | [d1, d2, d3] => { results := [.lit (.bool false)], args := [d1, d2, d3] }
  | _ => none }
def JournalBackWrongFalsely : Prop := journalBackRow.holds Try.pinned (OpenSpec.ofChange journalBackWrong)

/-- 'mulliganlaw14.JournalMarks': WHATEVER THE INPUT: true; the input reads as it did. -/
def journalMarksSpec : ChangeSpec := { name := "journalMarks", fn := fun _ => fun
  | [d] => { results := [.lit (.bool true)], args := [d] }
  | _ => none }
def journalMarksRow : OpenClaim := { program := "ytpbocficffbcbaa", sum := "18a3f3271daef586b78de191092cd260ef7ab7b74259f4c909a51588833e8acc", func := "mulligan/mulliganlaw14.JournalMarks", spec := "journalMarks", unfollowed := true, recurses := true, plainKeys := false, apart := false }
def JournalMarksSaid : Prop := journalMarksRow.holds Try.pinned (OpenSpec.ofChange journalMarksSpec)

/-- ITS FALSE NEIGHBOUR: 'it returns false'. Refute it at one input. -/
def journalMarksWrong : ChangeSpec := { name := "journalMarks", fn := fun _ => fun
  | [d] => { results := [.lit (.bool false)], args := [d] }
  | _ => none }
def JournalMarksWrongFalsely : Prop := journalMarksRow.holds Try.pinned (OpenSpec.ofChange journalMarksWrong)

/-- 'mulliganlaw14.JournalPlays': WHATEVER THE INPUT: true; the input reads as it did. -/
def journalPlaysSpec : ChangeSpec := { name := "journalPlays", fn := fun _ => fun
  | [d] => { results := [.lit (.bool true)], args := [d] }
  | _ => none }
def journalPlaysRow : OpenClaim := { program := "ytpbocficffbcbaa", sum := "18a3f3271daef586b78de191092cd260ef7ab7b74259f4c909a51588833e8acc", func := "mulligan/mulliganlaw14.JournalPlays", spec := "journalPlays", unfollowed := true, recurses := true, plainKeys := false, apart := false }
def JournalPlaysSaid : Prop := journalPlaysRow.holds Try.pinned (OpenSpec.ofChange journalPlaysSpec)

/-- ITS FALSE NEIGHBOUR: 'it returns false'. Refute it at one input. -/
def journalPlaysWrong : ChangeSpec := { name := "journalPlays", fn := fun _ => fun
  | [d] => { results := [.lit (.bool false)], args := [d] }
  | _ => none }
def JournalPlaysWrongFalsely : Prop := journalPlaysRow.holds Try.pinned (OpenSpec.ofChange journalPlaysWrong)

/-- 'mulliganlaw14.JournalNil': WHATEVER THE INPUT: true; the input reads as it did. -/
def journalNilSpec : ChangeSpec := { name := "journalNil", fn := fun _ => fun
  | [d1, d2] => { results := [.lit (.bool true)], args := [d1, d2] }
  | _ => none }
def journalNilRow : OpenClaim := { program := "ytpbocficffbcbaa", sum := "18a3f3271daef586b78de191092cd260ef7ab7b74259f4c909a51588833e8acc", func := "mulligan/mulliganlaw14.JournalNil", spec := "journalNil", unfollowed := true, recurses := true, plainKeys := false, apart := false }
def JournalNilSaid : Prop := journalNilRow.holds Try.pinned (OpenSpec.ofChange journalNilSpec)

/-- ITS FALSE NEIGHBOUR: 'it returns false'. Refute it at one input. -/
def journalNilWrong : ChangeSpec := { name := "journalNil", fn := fun _ => fun
  | [d1, d2] => { results := [.lit (.bool false)], args := [d1, d2] }
  | _ => none }
def JournalNilWrongFalsely : Prop := journalNilRow.holds Try.pinned (OpenSpec.ofChange journalNilWrong)

/-- 'mulliganlaw12.EventApplies': WHATEVER THE INPUT: true; the input reads as it did. -/
def eventAppliesSpec : ChangeSpec := { name := "eventApplies", fn := fun _ => fun
  | [d1, d2] => { results := [.lit (.bool true)], args := [d1, d2] }
  | _ => none }
def eventAppliesRow : OpenClaim := { program := "ytpbocficffbcbaa", sum := "18a3f3271daef586b78de191092cd260ef7ab7b74259f4c909a51588833e8acc", func := "mulligan/mulliganlaw12.EventApplies", spec := "eventApplies", inPlace := ["slices.overlaps[int]"], plainKeys := false, apart := false }
def EventAppliesSaid : Prop := eventAppliesRow.holds Try.pinned (OpenSpec.ofChange eventAppliesSpec)

/-- ITS FALSE NEIGHBOUR: 'it returns false'. Refute it at one input. -/
def eventAppliesWrong : ChangeSpec := { name := "eventApplies", fn := fun _ => fun
  | [d1, d2] => { results := [.lit (.bool false)], args := [d1, d2] }
  | _ => none }
def EventAppliesWrongFalsely : Prop := eventAppliesRow.holds Try.pinned (OpenSpec.ofChange eventAppliesWrong)

/-- 'mulliganlaw12.EventInverts': WHATEVER THE INPUT: true; the input reads as it did. -/
def eventInvertsSpec : ChangeSpec := { name := "eventInverts", fn := fun _ => fun
  | [d] => { results := [.lit (.bool true)], args := [d] }
  | _ => none }
def eventInvertsRow : OpenClaim := { program := "ytpbocficffbcbaa", sum := "18a3f3271daef586b78de191092cd260ef7ab7b74259f4c909a51588833e8acc", func := "mulligan/mulliganlaw12.EventInverts", spec := "eventInverts", inPlace := ["slices.overlaps[int]"], plainKeys := false, apart := false }
def EventInvertsSaid : Prop := eventInvertsRow.holds Try.pinned (OpenSpec.ofChange eventInvertsSpec)

/-- ITS FALSE NEIGHBOUR: 'it returns false'. Refute it at one input. -/
def eventInvertsWrong : ChangeSpec := { name := "eventInverts", fn := fun _ => fun
  | [d] => { results := [.lit (.bool false)], args := [d] }
  | _ => none }
def EventInvertsWrongFalsely : Prop := eventInvertsRow.holds Try.pinned (OpenSpec.ofChange eventInvertsWrong)

/-- 'mulliganlaw13.NetSame': WHATEVER THE INPUT: true; the input reads as it did. -/
def netSameSpec : ChangeSpec := { name := "netSame", fn := fun _ => fun
  | [d1, d2] => { results := [.lit (.bool true)], args := [d1, d2] }
  | _ => none }
def netSameRow : OpenClaim := { program := "ytpbocficffbcbaa", sum := "18a3f3271daef586b78de191092cd260ef7ab7b74259f4c909a51588833e8acc", func := "mulligan/mulliganlaw13.NetSame", spec := "netSame", inPlace := ["slices.overlaps[int]"], plainKeys := false, apart := false }
def NetSameSaid : Prop := netSameRow.holds Try.pinned (OpenSpec.ofChange netSameSpec)

/-- ITS FALSE NEIGHBOUR: 'it returns false'. Refute it at one input. -/
def netSameWrong : ChangeSpec := { name := "netSame", fn := fun _ => fun
  | [d1, d2] => { results := [.lit (.bool false)], args := [d1, d2] }
  | _ => none }
def NetSameWrongFalsely : Prop := netSameRow.holds Try.pinned (OpenSpec.ofChange netSameWrong)

/-- 'mulliganlaw12.EventParses': WHATEVER THE INPUT: true; the input reads as it did. -/
def eventParsesSpec : ChangeSpec := { name := "eventParses", fn := fun _ => fun
  | [d] => { results := [.lit (.bool true)], args := [d] }
  | _ => none }
def eventParsesRow : OpenClaim := { program := "ytpbocficffbcbaa", sum := "18a3f3271daef586b78de191092cd260ef7ab7b74259f4c909a51588833e8acc", func := "mulligan/mulliganlaw12.EventParses", spec := "eventParses", inPlace := ["slices.overlaps[int]"], plainKeys := false, apart := false }
def EventParsesSaid : Prop := eventParsesRow.holds Try.pinned (OpenSpec.ofChange eventParsesSpec)

/-- ITS FALSE NEIGHBOUR: 'it returns false'. Refute it at one input. -/
def eventParsesWrong : ChangeSpec := { name := "eventParses", fn := fun _ => fun
  | [d] => { results := [.lit (.bool false)], args := [d] }
  | _ => none }
def EventParsesWrongFalsely : Prop := eventParsesRow.holds Try.pinned (OpenSpec.ofChange eventParsesWrong)

/-- 'mulliganlaw12.EventBack': WHATEVER THE INPUT: true; the input reads as it did. -/
def eventBackSpec : ChangeSpec := { name := "eventBack", fn := fun _ => fun
  | [d1, d2] => { results := [.lit (.bool true)], args := [d1, d2] }
  | _ => none }
def eventBackRow : OpenClaim := { program := "ytpbocficffbcbaa", sum := "18a3f3271daef586b78de191092cd260ef7ab7b74259f4c909a51588833e8acc", func := "mulligan/mulliganlaw12.EventBack", spec := "eventBack", inPlace := ["slices.overlaps[int]"], plainKeys := false, apart := false }
def EventBackSaid : Prop := eventBackRow.holds Try.pinned (OpenSpec.ofChange eventBackSpec)

/-- ITS FALSE NEIGHBOUR: 'it returns false'. Refute it at one input. -/
def eventBackWrong : ChangeSpec := { name := "eventBack", fn := fun _ => fun
  | [d1, d2] => { results := [.lit (.bool false)], args := [d1, d2] }
  | _ => none }
def EventBackWrongFalsely : Prop := eventBackRow.holds Try.pinned (OpenSpec.ofChange eventBackWrong)

/-- 'mulliganlaw13.NetRuns': WHATEVER THE INPUT: true; the input reads as it did. -/
def netRunsSpec : ChangeSpec := { name := "netRuns", fn := fun _ => fun
  | [d1, d2] => { results := [.lit (.bool true)], args := [d1, d2] }
  | _ => none }
def netRunsRow : OpenClaim := { program := "ytpbocficffbcbaa", sum := "18a3f3271daef586b78de191092cd260ef7ab7b74259f4c909a51588833e8acc", func := "mulligan/mulliganlaw13.NetRuns", spec := "netRuns", inPlace := ["slices.overlaps[int]"], unfollowed := true, recurses := true, plainKeys := false, apart := false }
def NetRunsSaid : Prop := netRunsRow.holds Try.pinned (OpenSpec.ofChange netRunsSpec)

/-- ITS FALSE NEIGHBOUR: 'it returns false'. Refute it at one input. -/
def netRunsWrong : ChangeSpec := { name := "netRuns", fn := fun _ => fun
  | [d1, d2] => { results := [.lit (.bool false)], args := [d1, d2] }
  | _ => none }
def NetRunsWrongFalsely : Prop := netRunsRow.holds Try.pinned (OpenSpec.ofChange netRunsWrong)

/-- 'mulliganlaw09.ListDeals': WHATEVER THE INPUT: true; the input reads as it did. -/
def listDealsSpec : ChangeSpec := { name := "listDeals", fn := fun _ => fun
  | [d1, d2] => { results := [.lit (.bool true)], args := [d1, d2] }
  | _ => none }
def listDealsRow : OpenClaim := { program := "ytpbocficffbcbaa", sum := "18a3f3271daef586b78de191092cd260ef7ab7b74259f4c909a51588833e8acc", func := "mulligan/mulliganlaw09.ListDeals", spec := "listDeals", inPlace := ["slices.overlaps[int]"], unfollowed := true, recurses := true, plainKeys := false, apart := false }
def ListDealsSaid : Prop := listDealsRow.holds Try.pinned (OpenSpec.ofChange listDealsSpec)

/-- ITS FALSE NEIGHBOUR: 'it returns false'. Refute it at one input. -/
def listDealsWrong : ChangeSpec := { name := "listDeals", fn := fun _ => fun
  | [d1, d2] => { results := [.lit (.bool false)], args := [d1, d2] }
  | _ => none }
def ListDealsWrongFalsely : Prop := listDealsRow.holds Try.pinned (OpenSpec.ofChange listDealsWrong)

/- THE SECOND FORM. 'bulk': how many values and letters a reading holds, each counted each time it is reached (what is shared counts as often as it is met; a slice's spare places count too). A statement '..UptoSaid' is the law's where the arguments, and the package variables that the reading takes, are together of bulk at most 1048576: NARROWER than '..Said'. Prove '..Said' where nothing that the law and all that it calls make is longer than what came in: it says more and counts as full. Else prove '..UptoSaid'. A law counts once. -/
mutual
def uptoBulk {H : Type} : DataW H → Nat
  | .lit (.string bytes) => bytes.length + 1
  | .lit _ => 1
  | .nil => 1
  | .ptr d => uptoBulk d + 1
  | .slice elems spare => uptoBulkAll elems + uptoBulkAll spare + 1
  | .agg parts => uptoBulkAll parts + 1
  | .iface _ d => uptoBulk d + 1
  | .map entries => uptoBulkEntries entries + 1
  | .held _ => 1
def uptoBulkAll {H : Type} : List (DataW H) → Nat
  | [] => 0
  | d :: r => uptoBulk d + uptoBulkAll r
def uptoBulkEntries {H : Type} : List (Lit × DataW H) → Nat
  | [] => 0
  | x :: r => uptoBulkEntry x + uptoBulkEntries r
def uptoBulkEntry {H : Type} : Lit × DataW H → Nat
  | (.string bytes, d) => bytes.length + uptoBulk d + 1
  | (_, d) => uptoBulk d + 1
 end
def uptoSmall : (H : Type) → List (DataW H) → Bool := fun _ ds => decide (uptoBulkAll ds ≤ 1048576)
def OpenSpec.upto (s : _root_.Go.ChangeSpec) : _root_.Go.OpenSpec := { _root_.Go.OpenSpec.ofChange s with cond := some uptoSmall }

/-- 'mulliganlaw09.ListInserts', WHERE WHAT IT READS IS OF BULK AT MOST 1048576: true; the input reads as it did. -/
def listInsertsUptoRow : OpenClaim := { program := "ytpbocficffbcbaa", sum := "18a3f3271daef586b78de191092cd260ef7ab7b74259f4c909a51588833e8acc", func := "mulligan/mulliganlaw09.ListInserts", spec := "listInserts", inPlace := ["slices.overlaps[int]"], plainKeys := false, apart := false, narrowed := true }
def ListInsertsUptoSaid : Prop := listInsertsUptoRow.holds Try.pinned (OpenSpec.upto listInsertsSpec)

/-- 'mulliganlaw09.ListBack', WHERE WHAT IT READS IS OF BULK AT MOST 1048576: true; the input reads as it did. -/
def listBackUptoRow : OpenClaim := { program := "ytpbocficffbcbaa", sum := "18a3f3271daef586b78de191092cd260ef7ab7b74259f4c909a51588833e8acc", func := "mulligan/mulliganlaw09.ListBack", spec := "listBack", inPlace := ["slices.overlaps[int]"], plainKeys := false, apart := false, narrowed := true }
def ListBackUptoSaid : Prop := listBackUptoRow.holds Try.pinned (OpenSpec.upto listBackSpec)

/-- 'mulliganlaw09.ListMoves', WHERE WHAT IT READS IS OF BULK AT MOST 1048576: true; the input reads as it did. -/
def listMovesUptoRow : OpenClaim := { program := "ytpbocficffbcbaa", sum := "18a3f3271daef586b78de191092cd260ef7ab7b74259f4c909a51588833e8acc", func := "mulligan/mulliganlaw09.ListMoves", spec := "listMoves", inPlace := ["slices.overlaps[int]"], plainKeys := false, apart := false, narrowed := true }
def ListMovesUptoSaid : Prop := listMovesUptoRow.holds Try.pinned (OpenSpec.upto listMovesSpec)

/-- 'mulliganlaw14.JournalBack', WHERE WHAT IT READS IS OF BULK AT MOST 1048576: true; the input reads as it did. -/
def journalBackUptoRow : OpenClaim := { program := "ytpbocficffbcbaa", sum := "18a3f3271daef586b78de191092cd260ef7ab7b74259f4c909a51588833e8acc", func := "mulligan/mulliganlaw14.JournalBack", spec := "journalBack", unfollowed := true, recurses := true, plainKeys := false, apart := false, narrowed := true }
def JournalBackUptoSaid : Prop := journalBackUptoRow.holds Try.pinned (OpenSpec.upto journalBackSpec)

/-- 'mulliganlaw14.JournalMarks', WHERE WHAT IT READS IS OF BULK AT MOST 1048576: true; the input reads as it did. -/
def journalMarksUptoRow : OpenClaim := { program := "ytpbocficffbcbaa", sum := "18a3f3271daef586b78de191092cd260ef7ab7b74259f4c909a51588833e8acc", func := "mulligan/mulliganlaw14.JournalMarks", spec := "journalMarks", unfollowed := true, recurses := true, plainKeys := false, apart := false, narrowed := true }
def JournalMarksUptoSaid : Prop := journalMarksUptoRow.holds Try.pinned (OpenSpec.upto journalMarksSpec)

/-- 'mulliganlaw14.JournalPlays', WHERE WHAT IT READS IS OF BULK AT MOST 1048576: true; the input reads as it did. -/
def journalPlaysUptoRow : OpenClaim := { program := "ytpbocficffbcbaa", sum := "18a3f3271daef586b78de191092cd260ef7ab7b74259f4c909a51588833e8acc", func := "mulligan/mulliganlaw14.JournalPlays", spec := "journalPlays", unfollowed := true, recurses := true, plainKeys := false, apart := false, narrowed := true }
def JournalPlaysUptoSaid : Prop := journalPlaysUptoRow.holds Try.pinned (OpenSpec.upto journalPlaysSpec)

/-- 'mulliganlaw14.JournalNil', WHERE WHAT IT READS IS OF BULK AT MOST 1048576: true; the input reads as it did. -/
def journalNilUptoRow : OpenClaim := { program := "ytpbocficffbcbaa", sum := "18a3f3271daef586b78de191092cd260ef7ab7b74259f4c909a51588833e8acc", func := "mulligan/mulliganlaw14.JournalNil", spec := "journalNil", unfollowed := true, recurses := true, plainKeys := false, apart := false, narrowed := true }
def JournalNilUptoSaid : Prop := journalNilUptoRow.holds Try.pinned (OpenSpec.upto journalNilSpec)

/-- 'mulliganlaw12.EventApplies', WHERE WHAT IT READS IS OF BULK AT MOST 1048576: true; the input reads as it did. -/
def eventAppliesUptoRow : OpenClaim := { program := "ytpbocficffbcbaa", sum := "18a3f3271daef586b78de191092cd260ef7ab7b74259f4c909a51588833e8acc", func := "mulligan/mulliganlaw12.EventApplies", spec := "eventApplies", inPlace := ["slices.overlaps[int]"], plainKeys := false, apart := false, narrowed := true }
def EventAppliesUptoSaid : Prop := eventAppliesUptoRow.holds Try.pinned (OpenSpec.upto eventAppliesSpec)

/-- 'mulliganlaw12.EventInverts', WHERE WHAT IT READS IS OF BULK AT MOST 1048576: true; the input reads as it did. -/
def eventInvertsUptoRow : OpenClaim := { program := "ytpbocficffbcbaa", sum := "18a3f3271daef586b78de191092cd260ef7ab7b74259f4c909a51588833e8acc", func := "mulligan/mulliganlaw12.EventInverts", spec := "eventInverts", inPlace := ["slices.overlaps[int]"], plainKeys := false, apart := false, narrowed := true }
def EventInvertsUptoSaid : Prop := eventInvertsUptoRow.holds Try.pinned (OpenSpec.upto eventInvertsSpec)

/-- 'mulliganlaw13.NetSame', WHERE WHAT IT READS IS OF BULK AT MOST 1048576: true; the input reads as it did. -/
def netSameUptoRow : OpenClaim := { program := "ytpbocficffbcbaa", sum := "18a3f3271daef586b78de191092cd260ef7ab7b74259f4c909a51588833e8acc", func := "mulligan/mulliganlaw13.NetSame", spec := "netSame", inPlace := ["slices.overlaps[int]"], plainKeys := false, apart := false, narrowed := true }
def NetSameUptoSaid : Prop := netSameUptoRow.holds Try.pinned (OpenSpec.upto netSameSpec)

/-- 'mulliganlaw12.EventParses', WHERE WHAT IT READS IS OF BULK AT MOST 1048576: true; the input reads as it did. -/
def eventParsesUptoRow : OpenClaim := { program := "ytpbocficffbcbaa", sum := "18a3f3271daef586b78de191092cd260ef7ab7b74259f4c909a51588833e8acc", func := "mulligan/mulliganlaw12.EventParses", spec := "eventParses", inPlace := ["slices.overlaps[int]"], plainKeys := false, apart := false, narrowed := true }
def EventParsesUptoSaid : Prop := eventParsesUptoRow.holds Try.pinned (OpenSpec.upto eventParsesSpec)

/-- 'mulliganlaw12.EventBack', WHERE WHAT IT READS IS OF BULK AT MOST 1048576: true; the input reads as it did. -/
def eventBackUptoRow : OpenClaim := { program := "ytpbocficffbcbaa", sum := "18a3f3271daef586b78de191092cd260ef7ab7b74259f4c909a51588833e8acc", func := "mulligan/mulliganlaw12.EventBack", spec := "eventBack", inPlace := ["slices.overlaps[int]"], plainKeys := false, apart := false, narrowed := true }
def EventBackUptoSaid : Prop := eventBackUptoRow.holds Try.pinned (OpenSpec.upto eventBackSpec)

/-- 'mulliganlaw13.NetRuns', WHERE WHAT IT READS IS OF BULK AT MOST 1048576: true; the input reads as it did. -/
def netRunsUptoRow : OpenClaim := { program := "ytpbocficffbcbaa", sum := "18a3f3271daef586b78de191092cd260ef7ab7b74259f4c909a51588833e8acc", func := "mulligan/mulliganlaw13.NetRuns", spec := "netRuns", inPlace := ["slices.overlaps[int]"], unfollowed := true, recurses := true, plainKeys := false, apart := false, narrowed := true }
def NetRunsUptoSaid : Prop := netRunsUptoRow.holds Try.pinned (OpenSpec.upto netRunsSpec)

/-- 'mulliganlaw09.ListDeals', WHERE WHAT IT READS IS OF BULK AT MOST 1048576: true; the input reads as it did. -/
def listDealsUptoRow : OpenClaim := { program := "ytpbocficffbcbaa", sum := "18a3f3271daef586b78de191092cd260ef7ab7b74259f4c909a51588833e8acc", func := "mulligan/mulliganlaw09.ListDeals", spec := "listDeals", inPlace := ["slices.overlaps[int]"], unfollowed := true, recurses := true, plainKeys := false, apart := false, narrowed := true }
def ListDealsUptoSaid : Prop := listDealsUptoRow.holds Try.pinned (OpenSpec.upto listDealsSpec)

end Rows
end Go.Proofs.Ytpbocficffbcbaa
