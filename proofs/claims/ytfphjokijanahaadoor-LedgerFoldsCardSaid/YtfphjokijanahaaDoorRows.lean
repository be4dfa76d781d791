/-
  NARROWER THAN 'FOR EVERY INPUT', by the rows' own cells (each row's printed sentence says how): LedgerFull: laid · LedgerStays: laid · LedgerPlays: laid · LedgerFolds: laid.
  DERIVED. THE GIVEN ROWS OF THIS SEAT. 4 by the template 'for every input the law returns true; each argument reads behind the call as it read before'; 0 by the template 'total and deterministic' (their statements: YtfphjokijanahaaDoorTotals.lean).
  GIVEN WITH THE SEED: the statements are not yours to turn. If you find one false, say at which input.
  Laid BY PROGRAM, IN A SANDBOX (cutbox-rows.mjs): the forced cells as the released guide's own fill.sh prints them over the translation 94de0cb28450271c… (all of the seat's roots in one cut). By AI agents, Wed Nov 11 2026. No macro, syntax, notation, axiom, sorry.
-/
import Derived.Test.YtfphjokijanahaaDoorChecked
import GoSem.Claim
import GoSem.ClaimJoined
import GoSem.ClaimMapViews
import Derived.JoinedTies
import Derived.KernelRfl
namespace Go.Proofs.YtfphjokijanahaaDoor
/- THE CELL 'sum', in the pinned program and in every row, IS THE sha256 OF THE DUMP (.gsa) THAT YtfphjokijanahaaDoorProg.lean LOADS. Nothing in Lean hashes anything: it is a label: what it is worth is what the hold of that sum in a sandbox is worth. -/
noncomputable def Tryd.pinned : Pinned := { name := "ytfphjokijanahaadoor", sum := "94de0cb28450271ccbba72a8137ecf855121540b87ed533742a14b8d7005fd0b", checked := Tryd.checked }
namespace Rows
def none {H : Type} : Left H := { results := [], args := [] }

/- WHAT THE LISTED PACKAGE-LEVEL VARIABLES READ AS WHEN THE CALL BEGINS. Each datum BY PROGRAM (the guide's laid-datum.mjs) off the statement by which the dump's own 'gosem.cut.vars' lays the variable. In a bare row this is a premise. The card (YtfphjokijanahaaDoorCards.lean) ties it to the program's text. -/
def laid_mulligan_ledger_kinds {H : Type} : DataW H := .agg [.agg [.lit (.string [115, 108, 111, 112, 112, 121]), .lit (.int .i64 0), .lit (.bool false)], .agg [.lit (.string [116, 114, 105, 103, 103, 101, 114]), .lit (.int .i64 0), .lit (.bool false)], .agg [.lit (.string [114, 117, 108, 101]), .lit (.int .i64 1), .lit (.bool true)], .agg [.lit (.string [99, 97, 114, 100]), .lit (.int .i64 1), .lit (.bool true)], .agg [.lit (.string [108, 97, 116, 101]), .lit (.int .i64 2), .lit (.bool false)], .agg [.lit (.string [99, 104, 101, 97, 116]), .lit (.int .i64 3), .lit (.bool false)]]

/-- 'mulliganlaw33.LedgerFull': WHATEVER THE INPUT: true; the input reads as it did. -/
def ledgerFullSpec : ChangeSpec := { name := "ledgerFull", fn := fun _ => fun
  | [d1, d2, d3] => { results := [.lit (.bool true)], args := [d1, d2, d3] }
  | _ => none }
def ledgerFullRow : OpenClaim := { program := "ytfphjokijanahaadoor", sum := "94de0cb28450271ccbba72a8137ecf855121540b87ed533742a14b8d7005fd0b", func := "mulligan/mulliganlaw33.LedgerFull", spec := "ledgerFull", named := ["mulligan/ledger.kinds"], plainKeys := false, apart := false, laid := [("mulligan/ledger.kinds", laid_mulligan_ledger_kinds)] }
def LedgerFullSaid : Prop := ledgerFullRow.holds Tryd.pinned (OpenSpec.ofChange ledgerFullSpec)

/-- ITS FALSE NEIGHBOUR: 'it returns false'. Refute it at one input. -/
def ledgerFullWrong : ChangeSpec := { name := "ledgerFull", fn := fun _ => fun
  | [d1, d2, d3] => { results := [.lit (.bool false)], args := [d1, d2, d3] }
  | _ => none }
def LedgerFullWrongFalsely : Prop := ledgerFullRow.holds Tryd.pinned (OpenSpec.ofChange ledgerFullWrong)

/-- 'mulliganlaw33.LedgerStays': WHATEVER THE INPUT: true; the input reads as it did. -/
def ledgerStaysSpec : ChangeSpec := { name := "ledgerStays", fn := fun _ => fun
  | [d] => { results := [.lit (.bool true)], args := [d] }
  | _ => none }
def ledgerStaysRow : OpenClaim := { program := "ytfphjokijanahaadoor", sum := "94de0cb28450271ccbba72a8137ecf855121540b87ed533742a14b8d7005fd0b", func := "mulligan/mulliganlaw33.LedgerStays", spec := "ledgerStays", named := ["mulligan/ledger.kinds"], plainKeys := false, apart := false, laid := [("mulligan/ledger.kinds", laid_mulligan_ledger_kinds)] }
def LedgerStaysSaid : Prop := ledgerStaysRow.holds Tryd.pinned (OpenSpec.ofChange ledgerStaysSpec)

/-- ITS FALSE NEIGHBOUR: 'it returns false'. Refute it at one input. -/
def ledgerStaysWrong : ChangeSpec := { name := "ledgerStays", fn := fun _ => fun
  | [d] => { results := [.lit (.bool false)], args := [d] }
  | _ => none }
def LedgerStaysWrongFalsely : Prop := ledgerStaysRow.holds Tryd.pinned (OpenSpec.ofChange ledgerStaysWrong)

/-- 'mulliganlaw33.LedgerPlays': WHATEVER THE INPUT: true; the input reads as it did. -/
def ledgerPlaysSpec : ChangeSpec := { name := "ledgerPlays", fn := fun _ => fun
  | [d] => { results := [.lit (.bool true)], args := [d] }
  | _ => none }
def ledgerPlaysRow : OpenClaim := { program := "ytfphjokijanahaadoor", sum := "94de0cb28450271ccbba72a8137ecf855121540b87ed533742a14b8d7005fd0b", func := "mulligan/mulliganlaw33.LedgerPlays", spec := "ledgerPlays", named := ["mulligan/ledger.kinds"], plainKeys := false, apart := false, laid := [("mulligan/ledger.kinds", laid_mulligan_ledger_kinds)] }
def LedgerPlaysSaid : Prop := ledgerPlaysRow.holds Tryd.pinned (OpenSpec.ofChange ledgerPlaysSpec)

/-- ITS FALSE NEIGHBOUR: 'it returns false'. Refute it at one input. -/
def ledgerPlaysWrong : ChangeSpec := { name := "ledgerPlays", fn := fun _ => fun
  | [d] => { results := [.lit (.bool false)], args := [d] }
  | _ => none }
def LedgerPlaysWrongFalsely : Prop := ledgerPlaysRow.holds Tryd.pinned (OpenSpec.ofChange ledgerPlaysWrong)

/-- 'mulliganlaw33.LedgerFolds': WHATEVER THE INPUT: true; the input reads as it did. -/
def ledgerFoldsSpec : ChangeSpec := { name := "ledgerFolds", fn := fun _ => fun
  | [d1, d2] => { results := [.lit (.bool true)], args := [d1, d2] }
  | _ => none }
def ledgerFoldsRow : OpenClaim := { program := "ytfphjokijanahaadoor", sum := "94de0cb28450271ccbba72a8137ecf855121540b87ed533742a14b8d7005fd0b", func := "mulligan/mulliganlaw33.LedgerFolds", spec := "ledgerFolds", named := ["mulligan/ledger.kinds"], plainKeys := false, apart := false, laid := [("mulligan/ledger.kinds", laid_mulligan_ledger_kinds)] }
def LedgerFoldsSaid : Prop := ledgerFoldsRow.holds Tryd.pinned (OpenSpec.ofChange ledgerFoldsSpec)

/-- ITS FALSE NEIGHBOUR: 'it returns false'. Refute it at one input. -/
def ledgerFoldsWrong : ChangeSpec := { name := "ledgerFolds", fn := fun _ => fun
  | [d1, d2] => { results := [.lit (.bool false)], args := [d1, d2] }
  | _ => none }
def LedgerFoldsWrongFalsely : Prop := ledgerFoldsRow.holds Tryd.pinned (OpenSpec.ofChange ledgerFoldsWrong)

/- THE SECOND FORM. 'bulk': how many values and letters a reading holds, each counted each time it is reached (what is shared counts as often as it is met; a slice's spare places count too). A statement '..UptoSaid' is the law's where the arguments, and the package variables that the reading takes, are together of bulk at most 1048576: NARROWER than '..Said'. Prove '..Said' where nothing that the law and all that it calls make is longer than what came in: it says more and counts as full. Else prove '..UptoSaid'. A law counts once. -/
mutual
def uptoBulk {H : Type} : DataW H → Nat
  | .lit (.string bytes) => bytes.length + 1
  | .lit _ => 1
  | .nil => 1
  | .ptr d => uptoBulk d + 1
  | .slice elems spare => uptoBulkAll elems + uptoBulkAll spare + 1
  | .agg parts => uptoBulkAll parts + 1
  | .iface _ d => uptoBulk d + 1
  | .map entries => uptoBulkEntries entries + 1
  | .held _ => 1
def uptoBulkAll {H : Type} : List (DataW H) → Nat
  | [] => 0
  | d :: r => uptoBulk d + uptoBulkAll r
def uptoBulkEntries {H : Type} : List (Lit × DataW H) → Nat
  | [] => 0
  | x :: r => uptoBulkEntry x + uptoBulkEntries r
def uptoBulkEntry {H : Type} : Lit × DataW H → Nat
  | (.string bytes, d) => bytes.length + uptoBulk d + 1
  | (_, d) => uptoBulk d + 1
 end
def uptoSmall : (H : Type) → List (DataW H) → Bool := fun _ ds => decide (uptoBulkAll ds ≤ 1048576)
def OpenSpec.upto (s : _root_.Go.ChangeSpec) : _root_.Go.OpenSpec := { _root_.Go.OpenSpec.ofChange s with cond := some uptoSmall }

/-- 'mulliganlaw33.LedgerFull', WHERE WHAT IT READS IS OF BULK AT MOST 1048576: true; the input reads as it did. -/
def ledgerFullUptoRow : OpenClaim := { program := "ytfphjokijanahaadoor", sum := "94de0cb28450271ccbba72a8137ecf855121540b87ed533742a14b8d7005fd0b", func := "mulligan/mulliganlaw33.LedgerFull", spec := "ledgerFull", named := ["mulligan/ledger.kinds"], plainKeys := false, apart := false, laid := [("mulligan/ledger.kinds", laid_mulligan_ledger_kinds)], narrowed := true }
def LedgerFullUptoSaid : Prop := ledgerFullUptoRow.holds Tryd.pinned (OpenSpec.upto ledgerFullSpec)

/-- 'mulliganlaw33.LedgerStays', WHERE WHAT IT READS IS OF BULK AT MOST 1048576: true; the input reads as it did. -/
def ledgerStaysUptoRow : OpenClaim := { program := "ytfphjokijanahaadoor", sum := "94de0cb28450271ccbba72a8137ecf855121540b87ed533742a14b8d7005fd0b", func := "mulligan/mulliganlaw33.LedgerStays", spec := "ledgerStays", named := ["mulligan/ledger.kinds"], plainKeys := false, apart := false, laid := [("mulligan/ledger.kinds", laid_mulligan_ledger_kinds)], narrowed := true }
def LedgerStaysUptoSaid : Prop := ledgerStaysUptoRow.holds Tryd.pinned (OpenSpec.upto ledgerStaysSpec)

/-- 'mulliganlaw33.LedgerPlays', WHERE WHAT IT READS IS OF BULK AT MOST 1048576: true; the input reads as it did. -/
def ledgerPlaysUptoRow : OpenClaim := { program := "ytfphjokijanahaadoor", sum := "94de0cb28450271ccbba72a8137ecf855121540b87ed533742a14b8d7005fd0b", func := "mulligan/mulliganlaw33.LedgerPlays", spec := "ledgerPlays", named := ["mulligan/ledger.kinds"], plainKeys := false, apart := false, laid := [("mulligan/ledger.kinds", laid_mulligan_ledger_kinds)], narrowed := true }
def LedgerPlaysUptoSaid : Prop := ledgerPlaysUptoRow.holds Tryd.pinned (OpenSpec.upto ledgerPlaysSpec)

/-- 'mulliganlaw33.LedgerFolds', WHERE WHAT IT READS IS OF BULK AT MOST 1048576: true; the input reads as it did. -/
def ledgerFoldsUptoRow : OpenClaim := { program := "ytfphjokijanahaadoor", sum := "94de0cb28450271ccbba72a8137ecf855121540b87ed533742a14b8d7005fd0b", func := "mulligan/mulliganlaw33.LedgerFolds", spec := "ledgerFolds", named := ["mulligan/ledger.kinds"], plainKeys := false, apart := false, laid := [("mulligan/ledger.kinds", laid_mulligan_ledger_kinds)], narrowed := true }
def LedgerFoldsUptoSaid : Prop := ledgerFoldsUptoRow.holds Tryd.pinned (OpenSpec.upto ledgerFoldsSpec)

end Rows
end Go.Proofs.YtfphjokijanahaaDoor
