/-
  No cell of these rows narrows 'for every input' (looked for: loops, veiled, ifaces, maps, wideKeys, modest, calm, conditions, laid).
  DERIVED. THE GIVEN ROWS OF THIS SEAT. 4 by the template 'for every input the law returns true; each argument reads behind the call as it read before'; 0 by the template 'total and deterministic' (their statements: YtfphjokijanahaaTotals.lean).
  GIVEN WITH THE SEED: the statements are not yours to turn. If you find one false, say at which input.
  Laid BY PROGRAM, IN A SANDBOX (cutbox-rows.mjs): the forced cells as the released guide's own fill.sh prints them over the translation 619b8fcb9c875769… (all of the seat's roots in one cut). By AI agents, Wed Nov 11 2026. No macro, syntax, notation, axiom, sorry.
-/
import Derived.Test.YtfphjokijanahaaChecked
import GoSem.Claim
import GoSem.ClaimJoined
import GoSem.ClaimMapViews
import Derived.JoinedTies
import Derived.KernelRfl
namespace Go.Proofs.Ytfphjokijanahaa
/- THE CELL 'sum', in the pinned program and in every row, IS THE sha256 OF THE DUMP (.gsa) THAT YtfphjokijanahaaProg.lean LOADS. Nothing in Lean hashes anything: it is a label: what it is worth is what the hold of that sum in a sandbox is worth. -/
noncomputable def Try.pinned : Pinned := { name := "ytfphjokijanahaa", sum := "619b8fcb9c875769ee386a77a257498e9c1545c6a678f10cc4bafa45476ff5a8", checked := Try.checked }
namespace Rows
def none {H : Type} : Left H := { results := [], args := [] }

/-- 'mulliganlaw34.MatchStays': WHATEVER THE INPUT: true; the input reads as it did. -/
def matchStaysSpec : ChangeSpec := { name := "matchStays", fn := fun _ => fun
  | [d] => { results := [.lit (.bool true)], args := [d] }
  | _ => none }
def matchStaysRow : OpenClaim := { program := "ytfphjokijanahaa", sum := "619b8fcb9c875769ee386a77a257498e9c1545c6a678f10cc4bafa45476ff5a8", func := "mulligan/mulliganlaw34.MatchStays", spec := "matchStays", apart := false }
def MatchStaysSaid : Prop := matchStaysRow.holds Try.pinned (OpenSpec.ofChange matchStaysSpec)

/-- ITS FALSE NEIGHBOUR: 'it returns false'. Refute it at one input. -/
def matchStaysWrong : ChangeSpec := { name := "matchStays", fn := fun _ => fun
  | [d] => { results := [.lit (.bool false)], args := [d] }
  | _ => none }
def MatchStaysWrongFalsely : Prop := matchStaysRow.holds Try.pinned (OpenSpec.ofChange matchStaysWrong)

/-- 'mulliganlaw34.MatchThree': WHATEVER THE INPUT: true; the input reads as it did. -/
def matchThreeSpec : ChangeSpec := { name := "matchThree", fn := fun _ => fun
  | [d1, d2, d3] => { results := [.lit (.bool true)], args := [d1, d2, d3] }
  | _ => none }
def matchThreeRow : OpenClaim := { program := "ytfphjokijanahaa", sum := "619b8fcb9c875769ee386a77a257498e9c1545c6a678f10cc4bafa45476ff5a8", func := "mulligan/mulliganlaw34.MatchThree", spec := "matchThree", apart := false }
def MatchThreeSaid : Prop := matchThreeRow.holds Try.pinned (OpenSpec.ofChange matchThreeSpec)

/-- ITS FALSE NEIGHBOUR: 'it returns false'. Refute it at one input. -/
def matchThreeWrong : ChangeSpec := { name := "matchThree", fn := fun _ => fun
  | [d1, d2, d3] => { results := [.lit (.bool false)], args := [d1, d2, d3] }
  | _ => none }
def MatchThreeWrongFalsely : Prop := matchThreeRow.holds Try.pinned (OpenSpec.ofChange matchThreeWrong)

/-- 'mulliganlaw34.MatchPlays': WHATEVER THE INPUT: true; the input reads as it did. -/
def matchPlaysSpec : ChangeSpec := { name := "matchPlays", fn := fun _ => fun
  | [d] => { results := [.lit (.bool true)], args := [d] }
  | _ => none }
def matchPlaysRow : OpenClaim := { program := "ytfphjokijanahaa", sum := "619b8fcb9c875769ee386a77a257498e9c1545c6a678f10cc4bafa45476ff5a8", func := "mulligan/mulliganlaw34.MatchPlays", spec := "matchPlays", apart := false }
def MatchPlaysSaid : Prop := matchPlaysRow.holds Try.pinned (OpenSpec.ofChange matchPlaysSpec)

/-- ITS FALSE NEIGHBOUR: 'it returns false'. Refute it at one input. -/
def matchPlaysWrong : ChangeSpec := { name := "matchPlays", fn := fun _ => fun
  | [d] => { results := [.lit (.bool false)], args := [d] }
  | _ => none }
def MatchPlaysWrongFalsely : Prop := matchPlaysRow.holds Try.pinned (OpenSpec.ofChange matchPlaysWrong)

/-- 'mulliganlaw34.MatchNil': WHATEVER THE INPUT: true; the input reads as it did. -/
def matchNilSpec : ChangeSpec := { name := "matchNil", fn := fun _ => fun
  | [d1, d2] => { results := [.lit (.bool true)], args := [d1, d2] }
  | _ => none }
def matchNilRow : OpenClaim := { program := "ytfphjokijanahaa", sum := "619b8fcb9c875769ee386a77a257498e9c1545c6a678f10cc4bafa45476ff5a8", func := "mulligan/mulliganlaw34.MatchNil", spec := "matchNil", apart := false }
def MatchNilSaid : Prop := matchNilRow.holds Try.pinned (OpenSpec.ofChange matchNilSpec)

/-- ITS FALSE NEIGHBOUR: 'it returns false'. Refute it at one input. -/
def matchNilWrong : ChangeSpec := { name := "matchNil", fn := fun _ => fun
  | [d1, d2] => { results := [.lit (.bool false)], args := [d1, d2] }
  | _ => none }
def MatchNilWrongFalsely : Prop := matchNilRow.holds Try.pinned (OpenSpec.ofChange matchNilWrong)

/- THE SECOND FORM. 'bulk': how many values and letters a reading holds, each counted each time it is reached (what is shared counts as often as it is met; a slice's spare places count too). A statement '..UptoSaid' is the law's where the arguments, and the package variables that the reading takes, are together of bulk at most 1048576: NARROWER than '..Said'. Prove '..Said' where nothing that the law and all that it calls make is longer than what came in: it says more and counts as full. Else prove '..UptoSaid'. A law counts once. -/
mutual
def uptoBulk {H : Type} : DataW H → Nat
  | .lit (.string bytes) => bytes.length + 1
  | .lit _ => 1
  | .nil => 1
  | .ptr d => uptoBulk d + 1
  | .slice elems spare => uptoBulkAll elems + uptoBulkAll spare + 1
  | .agg parts => uptoBulkAll parts + 1
  | .iface _ d => uptoBulk d + 1
  | .map entries => uptoBulkEntries entries + 1
  | .held _ => 1
def uptoBulkAll {H : Type} : List (DataW H) → Nat
  | [] => 0
  | d :: r => uptoBulk d + uptoBulkAll r
def uptoBulkEntries {H : Type} : List (Lit × DataW H) → Nat
  | [] => 0
  | x :: r => uptoBulkEntry x + uptoBulkEntries r
def uptoBulkEntry {H : Type} : Lit × DataW H → Nat
  | (.string bytes, d) => bytes.length + uptoBulk d + 1
  | (_, d) => uptoBulk d + 1
 end
def uptoSmall : (H : Type) → List (DataW H) → Bool := fun _ ds => decide (uptoBulkAll ds ≤ 1048576)
def OpenSpec.upto (s : _root_.Go.ChangeSpec) : _root_.Go.OpenSpec := { _root_.Go.OpenSpec.ofChange s with cond := some uptoSmall }

/-- 'mulliganlaw34.MatchStays', WHERE WHAT IT READS IS OF BULK AT MOST 1048576: true; the input reads as it did. -/
def matchStaysUptoRow : OpenClaim := { program := "ytfphjokijanahaa", sum := "619b8fcb9c875769ee386a77a257498e9c1545c6a678f10cc4bafa45476ff5a8", func := "mulligan/mulliganlaw34.MatchStays", spec := "matchStays", apart := false, narrowed := true }
def MatchStaysUptoSaid : Prop := matchStaysUptoRow.holds Try.pinned (OpenSpec.upto matchStaysSpec)

/-- 'mulliganlaw34.MatchThree', WHERE WHAT IT READS IS OF BULK AT MOST 1048576: true; the input reads as it did. -/
def matchThreeUptoRow : OpenClaim := { program := "ytfphjokijanahaa", sum := "619b8fcb9c875769ee386a77a257498e9c1545c6a678f10cc4bafa45476ff5a8", func := "mulligan/mulliganlaw34.MatchThree", spec := "matchThree", apart := false, narrowed := true }
def MatchThreeUptoSaid : Prop := matchThreeUptoRow.holds Try.pinned (OpenSpec.upto matchThreeSpec)

/-- 'mulliganlaw34.MatchPlays', WHERE WHAT IT READS IS OF BULK AT MOST 1048576: true; the input reads as it did. -/
def matchPlaysUptoRow : OpenClaim := { program := "ytfphjokijanahaa", sum := "619b8fcb9c875769ee386a77a257498e9c1545c6a678f10cc4bafa45476ff5a8", func := "mulligan/mulliganlaw34.MatchPlays", spec := "matchPlays", apart := false, narrowed := true }
def MatchPlaysUptoSaid : Prop := matchPlaysUptoRow.holds Try.pinned (OpenSpec.upto matchPlaysSpec)

/-- 'mulliganlaw34.MatchNil', WHERE WHAT IT READS IS OF BULK AT MOST 1048576: true; the input reads as it did. -/
def matchNilUptoRow : OpenClaim := { program := "ytfphjokijanahaa", sum := "619b8fcb9c875769ee386a77a257498e9c1545c6a678f10cc4bafa45476ff5a8", func := "mulligan/mulliganlaw34.MatchNil", spec := "matchNil", apart := false, narrowed := true }
def MatchNilUptoSaid : Prop := matchNilUptoRow.holds Try.pinned (OpenSpec.upto matchNilSpec)

end Rows
end Go.Proofs.Ytfphjokijanahaa
