import Derived.Test.YtfphjokijanahaaDoorMap
import Derived.Test.YtfphjokijanahaaDoorNum
namespace Go.Proofs.YtfphjokijanahaaDoor
open Go Go.RowKit
set_option linter.unusedVariables false

def kcv (k : Int × Int) : Value := .agg #[.int .i64 k.1, .int .i64 k.2]
def icv (n : Int) : Value := .int .i64 n

theorem key_eq (w : World) (k k' : Int × Int) : (Op.equal 59 (kcv k) (kcv k')).run Tryd.prog w = .ok (decide (k = k')) w := by
  have ht : Tryd.prog.underlying 59 = some (.struct (Tryd.prog.fieldsOf 59)) := by simp [Program.fieldsOf, Tryd.underlying59]
  have hp : Tryd.prog.stoodInHeld 59 = false := by kernel_rfl
  unfold Op.equal Op.maxDepth kcv
  rw [show (10000 : Nat) = 9999 + 1 from rfl, run_equalIn_struct w 9999 59 _ _ ht hp]
  obtain ⟨a, b⟩ := k
  obtain ⟨c, d⟩ := k'
  simp [Program.fieldsOf, Tryd.underlying59, Op.eqFields, go_sem]
  by_cases h1 : a = c <;> by_cases h2 : b = d <;> simp [h1, h2]

theorem key_chk (n : Nat) (w : World) (b : Bool) (k : Int × Int) : (Instr.checkKey b (n + 2) 59 (kcv k)).run Tryd.prog w = .ok () w := by
  unfold kcv
  simp [Instr.checkKey, run_underlying Tryd.underlying59, run_underlying Tryd.underlying3, go_sem]

theorem keyLaw : KeyLaw Tryd.prog 59 kcv :=
  keyLaw_asked Tryd.underlying59 (fun _ _ => rfl) key_eq (fun w b k => key_chk 9998 w b k) (fun k => by
    have gen : ∀ n, Instr.sameBits (n + 1) (kcv k) (kcv k) = true := by
      intro n
      simp [kcv, Instr.sameBits, sameBits_int]
    exact gen 9999)
end Go.Proofs.YtfphjokijanahaaDoor
