/- Contracts of EvenPattern, of the program and of the reference. Condition: numbers that fit int64. -/
import Derived.Test.YtnkoijkelcjloaaPat
import Derived.BigRegion
import Derived.Test.YtnkoijkelcjloaaReg
namespace Go.Proofs.Ytnkoijkelcjloaa
set_option linter.unusedVariables false
open Go.RowKit

def evenTo (st : Int) (n : Nat) : List Bool := (List.range n).map fun (k : Nat) => decide ((k : Int) * st % (n : Int) < st)
def evenL (st n : Int) : List Bool := if inR n 1 32 = true ∧ inR st 0 n = true then evenTo st n.toNat else []
theorem evenTo_len (st : Int) (n : Nat) : (evenTo st n).length = n := by simp [evenTo]
theorem evenTo_at (st : Int) (n k : Nat) (h : k < n) : gb (evenTo st n) k = decide ((k : Int) * st % (n : Int) < st) := by simp [gb, evenTo, h]
theorem evenL_len (st n : Int) : (evenL st n).length ≤ 32 := by
  unfold evenL; split
  · have := inR_iff.1 (‹_ ∧ _›).1
    rw [evenTo_len]; omega
  · simp
end Go.Proofs.Ytnkoijkelcjloaa
