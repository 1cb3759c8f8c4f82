/- Contracts of the helpers of the exact laws on patterns (a struct with one slice of bools). Conditions: lengths at most 2^20 where memory is made. -/
import Derived.Test.YtnkoijkelcjloaaBools
import Derived.Laws.ResultCell
import Derived.Deep.RegionHeld3
namespace Go.Proofs.Ytnkoijkelcjloaa
set_option linter.unusedVariables false
open Go.RowKit

/-- a struct of one slice in new memory -/
def RetP (w : World) (E size n : Nat) (xs : List Value) (e : Ending) (w' : World) : Prop :=
  ∃ A c, e = .returned (.agg #[.slice A n c]) ∧ w'.ownsRow w.heap.size E size (.slice A n c) n xs ∧ Below w.heap.size w w'

theorem grownBy_of_alloc {w w' : World} {o : Obj} {row : Option Nat} (h : (w.alloc o).grownBy w' row) : w.grownBy w' row := by
  have ha := World.grownBy_alloc w o row
  exact ⟨h.os.trans ha.os, h.tape.trans ha.tape, h.output.trans ha.output, Nat.le_trans ha.size h.size, fun k hk hne => (h.block k (by simp; omega) hne).trans (ha.block k hk hne)⟩
/-- 1 to 32 steps -/
def patL (zs : List Bool) : Bool := inR zs.length 1 32
end Go.Proofs.Ytnkoijkelcjloaa
