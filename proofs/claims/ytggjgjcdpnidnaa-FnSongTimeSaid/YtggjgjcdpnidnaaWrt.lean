/- Contracts of the writer of plain voices (write, sound, result), and of l20Add. Condition: sizes. -/
import Derived.Test.YtggjgjcdpnidnaaAppR
import Derived.Test.YtggjgjcdpnidnaaKeys
import Derived.BigRegion
namespace Go.Proofs.Ytggjgjcdpnidnaa
open Go.RowKit
set_option linter.unusedSimpArgs false
set_option linter.unusedVariables false
set_option maxRecDepth 100000
theorem grown_set {a w : World} {row : Option Nat} (h : a.grownBy w row) {p : Addr} (hp : a.heap.size ≤ p.block) (u : Value) : a.grownBy (w.setCell p u) row :=
  ⟨h.os, h.tape, h.output, by have := h.size; simpa using this, fun k hk hne => (Below.heap_setCell w p u k (by omega)).trans (h.block k hk hne)⟩
end Go.Proofs.Ytggjgjcdpnidnaa
