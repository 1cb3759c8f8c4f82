/- Contracts of PlainVoice, of the program and of the reference. Condition: at most 2^20 notes. -/
import Derived.Test.YtggjgjcdpnidnaaWrt
import Derived.Test.YtggjgjcdpnidnaaTks
namespace Go.Proofs.Ytggjgjcdpnidnaa
open Go.RowKit
set_option linter.unusedSimpArgs false
set_option linter.unusedVariables false
set_option maxRecDepth 100000
def RetNB (w : World) (q : List Nt × Bool) (e : Ending) (w' : World) : Prop := ∃ A c, e = .returned (.tuple #[.slice A q.1.length c, .bool q.2]) ∧ w'.ownsRow w.heap.size 46 6 (.slice A q.1.length c) q.1.length (fl encNote q.1) ∧ Below w.heap.size w w'
theorem pkB_ok {a b c : Int} (h : pvB a b c = true) : pkB a b c = pkL (a, b, c) := if_pos h
end Go.Proofs.Ytggjgjcdpnidnaa
