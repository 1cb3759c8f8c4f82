/- Contracts of the draws of the laws over songs. No condition but bounds on the bytes. -/
import Derived.Test.YtmodpleonhniaaaGreatDoorDrawU
namespace Go.Proofs.YtmodpleonhniaaaGreatDoor
open Go.RowKit
set_option linter.unusedSimpArgs false
set_option linter.unusedVariables false
set_option maxRecDepth 100000
def RetDS (w : World) (e : Ending) (w' : World) : Prop :=
  ∃ (f : Int) (m : Bool) (b u : Int) (C : Option Addr) (d : Nat) (ts : List (Int × Int)) (A2 : Option Addr) (c2 : Nat) (vs : List (List Nt)), e = .returned (.agg #[.int .i64 f, .bool m, .int .i64 b, .int .i64 u, .slice C ts.length d, .slice A2 vs.length c2]) ∧ ts.length ≤ 4 ∧ vs.length ≤ 4 ∧ (∀ v ∈ vs, v.length ≤ 61) ∧ RdTempo w' w'.heap.size C ts ∧ RdVs w' w'.heap.size A2 vs ∧ Below w.heap.size w w'
end Go.Proofs.YtmodpleonhniaaaGreatDoor
