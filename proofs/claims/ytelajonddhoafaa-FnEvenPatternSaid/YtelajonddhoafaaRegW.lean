/- The tactic for a region that draws its order and holds calls, for the laws over draws; no statement of its own but one word. -/
import Derived.Test.YtelajonddhoafaaBase
import Derived.Deep.RegionWith
import Derived.Deep.RegionHeld3
namespace Go.Proofs.Ytelajonddhoafaa
set_option linter.unusedVariables false
open Go.RowKit
theorem below_drewN1 {B : Nat} {a w : World} (h : Below B a w) : Below B a w.drew := below_drewN h 1
end Go.Proofs.Ytelajonddhoafaa
