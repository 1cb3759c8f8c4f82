/- Contracts of the helpers of the exact laws on songs: copy, compare, write, count. Conditions: lengths at most 2^20. -/
import Derived.Test.YtnkoijkelcjloaaMrg1
import Derived.Deep.Cut
namespace Go.Proofs.Ytnkoijkelcjloaa
open Go.RowKit
set_option linter.unusedSimpArgs false
set_option linter.unusedVariables false
set_option maxRecDepth 100000
end Go.Proofs.Ytnkoijkelcjloaa
