/- Contracts of the exact laws' helpers that read marks back, on songs, and of toInterval. Conditions: lengths at most 2^20. -/
import Derived.Test.YtnkoijkelcjloaaRecSong2
namespace Go.Proofs.Ytnkoijkelcjloaa
open Go.RowKit
set_option linter.unusedSimpArgs false
set_option linter.unusedVariables false
set_option maxRecDepth 100000
end Go.Proofs.Ytnkoijkelcjloaa
