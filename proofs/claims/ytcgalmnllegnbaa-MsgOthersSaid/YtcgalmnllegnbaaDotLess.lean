/- The walk of Less's closure. -/
import Derived.Test.YtcgalmnllegnbaaDotJoin
namespace Go.Proofs.Ytcgalmnllegnbaa
set_option linter.unusedVariables false
set_option linter.unusedSimpArgs false
set_option maxRecDepth 100000
open Go.RowKit
open Dot
end Go.Proofs.Ytcgalmnllegnbaa
