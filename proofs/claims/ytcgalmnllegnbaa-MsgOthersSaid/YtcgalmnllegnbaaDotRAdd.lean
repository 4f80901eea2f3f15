/- The walk of the document's Add. -/
import Derived.Test.YtcgalmnllegnbaaDotCopy
import Derived.Test.YtcgalmnllegnbaaDotLaw
namespace Go.Proofs.Ytcgalmnllegnbaa
set_option linter.unusedVariables false
set_option linter.unusedSimpArgs false
set_option maxRecDepth 100000
open Go.RowKit
open Dot
end Go.Proofs.Ytcgalmnllegnbaa
