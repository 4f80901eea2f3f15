import Derived.Test.YtcgalmnllegnbaaEvWput
namespace Go.Proofs.Ytcgalmnllegnbaa
set_option linter.unusedVariables false
set_option linter.unusedSimpArgs false
set_option maxRecDepth 100000
open Go.RowKit
open Dot Evt
def putE (x : Ev) : List UInt8 × Nat:=if rightE x = true then (encE x,0) else ([],2)
end Go.Proofs.Ytcgalmnllegnbaa
