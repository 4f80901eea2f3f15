import Derived.Test.YtcgalmnllegnbaaVintPut
namespace Go.Proofs.Ytcgalmnllegnbaa
set_option linter.unusedVariables false
set_option linter.unusedSimpArgs false
set_option maxRecDepth 100000
open Go.RowKit
section
variable {w w' : World} {g : Nat} {A : Option Addr} {n c : Nat} {bs : List UInt8} {e : Nat}
end
abbrev fault (x : Int) : Value:=.iface 157 (.agg #[.int .i64 x])
end Go.Proofs.Ytcgalmnllegnbaa
