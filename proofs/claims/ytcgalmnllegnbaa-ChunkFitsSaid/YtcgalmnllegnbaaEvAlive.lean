import Derived.Test.YtcgalmnllegnbaaEvWput
import Derived.Test.YtcgalmnllegnbaaBytes
namespace Go.Proofs.Ytcgalmnllegnbaa
set_option linter.unusedVariables false
set_option linter.unusedSimpArgs false
set_option maxRecDepth 100000
open Go.RowKit
open Dot Evt
def exZ : Ev:=⟨(0,0),0,0,0,0,Evt.p0,[]⟩
abbrev cE : Array Value:=#[.int .i64 1,.int .i64 2,.int .i64 3,.int .i64 1,.int .i64 4,.int .i64 5,.int .i64 0,.int .i64 0,.int .i64 0,.int .i64 0,.int .i64 0,.int .i64 0,.int .i64 0,.slice none 0 0]
abbrev cT (t : Int) : Array Value:=#[.int .i64 0,.int .i64 0,.int .i64 t,.int .i64 0,.int .i64 0,.int .i64 0,.int .i64 0,.int .i64 0,.int .i64 0,.int .i64 0,.int .i64 0,.int .i64 0,.int .i64 0,.slice none 0 0]
end Go.Proofs.Ytcgalmnllegnbaa
