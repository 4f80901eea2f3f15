/- Words for the walk: to stand at an operation; to give the world a name. -/
import Derived.Test.YtcgalmnllegnbaaMem
namespace Go.Proofs.Ytcgalmnllegnbaa
set_option linter.unusedVariables false
set_option linter.unusedSimpArgs false
set_option maxRecDepth 100000
open Go.RowKit
/-- The walk stands here. -/
def Stop (p : Prop) : Prop := p
theorem stop {p : Prop} (h : Stop p) : p := h
theorem nameL {P : Program} {ops : Array Oper} {Q : Exit → Act → World → Prop} {rest : List Oper} {a : Act} {w : World} (h : ∀ v, v = w → wpList P ops Q rest a v) : wpList P ops Q rest a w := h w rfl
theorem nameC {P : Program} {f : FuncId} {args : Array Value} {w : World} {R : Ending → World → Prop} (h : ∀ v, v = w → Calls P f args v R) : Calls P f args w R := h w rfl
theorem nameW {P : Program} {c : Code} {Q : Exit → Act → World → Prop} {a : Act} {w : World} (h : ∀ v, v = w → Code.wp P c Q a v) : Code.wp P c Q a w := h w rfl
end Go.Proofs.Ytcgalmnllegnbaa
