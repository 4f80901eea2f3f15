import Derived.Test.YtfpenfgmpbdakaaGreatMem
namespace Go.Proofs.YtfpenfgmpbdakaaGreat
set_option linter.unusedVariables false
set_option linter.unusedSimpArgs false
set_option maxRecDepth 100000
open Go.RowKit
theorem nameW {P : Program} {c : Code} {Q : Exit→Act→World→Prop} {a : Act} {w : World} (h : ∀ v,v = w→Code.wp P c Q a v) : Code.wp P c Q a w:=h w rfl
end Go.Proofs.YtfpenfgmpbdakaaGreat
