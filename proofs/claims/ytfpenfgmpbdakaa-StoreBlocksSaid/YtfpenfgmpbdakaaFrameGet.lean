/- The walk of package frame's Get. -/
import Derived.Test.YtfpenfgmpbdakaaFrameRead
import Derived.Test.YtfpenfgmpbdakaaEvNoP
namespace Go.Proofs.Ytfpenfgmpbdakaa
set_option linter.unusedVariables false
set_option linter.unusedSimpArgs false
open Go.RowKit
namespace Frame
/-- What Get leaves. -/
def GetF (w : World) (bs : List UInt8) (e : Ending) (w' : World) : Prop :=
  Below w.heap.size w w' ∧ match dec bs with
    | .ok (x, r) => ∃ A1 c1 A2 c2, e = .returned (.tuple #[.slice A1 x.length c1, .slice A2 r.length c2, .int .i64 0]) ∧ OwnB w' w.heap.size A1 x.length c1 x ∧ OwnB w' w.heap.size A2 r.length c2 r ∧ ∀ g, A1.map (·.block) = some g → A2.map (·.block) ≠ some g
    | .error y => e = .returned (.tuple #[.slice none 0 0, .slice none 0 0, .int .i64 (y : Nat)])
end Frame
end Go.Proofs.Ytfpenfgmpbdakaa
