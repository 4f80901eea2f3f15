/- The walks of Values, and of the document's Ints. -/
import Derived.Test.YtocoohpekpkmkaaGreatRegPut
import Derived.Test.YtocoohpekpkmkaaGreatInts
namespace Go.Proofs.YtocoohpekpkmkaaGreat
set_option linter.unusedVariables false
set_option linter.unusedSimpArgs false
open Go.RowKit
open Reg
theorem fieldM {U : List Int} (h : U.length = 8) (A : Option Addr) (n c' : Nat) (w : World) : (Instr.field 39 (.agg (uc U (.slice A n c'))) 1).run Tryz.prog w = .ok (.slice A n c') w := by
  obtain ⟨a, b, c, d, e, f, g, i, rfl⟩ := eight h
  kernel_rfl
end Go.Proofs.YtocoohpekpkmkaaGreat
