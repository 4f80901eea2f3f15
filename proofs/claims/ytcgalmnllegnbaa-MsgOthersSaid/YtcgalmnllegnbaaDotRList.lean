/- The walk of the document's List. -/
import Derived.Test.YtcgalmnllegnbaaDotRHas
namespace Go.Proofs.Ytcgalmnllegnbaa
set_option linter.unusedVariables false
set_option linter.unusedSimpArgs false
set_option maxRecDepth 100000
open Go.RowKit
open Dot
theorem hasG_zero (U : List Int) (l : List Dt) (n : Nat) : hasG U l n 0 = false := by simp [hasG]
theorem hasG_top (U : List Int) (l : List Dt) (n : Nat) : hasG U l n 97 = false := by simp [hasG]
theorem hasB_grid {U : List Int} {l : List Dt} {y p : Nat} (hy : y < 8) (h1 : 1 ≤ p) (h2 : p ≤ 96) : hasB U l ((y : Int), (p : Int)) = hasG U l y p := by
  have hm : mayB ((y : Int), (p : Int)) = true := (may_iff _).2 (by simp only; omega)
  unfold hasB
  rw [hm]
  simp
end Go.Proofs.Ytcgalmnllegnbaa
