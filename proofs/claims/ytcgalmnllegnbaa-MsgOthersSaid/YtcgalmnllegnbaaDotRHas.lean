/- The walk of the document's Has. -/
import Derived.Test.YtcgalmnllegnbaaDotRRight
namespace Go.Proofs.Ytcgalmnllegnbaa
set_option linter.unusedVariables false
set_option linter.unusedSimpArgs false
set_option maxRecDepth 100000
open Go.RowKit
open Dot
theorem hasB_false1 {U : List Int} {l : List Dt} {d : Dt} (h : rightB U l = false) : hasB U l d = false := by unfold hasB hasG; rw [h]; simp
theorem hasB_false2 {U : List Int} {l : List Dt} {d : Dt} (h : mayB d = false) : hasB U l d = false := by unfold hasB; rw [h]; rfl
theorem hasB_eq {U : List Int} {l : List Dt} {y p : Nat} (h : rightB U l = true) (hm : mayB ((y : Int), (p : Int)) = true) : hasB U l ((y : Int), (p : Int)) = (decide ((p : Int) ≤ U.getD y 0) || l.contains ((y : Int), (p : Int))) := by
  have := (may_iff _).1 hm
  simp only at this
  unfold hasB hasG
  rw [h, hm]
  simp only [Int.toNat_natCast]
  rw [decide_eq_true (show y < 8 by omega), decide_eq_true (show 1 ≤ p by omega), decide_eq_true (show p ≤ 96 by omega)]
  simp
end Go.Proofs.Ytcgalmnllegnbaa
