/- The walk of the document's List. -/
import Derived.Test.YtiemlnomlfebkaaDotRHas
namespace Go.Proofs.Ytiemlnomlfebkaa
open Go.RowKit
open Dot
theorem hasG_zero (U : List Int) (l : List Dt) (n : Nat) : hasG U l n 0 = false := by simp [hasG]
theorem hasG_top (U : List Int) (l : List Dt) (n : Nat) : hasG U l n 97 = false := by simp [hasG]
theorem hasB_grid {U : List Int} {l : List Dt} {y p : Nat} (hy : y < 8) (h1 : 1 ≤ p) (h2 : p ≤ 96) : hasB U l ((y : Int), (p : Int)) = hasG U l y p := by
  have hm : mayB ((y : Int), (p : Int)) = true := (may_iff _).2 (by simp only; omega)
  unfold hasB
  rw [hm]
  simp
end Go.Proofs.Ytiemlnomlfebkaa
