/- The walk of the law's alive (printed by gen/regalive.py). -/
import Derived.Test.YtocoohpekpkmkaaGreatRegMeet
import Derived.Test.YtocoohpekpkmkaaGreatRegVals
import Derived.Test.YtocoohpekpkmkaaGreatRegLast
namespace Go.Proofs.YtocoohpekpkmkaaGreat
set_option linter.unusedVariables false
set_option linter.unusedSimpArgs false
open Go.RowKit
open Reg
theorem al1 : putM z8 [] 0 5 = (([1, 0, 0, 0, 0, 0, 0, 0], [(0, 1, 5)]), 0) := by decide
theorem al2 : putM z8 [] 1 7 = (([0, 1, 0, 0, 0, 0, 0, 0], [(1, 1, 7)]), 0) := by decide
theorem al3 : ownM [1, 0, 0, 0, 0, 0, 0, 0] [(0, 1, 5)] = ([1, 0, 0, 0, 0, 0, 0, 0], [(0, 1, 5)]) := by decide
theorem al4 : ownM [0, 1, 0, 0, 0, 0, 0, 0] [(1, 1, 7)] = ([0, 1, 0, 0, 0, 0, 0, 0], [(1, 1, 7)]) := by decide
theorem al5 : maxL [1, 0, 0, 0, 0, 0, 0, 0] [0, 1, 0, 0, 0, 0, 0, 0] = [1, 1, 0, 0, 0, 0, 0, 0] := by decide
theorem al6 : meetL [1, 0, 0, 0, 0, 0, 0, 0] [0, 1, 0, 0, 0, 0, 0, 0] [(0, 1, 5)] [(1, 1, 7)] = [(0, 1, 5), (1, 1, 7)] := by decide
theorem al7 : putM [1, 1, 0, 0, 0, 0, 0, 0] [(0, 1, 5), (1, 1, 7)] 1 9 = (([1, 2, 0, 0, 0, 0, 0, 0], [(1, 2, 9)]), 0) := by decide
theorem al8 : ownM [1, 2, 0, 0, 0, 0, 0, 0] [(1, 2, 9)] = ([1, 2, 0, 0, 0, 0, 0, 0], [(1, 2, 9)]) := by decide
theorem al9 : maxL [1, 0, 0, 0, 0, 0, 0, 0] [1, 2, 0, 0, 0, 0, 0, 0] = [1, 2, 0, 0, 0, 0, 0, 0] := by decide
theorem al10 : meetL [1, 0, 0, 0, 0, 0, 0, 0] [1, 2, 0, 0, 0, 0, 0, 0] [(0, 1, 5)] [(1, 2, 9)] = [(1, 2, 9)] := by decide
theorem al11 : valuesM [1, 1, 0, 0, 0, 0, 0, 0] [(0, 1, 5), (1, 1, 7)] = [5, 7] := by decide
theorem al12 : valuesM [1, 2, 0, 0, 0, 0, 0, 0] [(1, 2, 9)] = [9] := by decide
theorem al13 : writeL (0, 0, 0) 3 4 = ((1, 3, 4), 0) := by decide
def sA : List Int := [1, 0, 0, 0, 0, 0, 0, 0]
def sB : List Int := [0, 1, 0, 0, 0, 0, 0, 0]
def sM : List Int := [1, 1, 0, 0, 0, 0, 0, 0]
def sC : List Int := [1, 2, 0, 0, 0, 0, 0, 0]
theorem putA (w : World) : Calls Tryz.prog 47 #[.agg zc, .int .i64 0, .int .i64 5] w fun e w' => ∃ A c, e = .returned (.tuple #[.agg (uc sA (.slice A 1 c)), .int .i64 0]) ∧ OwnV 84 w' w.heap.size A 1 c [(0, 1, 5)] ∧ Below w.heap.size w w' := by
  have h := put29_any z8 rfl none 0 0 [] 0 5 w (RdV.nil _ _ _) (by omega)
  rw [← zc_eq, al1] at h
  refine h.mono ?_
  rintro e w' ⟨A, m, c, rfl, o, b⟩
  obtain rfl : m = 1 := o.1
  exact ⟨A, c, rfl, o, b⟩
theorem putB (w : World) : Calls Tryz.prog 47 #[.agg zc, .int .i64 1, .int .i64 7] w fun e w' => ∃ A c, e = .returned (.tuple #[.agg (uc sB (.slice A 1 c)), .int .i64 0]) ∧ OwnV 84 w' w.heap.size A 1 c [(1, 1, 7)] ∧ Below w.heap.size w w' := by
  have h := put29_any z8 rfl none 0 0 [] 1 7 w (RdV.nil _ _ _) (by omega)
  rw [← zc_eq, al2] at h
  refine h.mono ?_
  rintro e w' ⟨A, m, c, rfl, o, b⟩
  obtain rfl : m = 1 := o.1
  exact ⟨A, c, rfl, o, b⟩
theorem meetAB (A A2 : Option Addr) (c c2 : Nat) (w : World) (h1 : RdV w w.heap.size A 1 [(0, 1, 5)]) (h2 : RdV w w.heap.size A2 1 [(1, 1, 7)]) : Calls Tryz.prog 61 #[.agg (uc sA (.slice A 1 c)), .agg (uc sB (.slice A2 1 c2))] w fun e w' => ∃ A c, e = .returned (.agg (uc sM (.slice A 2 c))) ∧ OwnV 84 w' w.heap.size A 2 c [(0, 1, 5), (1, 1, 7)] ∧ Below w.heap.size w w' := by
  have h := meet29_any sA sB rfl rfl A A2 1 c 1 c2 _ _ w h1 h2 (by omega) (by omega)
  unfold sA sB at *
  rw [al3, al4] at h
  simp only at h
  rw [al5, al6] at h
  refine h.mono ?_
  rintro e w' ⟨A, m, c, rfl, o, b⟩
  obtain rfl : m = 2 := o.1
  exact ⟨A, c, rfl, o, b⟩
theorem putC (A : Option Addr) (c : Nat) (w : World) (h1 : RdV w w.heap.size A 2 [(0, 1, 5), (1, 1, 7)]) : Calls Tryz.prog 47 #[.agg (uc sM (.slice A 2 c)), .int .i64 1, .int .i64 9] w fun e w' => ∃ A c, e = .returned (.tuple #[.agg (uc sC (.slice A 1 c)), .int .i64 0]) ∧ OwnV 84 w' w.heap.size A 1 c [(1, 2, 9)] ∧ Below w.heap.size w w' := by
  have h := put29_any sM rfl A 2 c _ 1 9 w h1 (by omega)
  unfold sM at *
  rw [al7] at h
  refine h.mono ?_
  rintro e w' ⟨A, m, c, rfl, o, b⟩
  obtain rfl : m = 1 := o.1
  exact ⟨A, c, rfl, o, b⟩
theorem meetAC (A A2 : Option Addr) (c c2 : Nat) (w : World) (h1 : RdV w w.heap.size A 1 [(0, 1, 5)]) (h2 : RdV w w.heap.size A2 1 [(1, 2, 9)]) : Calls Tryz.prog 61 #[.agg (uc sA (.slice A 1 c)), .agg (uc sC (.slice A2 1 c2))] w fun e w' => ∃ A c, e = .returned (.agg (uc sC (.slice A 1 c))) ∧ OwnV 84 w' w.heap.size A 1 c [(1, 2, 9)] ∧ Below w.heap.size w w' := by
  have h := meet29_any sA sC rfl rfl A A2 1 c 1 c2 _ _ w h1 h2 (by omega) (by omega)
  unfold sA sC at *
  rw [al3, al8] at h
  simp only at h
  rw [al9, al10] at h
  refine h.mono ?_
  rintro e w' ⟨A, m, c, rfl, o, b⟩
  obtain rfl : m = 1 := o.1
  exact ⟨A, c, rfl, o, b⟩
theorem writeW (w : World) : Calls Tryz.prog 44 #[.agg #[.int .i64 0, .int .i64 0, .int .i64 0], .int .i64 3, .int .i64 4] w fun e w' => e = .returned (.tuple #[.agg #[.int .i64 1, .int .i64 3, .int .i64 4], .int .i64 0]) ∧ Below w.heap.size w w' := by
  have h := write29_any (0, 0, 0) 3 4 (by decide) w
  rw [al13] at h
  exact h
end Go.Proofs.YtocoohpekpkmkaaGreat
