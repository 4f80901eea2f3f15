/- The walk of the document's Of. -/
import Derived.Test.YtcgalmnllegnbaaDotRList
namespace Go.Proofs.Ytcgalmnllegnbaa
set_option linter.unusedVariables false
set_option linter.unusedSimpArgs false
set_option maxRecDepth 100000
open Go.RowKit
open Dot
theorem listG_no : listG [] = noG := rfl
theorem listG_snoc (l : List Dt) (d : Dt) : listG (l ++ [d]) = if mayB d = true then putG (listG l) d else listG l := by
  funext n q
  unfold listG
  rw [List.any_append]
  by_cases h : mayB d = true
  · rw [if_pos h]
    unfold putG
    simp only [List.any_cons, List.any_nil, h, Bool.true_and, Bool.or_false]
    congr 1
    rw [show decide ((n : Int) = d.1) = decide (d.1 = (n : Int)) by simp [eq_comm], show decide ((q : Int) = d.2) = decide (d.2 = (q : Int)) by simp [eq_comm]]
  · rw [if_neg h]
    simp [h]
theorem listG_zero (l : List Dt) (n : Nat) : listG l n 0 = false := by
  rw [← Bool.not_eq_true]
  intro h
  unfold listG at h
  rw [List.any_eq_true] at h
  obtain ⟨d, _, h⟩ := h
  simp only [Bool.and_eq_true, decide_eq_true_eq] at h
  have := (may_iff d).1 h.1.1
  omega
theorem listG_top (l : List Dt) (n : Nat) : listG l n 97 = false := by
  rw [← Bool.not_eq_true]
  intro h
  unfold listG at h
  rw [List.any_eq_true] at h
  obtain ⟨d, _, h⟩ := h
  simp only [Bool.and_eq_true, decide_eq_true_eq] at h
  have := (may_iff d).1 h.1.1
  omega
theorem upT_fill (G : Grid) (n q : Nat) (hn : n < 8) : (upT G n q).set n (lead (G n) 98 : Int) = upT G n 98 := upT_ext (by rw [List.length_set, upT_len]) fun j hj => by
  by_cases e : n = j
  · subst e
    rw [List.getElem?_set_self (by rw [upT_len]; omega), if_neg (by omega), if_pos rfl]
  · rw [List.getElem?_set_ne e, upT_get G n q hj]
    by_cases h1 : j < n
    · rw [if_pos h1, if_pos h1]
    · rw [if_neg h1, if_neg h1, if_neg (fun h => e h.symm), if_neg (fun h => e h.symm)]
/-- Of, under way, behind the grid -/
def RofI (w0 : World) (base b gs : Nat) (G : Grid) (U : List Int) (M : List Dt) (w : World) : Prop := Blk w (b + 1) 171 (gc G) ∧ Blk w b 84 (uc (uptoS noG) (.slice none 0 0)) ∧ Below base w0 w ∧ ∃ A m c, Blk w gs 84 (uc U (.slice A m c)) ∧ OwnD w base A m c M
theorem zvalG97 (w : World) : (zeroValue 171).run Try.prog w = .ok (.agg (gc noG)) w := by kernel_rfl
end Go.Proofs.Ytcgalmnllegnbaa
