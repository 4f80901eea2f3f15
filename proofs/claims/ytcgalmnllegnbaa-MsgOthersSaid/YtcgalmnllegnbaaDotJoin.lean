/- The walk of Join. -/
import Derived.Test.YtcgalmnllegnbaaDotGreat
namespace Go.Proofs.Ytcgalmnllegnbaa
set_option linter.unusedVariables false
set_option linter.unusedSimpArgs false
set_option maxRecDepth 100000
open Go.RowKit
open Dot
theorem rowset_two {w : World} {B : Nat} (s u : SetV) (h : s.U.length = 8) (h' : u.U.length = 8) (hr : RdD w B s.A s.n s.l) (hr' : RdD w B u.A u.n u.l) (hB : B ≤ w.heap.size) (t : TypeId) (mk : Nat × Nat) :
    RowSet (w.alloc (.cells (uc s.U (.slice s.A s.n s.c) ++ uc u.U (.slice u.A u.n u.c)) t mk)) B w.heap.size [s, u] := by
  refine ⟨by simp, fun i x hi => ?_⟩
  have hb : Below w.heap.size w (w.alloc (.cells (uc s.U (.slice s.A s.n s.c) ++ uc u.U (.slice u.A u.n u.c)) t mk)) := (Below.refl _ _).alloc (Nat.le_refl _) _
  have hs := uc_size h (.slice s.A s.n s.c)
  match i, hi with
  | 0, hi =>
    simp at hi
    subst hi
    refine ⟨fun j v hv => ?_, h, hr.below (hb.mono hB)⟩
    have hj : j < 9 := by
      have := (List.getElem?_eq_some_iff.1 hv).1
      unfold SetV.cs at this
      rw [List.length_append, List.length_map, h] at this
      exact this
    rw [Nat.zero_mul, Nat.zero_add, World.cell?_alloc_mark, Array.getElem?_append_left (by omega)]
    unfold uc
    rw [List.getElem?_toArray]
    exact hv
  | 1, hi =>
    simp at hi
    subst hi
    refine ⟨fun j v hv => ?_, h', hr'.below (hb.mono hB)⟩
    rw [World.cell?_alloc_mark, Array.getElem?_append_right (by omega), hs, show 1 * 9 + j - 9 = j by omega]
    unfold uc
    rw [List.getElem?_toArray]
    exact hv
  | i + 2, hi => simp at hi
end Go.Proofs.Ytcgalmnllegnbaa
