/- The walks of List, Count, Join. -/
import Derived.Test.YtcgalmnllegnbaaDotAdd
namespace Go.Proofs.Ytcgalmnllegnbaa
set_option linter.unusedVariables false
set_option linter.unusedSimpArgs false
set_option maxRecDepth 100000
open Go.RowKit
open Dot

/-- List, under way -/
def LstI (w0 : World) (base g gs : Nat) (G : Grid) (n q : Nat) (w : World) : Prop := q ≤ 98 ∧ n ≤ 8 ∧ Blk w g 172 (gc G) ∧ ∃ A m c, Blk w gs 23 #[.slice A m c] ∧ OwnD w base A m c (dotsTo G n ++ rowTo G n q) ∧ A.map (·.block) ≠ some gs ∧ Below base w0 w
theorem lst_skip (w0 : World) (base g gs : Nat) (G : Grid) (n q : Nat) (w : World) (hq : q < 98) (hg : G n q = false) (hI : LstI w0 base g gs G n q w) : LstI w0 base g gs G n (q + 1) w := by
  obtain ⟨_, hn, kg, A, m, c, ks, oD, hne, hb⟩ := hI
  refine ⟨by omega, hn, kg, A, m, c, ks, ?_, hne, hb⟩
  rw [rowTo, if_neg (by rw [hg]; simp)]
  exact oD
theorem lst_next (w0 : World) (base g gs : Nat) (G : Grid) (n : Nat) (w : World) (hn : n < 8) (hI : LstI w0 base g gs G n 98 w) : LstI w0 base g gs G (n + 1) 0 w := by
  obtain ⟨_, _, kg, A, m, c, ks, oD, hne, hb⟩ := hI
  refine ⟨by omega, by omega, kg, A, m, c, ks, ?_, hne, hb⟩
  rw [show dotsTo G (n + 1) ++ rowTo G (n + 1) 0 = dotsTo G n ++ rowTo G n 98 by rw [show rowTo G (n + 1) 0 = [] from rfl, List.append_nil]; rfl]
  exact oD
theorem results_cell {P : Program} {fn : Func} {p : Tmp} {w : World} {tmps : Array Value} {T : TypeId} {g : Nat} {v : Value} (h : fn.results = #[.cell p T]) (hag : ∀ w, (isAgg T).run P w = .ok false w) (hc : w.cell? ⟨g, 0, none⟩ = some v) (hp : tmps.getD p undef = .pointer (some ⟨g, 0, none⟩)) : (results fn tmps).run P w = .ok v w := by
  have hp' : tmps[p]?.getD undef = .pointer (some ⟨g, 0, none⟩) := by simpa using hp
  simp [results, h, hp', asAddr, loadVar, hag, hc]
/-- a row, as a call hands it back -/
def ListEnd (w : World) (l : List Dt) (e : Ending) (w' : World) : Prop := ∃ A m c, e = .returned (.slice A m c) ∧ OwnD w' w.heap.size A m c l ∧ Below w.heap.size w w'
end Go.Proofs.Ytcgalmnllegnbaa
