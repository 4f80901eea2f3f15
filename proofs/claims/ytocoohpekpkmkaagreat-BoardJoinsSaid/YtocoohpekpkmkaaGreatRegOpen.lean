/- How registers of which the last write counts read when they come in. -/
import Derived.Test.YtocoohpekpkmkaaGreatOpen
import Derived.Test.YtocoohpekpkmkaaGreatRegAlive
import Derived.Test.YtocoohpekpkmkaaGreatRegEq
namespace Go.Proofs.YtocoohpekpkmkaaGreat
set_option linter.unusedVariables false
set_option linter.unusedSimpArgs false
open Go.ChangeShapes Go.WideShapes Go.ChangeAt Go.RowKit Go.Deep
open Reg
set_option maxRecDepth 100000
theorem cellsLa : (Tryz.prog).cellsOf 26 = 3 := by kernel_rfl
section
variable {H : Type} {enc : TypeId × Value → H} {W : World} {base : Nat} {sp : Nat → Bool} {held : Bool} {fuel : Nat} {cs : List Value} {x : DataW H × List MemPlace}
theorem rd_la (hf : DataW.trod enc Tryz.prog W base sp held fuel 26 cs = some x) : ∃ d : La, cs = [.int .i64 d.1, .int .i64 d.2.1, .int .i64 d.2.2] ∧ -9223372036854775808 ≤ d.1 := by
  have hl := rd_len Tryz.underlying26 cellsLa hf
  obtain ⟨_, _, g0⟩ := rd_field Tryz.underlying26 hf 0 3 0 1 rfl cellsI
  obtain ⟨_, _, g1⟩ := rd_field Tryz.underlying26 hf 1 3 1 1 rfl cellsI
  obtain ⟨_, _, g2⟩ := rd_field Tryz.underlying26 hf 2 3 2 1 rfl cellsI
  obtain ⟨x0, e0, h0⟩ := rd_int g0
  obtain ⟨x1, e1, _⟩ := rd_int g1
  obtain ⟨x2, e2, _⟩ := rd_int g2
  match cs, hl with
  | [a, b, c], _ =>
    simp at e0 e1 e2
    exact ⟨(x0, x1, x2), by rw [e0, e1, e2], h0.1⟩
end
section
variable {H : Type} {enc : TypeId × Value → H} {W : World} {base : Nat} {sp : Nat → Bool} {held : Bool} {r : Reach} {b0 : Nat} {v : Value} {d : DataW H} {p : List MemPlace}
theorem open_la (hv : Value.okWide Tryz.prog W r b0 26 v) (h : DataW.Trod enc Tryz.prog W base sp held 26 v d p) : ∃ a : La, v = v3 a ∧ -9223372036854775808 ≤ a.1 := by
  obtain ⟨cs, rfl, hsz⟩ := okWide_struct Tryz.underlying26 hv
  obtain ⟨fuel, hf0⟩ := h
  have hf : DataW.trod enc Tryz.prog W base sp held fuel 26 cs.toList = some (d, p) := hf0
  obtain ⟨a, h1, h2⟩ := rd_la hf
  exact ⟨a, by rw [← Array.toArray_toList (xs := cs), h1]; rfl, h2⟩
end
end Go.Proofs.YtocoohpekpkmkaaGreat
