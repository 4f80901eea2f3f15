/- How a tally that came in reads. -/
import Derived.Test.YtoepklcmdmeanaaOpen
import Derived.Test.YtoepklcmdmeanaaTallyEq
namespace Go.Proofs.Ytoepklcmdmeanaa
open Go.ChangeShapes Go.WideShapes Go.ChangeAt Go.RowKit Go.Deep
open Tally
section
variable {H : Type} {enc : TypeId × Value → H} {W : World} {base : Nat} {sp : Nat → Bool} {held : Bool} {fuel : Nat} {cs : List Value} {x : DataW H × List MemPlace}
theorem rd_arr8 (hf : DataW.trod enc Try.prog W base sp held fuel 22 cs = some x) : ∃ l : List Int, cs = l.map (Value.int .i64) ∧ l.length = 8 ∧ Wf l := by
  obtain ⟨xs, m, _, _, hl, hxl, hg⟩ := DataW.trod_array Try.underlying22 hf
  rw [cellsA] at hl
  rw [cellsI] at hg
  have key : ∀ i, i < 8 → ∃ z : Int, cs[i]? = some (.int .i64 z) ∧ (Lit.int .i64 z).wf = true := fun i hi => by
    have h := hg i hi
    rw [List.getElem?_eq_getElem (by omega)] at h
    obtain ⟨z, h1, h2⟩ := rd_int h
    rw [Nat.mul_one] at h1
    refine ⟨z, ?_, wf_of h2.1 h2.2⟩
    have : ((cs.drop i).take 1)[0]? = some (.int .i64 z) := by rw [h1]; rfl
    rw [List.getElem?_take, if_pos (by omega), List.getElem?_drop] at this
    exact this
  have hex : ∀ i, ∃ z : Int, i < 8 → cs[i]? = some (.int .i64 z) ∧ (Lit.int .i64 z).wf = true := fun i => by
    by_cases hi : i < 8
    · obtain ⟨z, h⟩ := key i hi
      exact ⟨z, fun _ => h⟩
    · exact ⟨0, fun h => absurd h hi⟩
  refine ⟨(List.range 8).map fun i => (hex i).choose, ?_, by simp, fun z hz => ?_⟩
  · apply List.ext_getElem?
    intro i
    by_cases hi : i < 8
    · rw [((hex i).choose_spec hi).1, List.getElem?_map, List.getElem?_map, List.getElem?_range hi]
      rfl
    · rw [List.getElem?_eq_none (by omega), List.getElem?_eq_none (by simp; omega)]
  · obtain ⟨i, hi, rfl⟩ := List.mem_map.1 hz
    exact ((hex i).choose_spec (by simpa using hi)).2
theorem rd_tally {T : TypeId} (hT : TwoT T) (hf : DataW.trod enc Try.prog W base sp held fuel T cs = some x) : ∃ l : List Int, cs.toArray = tc l ∧ l.length = 16 ∧ Wf l := by
  obtain ⟨⟨f0, f1, hu, t0, o0, t1, o1, _, _⟩, hc, _, _⟩ := hT
  have hl := rd_len hu hc hf
  obtain ⟨_, _, g0⟩ := rd_field hu hf 0 22 0 8 (by simp [t0, o0]) cellsA
  obtain ⟨_, _, g1⟩ := rd_field hu hf 1 22 8 8 (by simp [t1, o1]) cellsA
  obtain ⟨l0, e0, n0, w0⟩ := rd_arr8 g0
  obtain ⟨l1, e1, n1, w1⟩ := rd_arr8 g1
  refine ⟨l0 ++ l1, ?_, by simp [n0, n1], fun z hz => ?_⟩
  · unfold tc
    rw [List.map_append, ← e0, ← e1, List.drop_zero, List.take_of_length_le (l := cs.drop 8) (by simp; omega), List.take_append_drop]
  · rcases List.mem_append.1 hz with h | h
    · exact w0 z h
    · exact w1 z h
end
theorem open_tally {H : Type} {enc : TypeId × Value → H} {W : World} {base : Nat} {sp : Nat → Bool} {held : Bool} {r : Reach} {b0 : Nat} {v : Value} {d : DataW H} {p : List MemPlace}
    (hv : Value.okWide Try.prog W r b0 24 v) (h : DataW.Trod enc Try.prog W base sp held 24 v d p) : ∃ l : List Int, v = .agg (tc l) ∧ l.length = 16 ∧ Wf l := by
  obtain ⟨cs, rfl, hsz⟩ := okWide_struct Try.underlying24 hv
  obtain ⟨fuel, hf0⟩ := h
  have hf : DataW.trod enc Try.prog W base sp held fuel 24 cs.toList = some (d, p) := hf0
  obtain ⟨l, h1, h2, h3⟩ := rd_tally twoR hf
  exact ⟨l, by rw [← h1], h2, h3⟩
end Go.Proofs.Ytoepklcmdmeanaa
