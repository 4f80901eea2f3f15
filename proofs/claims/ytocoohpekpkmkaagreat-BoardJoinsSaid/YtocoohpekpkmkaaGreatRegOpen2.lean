/- How registers read when they come in. -/
import Derived.Test.YtocoohpekpkmkaaGreatRegOpen
import Derived.Test.YtocoohpekpkmkaaGreatRegLaw
namespace Go.Proofs.YtocoohpekpkmkaaGreat
set_option linter.unusedVariables false
set_option linter.unusedSimpArgs false
open Go.ChangeShapes Go.WideShapes Go.ChangeAt Go.RowKit Go.Deep
open Reg
set_option maxRecDepth 100000
theorem cellsRV : (Tryz.prog).cellsOf 121 = 3 := by kernel_rfl
theorem cellsRVs : (Tryz.prog).cellsOf 28 = 1 := by kernel_rfl
theorem cellsRM : (Tryz.prog).cellsOf 30 = 9 := by kernel_rfl
section
variable {H : Type} {enc : TypeId × Value → H} {W : World} {base : Nat} {sp : Nat → Bool} {held : Bool} {fuel : Nat} {cs : List Value} {x : DataW H × List MemPlace}
theorem rd_arr8 (hf : DataW.trod enc Tryz.prog W base sp held fuel 22 cs = some x) : ∃ l : List Int, cs = l.map (Value.int .i64) ∧ l.length = 8 ∧ Wf l := by
  obtain ⟨xs, m, _, _, hl, hxl, hg⟩ := DataW.trod_array Tryz.underlying22 hf
  rw [cellsA] at hl
  rw [cellsI] at hg
  have key : ∀ i, i < 8 → ∃ z : Int, cs[i]? = some (.int .i64 z) ∧ (Lit.int .i64 z).wf = true := fun i hi => by
    have h := hg i hi
    rw [List.getElem?_eq_getElem (by omega)] at h
    obtain ⟨z, h1, h2⟩ := rd_int h
    rw [Nat.mul_one] at h1
    refine ⟨z, ?_, wf_of h2.1 h2.2⟩
    have : ((cs.drop i).take 1)[0]? = some (.int .i64 z) := by rw [h1]; rfl
    rw [List.getElem?_take, if_pos (by omega), List.getElem?_drop] at this
    exact this
  have hex : ∀ i, ∃ z : Int, i < 8 → cs[i]? = some (.int .i64 z) ∧ (Lit.int .i64 z).wf = true := fun i => by
    by_cases hi : i < 8
    · obtain ⟨z, h⟩ := key i hi
      exact ⟨z, fun _ => h⟩
    · exact ⟨0, fun h => absurd h hi⟩
  refine ⟨(List.range 8).map fun i => (hex i).choose, ?_, by simp, fun z hz => ?_⟩
  · apply List.ext_getElem?
    intro i
    by_cases hi : i < 8
    · rw [((hex i).choose_spec hi).1, List.getElem?_map, List.getElem?_map, List.getElem?_range hi]
      rfl
    · rw [List.getElem?_eq_none (by omega), List.getElem?_eq_none (by simp; omega)]
  · obtain ⟨i, hi, rfl⟩ := List.mem_map.1 hz
    exact ((hex i).choose_spec (by simpa using hi)).2
theorem rd_val (hf : DataW.trod enc Tryz.prog W base sp held fuel 121 cs = some x) : ∃ d : Vl, cs = [.int .i64 d.1, .int .i64 d.2.1, .int .i64 d.2.2] := by
  have hl := rd_len Tryz.underlying121 cellsRV hf
  obtain ⟨_, _, g0⟩ := rd_field Tryz.underlying121 hf 0 3 0 1 rfl cellsI
  obtain ⟨_, _, g1⟩ := rd_field Tryz.underlying121 hf 1 3 1 1 rfl cellsI
  obtain ⟨_, _, g2⟩ := rd_field Tryz.underlying121 hf 2 3 2 1 rfl cellsI
  obtain ⟨x0, e0, _⟩ := rd_int g0
  obtain ⟨x1, e1, _⟩ := rd_int g1
  obtain ⟨x2, e2, _⟩ := rd_int g2
  match cs, hl with
  | [a, b, c], _ =>
    simp at e0 e1 e2
    exact ⟨(x0, x1, x2), by rw [e0, e1, e2]⟩
theorem rd_vals (hf : DataW.trod enc Tryz.prog W base sp held fuel 28 cs = some x) : ∃ (A : Option Addr) (n c : Nat) (l : List Vl), cs = [.slice A n c] ∧ RdV W W.heap.size A n l ∧ n ≤ maxLen := by
  obtain ⟨a, n, c, hcs, hnc, hcm, hg⟩ := rd_slice Tryz.underlying28 cellsRV hf
  have key : ∀ i, i < n → ∃ (ad : Addr) (d : Vl), a = some ad ∧ VAt W W.heap.size (ad.add (i * 3)) d := fun i hi => by
    obtain ⟨ad, cs', f', x', e, hl, hc, ht⟩ := hg i hi
    obtain ⟨d, rfl⟩ := rd_val ht
    have h0 := hc 0 (by omega)
    have h1 := hc 1 (by omega)
    have h2 := hc 2 (by omega)
    rw [add_add] at h0 h1 h2
    rw [Nat.add_zero] at h0
    rw [add_nextV _ _ _ (by decide)] at h1 h2
    exact ⟨ad, d, e, World.block_lt_of_cell? W _ h0, h0, h1, h2⟩
  have hex : ∀ i, ∃ d : Vl, i < n → ∃ ad, a = some ad ∧ VAt W W.heap.size (ad.add (i * 3)) d := fun i => by
    by_cases hi : i < n
    · obtain ⟨ad, d, h⟩ := key i hi
      exact ⟨d, fun _ => ⟨ad, h⟩⟩
    · exact ⟨(0, 0, 0), fun h => absurd h hi⟩
  refine ⟨a, n, c, (List.range n).map fun i => (hex i).choose, hcs, ⟨by simp, fun i d hi => ?_⟩, Nat.le_trans hnc hcm⟩
  have hi' : i < n := by
    have := (List.getElem?_eq_some_iff.1 hi).1
    simpa using this
  rw [List.getElem?_map, List.getElem?_range hi'] at hi
  injection hi with hi
  rw [← hi]
  exact (hex i).choose_spec hi'
theorem rd_many (hf : DataW.trod enc Tryz.prog W base sp held fuel 30 cs = some x) : ∃ (U : List Int) (A : Option Addr) (n c : Nat) (l : List Vl), cs = (uc U (.slice A n c)).toList ∧ U.length = 8 ∧ Wf U ∧ RdV W W.heap.size A n l ∧ n ≤ maxLen := by
  have hl := rd_len Tryz.underlying30 cellsRM hf
  obtain ⟨_, _, g0⟩ := rd_field Tryz.underlying30 hf 0 22 0 8 rfl cellsA
  obtain ⟨_, _, g1⟩ := rd_field Tryz.underlying30 hf 1 28 8 1 rfl cellsRVs
  obtain ⟨U, e0, hU, wU⟩ := rd_arr8 g0
  obtain ⟨A, n, c, l, e1, hr, hn⟩ := rd_vals g1
  refine ⟨U, A, n, c, l, ?_, hU, wU, hr, hn⟩
  unfold uc
  rw [← e0, ← e1, List.drop_zero, List.take_of_length_le (l := cs.drop 8) (by simp; omega), List.take_append_drop]
end
theorem cut_row {α : Type} (l : List α) (o m : Nat) : (l.drop o).take m ++ l.drop (o + m) = l.drop o := by
  have := List.take_append_drop m (l.drop o)
  rwa [List.drop_drop] at this
/-- a question's cells: two registers, a node, a value -/
def askC (C1 C2 : Array Value) (nd v : Int) : Array Value := (C1.toList ++ C2.toList ++ [Value.int .i64 nd, Value.int .i64 v]).toArray
section
variable {H : Type} {enc : TypeId × Value → H} {W : World} {base : Nat} {sp : Nat → Bool} {held : Bool} {r : Reach} {b0 : Nat} {v : Value} {d : DataW H} {p : List MemPlace}
end
end Go.Proofs.YtocoohpekpkmkaaGreat
