/- How sets and dots that came in read. -/
import Derived.Test.YtacmdkjodnaohaaOpen
import Derived.Test.YtacmdkjodnaohaaDotAlive
namespace Go.Proofs.Ytacmdkjodnaohaa
open Go.ChangeShapes Go.WideShapes Go.ChangeAt Go.RowKit Go.Deep
open Dot
set_option maxRecDepth 100000
theorem cellsD : (Try.prog).cellsOf 27 = 2 := by kernel_rfl
theorem cellsDs : (Try.prog).cellsOf 23 = 1 := by kernel_rfl
theorem cellsLS : (Try.prog).cellsOf 25 = 9 := by kernel_rfl
section
variable {H : Type} {enc : TypeId × Value → H} {W : World} {base : Nat} {sp : Nat → Bool} {held : Bool} {fuel : Nat} {cs : List Value} {x : DataW H × List MemPlace}
theorem rd_arr8 (hf : DataW.trod enc Try.prog W base sp held fuel 22 cs = some x) : ∃ l : List Int, cs = l.map (Value.int .i64) ∧ l.length = 8 ∧ Wf l := by
  obtain ⟨xs, m, _, _, hl, hxl, hg⟩ := DataW.trod_array Try.underlying22 hf
  rw [cellsA] at hl
  rw [cellsI] at hg
  have key : ∀ i, i < 8 → ∃ z : Int, cs[i]? = some (.int .i64 z) ∧ (Lit.int .i64 z).wf = true := fun i hi => by
    have h := hg i hi
    rw [List.getElem?_eq_getElem (by omega)] at h
    obtain ⟨z, h1, h2⟩ := rd_int h
    rw [Nat.mul_one] at h1
    refine ⟨z, ?_, wf_of h2.1 h2.2⟩
    have : ((cs.drop i).take 1)[0]? = some (.int .i64 z) := by rw [h1]; rfl
    rw [List.getElem?_take, if_pos (by omega), List.getElem?_drop] at this
    exact this
  have hex : ∀ i, ∃ z : Int, i < 8 → cs[i]? = some (.int .i64 z) ∧ (Lit.int .i64 z).wf = true := fun i => by
    by_cases hi : i < 8
    · obtain ⟨z, h⟩ := key i hi
      exact ⟨z, fun _ => h⟩
    · exact ⟨0, fun h => absurd h hi⟩
  refine ⟨(List.range 8).map fun i => (hex i).choose, ?_, by simp, fun z hz => ?_⟩
  · apply List.ext_getElem?
    intro i
    by_cases hi : i < 8
    · rw [((hex i).choose_spec hi).1, List.getElem?_map, List.getElem?_map, List.getElem?_range hi]
      rfl
    · rw [List.getElem?_eq_none (by omega), List.getElem?_eq_none (by simp; omega)]
  · obtain ⟨i, hi, rfl⟩ := List.mem_map.1 hz
    exact ((hex i).choose_spec (by simpa using hi)).2
theorem rd_dot (hf : DataW.trod enc Try.prog W base sp held fuel 27 cs = some x) : ∃ d : Dt, cs = [.int .i64 d.1, .int .i64 d.2] := by
  have hl := rd_len Try.underlying27 cellsD hf
  obtain ⟨_, _, g0⟩ := rd_field Try.underlying27 hf 0 3 0 1 rfl cellsI
  obtain ⟨_, _, g1⟩ := rd_field Try.underlying27 hf 1 3 1 1 rfl cellsI
  obtain ⟨x0, e0, _⟩ := rd_int g0
  obtain ⟨x1, e1, _⟩ := rd_int g1
  match cs, hl with
  | [a, b], _ =>
    simp at e0 e1
    exact ⟨(x0, x1), by rw [e0, e1]⟩
theorem rd_dots (hf : DataW.trod enc Try.prog W base sp held fuel 23 cs = some x) : ∃ (A : Option Addr) (n c : Nat) (l : List Dt), cs = [.slice A n c] ∧ RdD W W.heap.size A n l ∧ n ≤ maxLen := by
  obtain ⟨a, n, c, hcs, hnc, hcm, hg⟩ := rd_slice Try.underlying23 cellsD hf
  have key : ∀ i, i < n → ∃ (ad : Addr) (d : Dt), a = some ad ∧ DotAt W W.heap.size (ad.add (i * 2)) d := fun i hi => by
    obtain ⟨ad, cs', f', x', e, hl, hc, ht⟩ := hg i hi
    obtain ⟨d, rfl⟩ := rd_dot ht
    have h0 := hc 0 (by omega)
    have h1 := hc 1 (by omega)
    rw [add_add] at h0 h1
    rw [Nat.add_zero] at h0
    rw [add_next] at h1
    exact ⟨ad, d, e, World.block_lt_of_cell? W _ h0, h0, h1⟩
  have hex : ∀ i, ∃ d : Dt, i < n → ∃ ad, a = some ad ∧ DotAt W W.heap.size (ad.add (i * 2)) d := fun i => by
    by_cases hi : i < n
    · obtain ⟨ad, d, h⟩ := key i hi
      exact ⟨d, fun _ => ⟨ad, h⟩⟩
    · exact ⟨(0, 0), fun h => absurd h hi⟩
  refine ⟨a, n, c, (List.range n).map fun i => (hex i).choose, hcs, ⟨by simp, fun i d hi => ?_⟩, Nat.le_trans hnc hcm⟩
  have hi' : i < n := by
    have := (List.getElem?_eq_some_iff.1 hi).1
    simpa using this
  rw [List.getElem?_map, List.getElem?_range hi'] at hi
  injection hi with hi
  rw [← hi]
  exact (hex i).choose_spec hi'
end
section
variable {H : Type} {enc : TypeId × Value → H} {W : World} {base : Nat} {sp : Nat → Bool} {held : Bool} {r : Reach} {b0 : Nat} {v : Value} {d : DataW H} {p : List MemPlace}
theorem open_dot (hv : Value.okWide Try.prog W r b0 27 v) (h : DataW.Trod enc Try.prog W base sp held 27 v d p) : ∃ n q : Int, v = .agg #[.int .i64 n, .int .i64 q] := by
  obtain ⟨cs, rfl, hsz⟩ := okWide_struct Try.underlying27 hv
  obtain ⟨fuel, hf0⟩ := h
  have hf : DataW.trod enc Try.prog W base sp held fuel 27 cs.toList = some (d, p) := hf0
  obtain ⟨d, h1⟩ := rd_dot hf
  exact ⟨d.1, d.2, by rw [← Array.toArray_toList (xs := cs), h1]⟩
theorem open_dots (hv : Value.okWide Try.prog W r b0 23 v) (h : DataW.Trod enc Try.prog W base sp held 23 v d p) : ∃ (A : Option Addr) (n c : Nat) (l : List Dt), v = .slice A n c ∧ RdD W W.heap.size A n l ∧ n ≤ maxLen := by
  obtain ⟨a0, len0, cap0, rfl⟩ := okWide_slice Try.underlying23 hv
  obtain ⟨fuel, hf⟩ := h
  obtain ⟨A, n, c, l, h1, h2⟩ := rd_dots hf
  simp [Value.cells] at h1
  obtain ⟨rfl, rfl, rfl⟩ := h1
  exact ⟨_, _, _, l, rfl, h2⟩
theorem open_set (hv : Value.okWide Try.prog W r b0 25 v) (h : DataW.Trod enc Try.prog W base sp held 25 v d p) :
    ∃ (U : List Int) (A : Option Addr) (n c : Nat) (l : List Dt), v = .agg (uc U (.slice A n c)) ∧ U.length = 8 ∧ Wf U ∧ RdD W W.heap.size A n l ∧ n ≤ maxLen := by
  obtain ⟨cs, rfl, hsz⟩ := okWide_struct Try.underlying25 hv
  obtain ⟨fuel, hf0⟩ := h
  have hf : DataW.trod enc Try.prog W base sp held fuel 25 cs.toList = some (d, p) := hf0
  have hl := rd_len Try.underlying25 cellsLS hf
  obtain ⟨_, _, g0⟩ := rd_field Try.underlying25 hf 0 22 0 8 rfl cellsA
  obtain ⟨_, _, g1⟩ := rd_field Try.underlying25 hf 1 23 8 1 rfl cellsDs
  obtain ⟨U, e0, hU, wU⟩ := rd_arr8 g0
  obtain ⟨A, n, c, l, e1, hr, hn⟩ := rd_dots g1
  refine ⟨U, A, n, c, l, ?_, hU, wU, hr, hn⟩
  unfold uc
  rw [← e0, ← e1, List.drop_zero, List.take_of_length_le (l := cs.toList.drop 8) (by simp at hl; simp; omega), List.take_append_drop]
end
/-- the numbers of what there is are small -/
theorem upto_wf (G : Grid) : Wf (uptoS G) := fun x hx => by
  unfold uptoS at hx
  obtain ⟨n, _, rfl⟩ := List.mem_map.1 hx
  have := lead_le (G n) 98
  exact wf_of (by omega) (by omega)
theorem upto_len (G : Grid) : (uptoS G).length = 8 := by simp [uptoS]
theorem more_len (G : Grid) : (moreS G).length ≤ 784 := moreTo_len G 8
theorem dots_len (G : Grid) : (dotsS G).length ≤ 784 := dotsTo_len G 8
end Go.Proofs.Ytacmdkjodnaohaa
