/- How events that came in read. -/
import Derived.Test.YtiemlnomlfebkaaOpen
import Derived.Test.YtiemlnomlfebkaaEvAlive
namespace Go.Proofs.Ytiemlnomlfebkaa
open Go.ChangeShapes Go.WideShapes Go.ChangeAt Go.RowKit Go.Deep
open Dot Evt
set_option maxRecDepth 100000
theorem cellsI' : (Try.prog).cellsOf 3 = 1 := by kernel_rfl
theorem cellsD : (Try.prog).cellsOf 23 = 2 := by kernel_rfl
theorem cellsDs : (Try.prog).cellsOf 26 = 1 := by kernel_rfl
theorem cellsP : (Try.prog).cellsOf 25 = 7 := by kernel_rfl
theorem cellsE : (Try.prog).cellsOf 28 = 14 := by kernel_rfl
section
variable {H : Type} {enc : TypeId × Value → H} {W : World} {base : Nat} {sp : Nat → Bool} {held : Bool} {fuel : Nat} {cs : List Value} {x : DataW H × List MemPlace}
theorem rd_dot (hf : DataW.trod enc Try.prog W base sp held fuel 23 cs = some x) : ∃ d : Dt, cs = [.int .i64 d.1, .int .i64 d.2] := by
  have hl := rd_len Try.underlying23 cellsD hf
  obtain ⟨_, _, g0⟩ := rd_field Try.underlying23 hf 0 3 0 1 rfl cellsI'
  obtain ⟨_, _, g1⟩ := rd_field Try.underlying23 hf 1 3 1 1 rfl cellsI'
  obtain ⟨x0, e0, _⟩ := rd_int g0
  obtain ⟨x1, e1, _⟩ := rd_int g1
  match cs, hl with
  | [a, b], _ =>
    simp at e0 e1
    exact ⟨(x0, x1), by rw [e0, e1]⟩
theorem rd_dots (hf : DataW.trod enc Try.prog W base sp held fuel 26 cs = some x) : ∃ (A : Option Addr) (n c : Nat) (l : List Dt), cs = [.slice A n c] ∧ RdD W W.heap.size A n l ∧ n ≤ maxLen := by
  obtain ⟨a, n, c, hcs, hnc, hcm, hg⟩ := rd_slice Try.underlying26 cellsD hf
  have key : ∀ i, i < n → ∃ (ad : Addr) (d : Dt), a = some ad ∧ DotAt W W.heap.size (ad.add (i * 2)) d := fun i hi => by
    obtain ⟨ad, cs', f', x', e, hl, hc, ht⟩ := hg i hi
    obtain ⟨d, rfl⟩ := rd_dot ht
    have h0 := hc 0 (by omega)
    have h1 := hc 1 (by omega)
    rw [add_add] at h0 h1
    rw [Nat.add_zero] at h0
    rw [add_next] at h1
    exact ⟨ad, d, e, World.block_lt_of_cell? W _ h0, h0, h1⟩
  have hex : ∀ i, ∃ d : Dt, i < n → ∃ ad, a = some ad ∧ DotAt W W.heap.size (ad.add (i * 2)) d := fun i => by
    by_cases hi : i < n
    · obtain ⟨ad, d, h⟩ := key i hi
      exact ⟨d, fun _ => ⟨ad, h⟩⟩
    · exact ⟨(0, 0), fun h => absurd h hi⟩
  refine ⟨a, n, c, (List.range n).map fun i => (hex i).choose, hcs, ⟨by simp, fun i d hi => ?_⟩, Nat.le_trans hnc hcm⟩
  have hi' : i < n := by
    have := (List.getElem?_eq_some_iff.1 hi).1
    simpa using this
  rw [List.getElem?_map, List.getElem?_range hi'] at hi
  injection hi with hi
  rw [← hi]
  exact (hex i).choose_spec hi'
theorem rd_pol (hf : DataW.trod enc Try.prog W base sp held fuel 25 cs = some x) : ∃ p : List Int, p.length = 7 ∧ cs = (pc p).toList := by
  have hl := rd_len Try.underlying25 cellsP hf
  obtain ⟨_, _, g0⟩ := rd_field Try.underlying25 hf 0 3 0 1 rfl cellsI'
  obtain ⟨_, _, g1⟩ := rd_field Try.underlying25 hf 1 3 1 1 rfl cellsI'
  obtain ⟨_, _, g2⟩ := rd_field Try.underlying25 hf 2 3 2 1 rfl cellsI'
  obtain ⟨_, _, g3⟩ := rd_field Try.underlying25 hf 3 3 3 1 rfl cellsI'
  obtain ⟨_, _, g4⟩ := rd_field Try.underlying25 hf 4 3 4 1 rfl cellsI'
  obtain ⟨_, _, g5⟩ := rd_field Try.underlying25 hf 5 3 5 1 rfl cellsI'
  obtain ⟨_, _, g6⟩ := rd_field Try.underlying25 hf 6 3 6 1 rfl cellsI'
  obtain ⟨x0, e0, _⟩ := rd_int g0
  obtain ⟨x1, e1, _⟩ := rd_int g1
  obtain ⟨x2, e2, _⟩ := rd_int g2
  obtain ⟨x3, e3, _⟩ := rd_int g3
  obtain ⟨x4, e4, _⟩ := rd_int g4
  obtain ⟨x5, e5, _⟩ := rd_int g5
  obtain ⟨x6, e6, _⟩ := rd_int g6
  match cs, hl with
  | [a0, a1, a2, a3, a4, a5, a6], _ =>
    simp at e0 e1 e2 e3 e4 e5 e6
    exact ⟨[x0, x1, x2, x3, x4, x5, x6], rfl, by rw [e0, e1, e2, e3, e4, e5, e6]; rfl⟩
/-- an event, as its cells stand -/
theorem rd_ev (hf : DataW.trod enc Try.prog W base sp held fuel 28 cs = some x) : ∃ (e : Ev) (A : Option Addr) (n c : Nat), e.p.length = 7 ∧ cs = (ec e (.slice A n c)).toList ∧ RdD W W.heap.size A n e.l ∧ n ≤ maxLen := by
  have hl := rd_len Try.underlying28 cellsE hf
  obtain ⟨_, _, g0⟩ := rd_field Try.underlying28 hf 0 23 0 2 rfl cellsD
  obtain ⟨_, _, g1⟩ := rd_field Try.underlying28 hf 1 3 2 1 rfl cellsI'
  obtain ⟨_, _, g2⟩ := rd_field Try.underlying28 hf 2 3 3 1 rfl cellsI'
  obtain ⟨_, _, g3⟩ := rd_field Try.underlying28 hf 3 3 4 1 rfl cellsI'
  obtain ⟨_, _, g4⟩ := rd_field Try.underlying28 hf 4 3 5 1 rfl cellsI'
  obtain ⟨_, _, g5⟩ := rd_field Try.underlying28 hf 5 25 6 7 rfl cellsP
  obtain ⟨_, _, g6⟩ := rd_field Try.underlying28 hf 6 26 13 1 rfl cellsDs
  obtain ⟨d, e0⟩ := rd_dot g0
  obtain ⟨x1, e1, _⟩ := rd_int g1
  obtain ⟨x2, e2, _⟩ := rd_int g2
  obtain ⟨x3, e3, _⟩ := rd_int g3
  obtain ⟨x4, e4, _⟩ := rd_int g4
  obtain ⟨p, hp, e5⟩ := rd_pol g5
  obtain ⟨A, n, c, l, e6, hr, hn⟩ := rd_dots g6
  refine ⟨⟨d, x1, x2, x3, x4, p, l⟩, A, n, c, hp, ?_, hr, hn⟩
  match cs, hl with
  | [a0, a1, a2, a3, a4, a5, a6, a7, a8, a9, a10, a11, a12, a13], _ =>
    simp [pc] at e0 e1 e2 e3 e4 e5 e6
    obtain ⟨rfl, rfl⟩ := e0
    obtain ⟨rfl, rfl, rfl, rfl, rfl, rfl, rfl⟩ := e5
    subst e1 e2 e3 e4 e6
    simp [ec]
end
section
variable {H : Type} {enc : TypeId × Value → H} {W : World} {base : Nat} {sp : Nat → Bool} {held : Bool} {r : Reach} {b0 : Nat} {v : Value} {d : DataW H} {p : List MemPlace}
theorem open_ev (hv : Value.okWide Try.prog W r b0 28 v) (h : DataW.Trod enc Try.prog W base sp held 28 v d p) :
    ∃ (e : Ev) (A : Option Addr) (n c : Nat), v = .agg (ec e (.slice A n c)) ∧ e.p.length = 7 ∧ RdD W W.heap.size A n e.l ∧ n ≤ maxLen := by
  obtain ⟨cs, rfl, hsz⟩ := okWide_struct Try.underlying28 hv
  obtain ⟨fuel, hf0⟩ := h
  have hf : DataW.trod enc Try.prog W base sp held fuel 28 cs.toList = some (d, p) := hf0
  obtain ⟨e, A, n, c, h1, h2, h3, h4⟩ := rd_ev hf
  exact ⟨e, A, n, c, by rw [← Array.toArray_toList (xs := cs), h2], h1, h3, h4⟩
end
end Go.Proofs.Ytiemlnomlfebkaa
