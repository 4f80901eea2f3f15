/- How events that came in read, within the reach. -/
import Derived.Test.YtiemlnomlfebkaaSized
import Derived.Test.YtiemlnomlfebkaaEvOpen
import Derived.Test.YtiemlnomlfebkaaEvRow
namespace Go.Proofs.Ytiemlnomlfebkaa
open Go.ChangeShapes Go.WideShapes Go.ChangeAt Go.RowKit Go.Deep
open Dot Evt
set_option maxRecDepth 100000
theorem bytesDt : (Try.prog).bytesOf 23 = 16 := by kernel_rfl
theorem bytesEv : (Try.prog).bytesOf 28 = 128 := by kernel_rfl
section
variable {H : Type} {enc : TypeId × Value → H} {W : World} {base : Nat} {sp : Nat → Bool} {held : Bool} {fuel : Nat} {cs : List Value} {x : DataW H × List MemPlace}
theorem rdz_ev (hf : DataW.trod enc Try.prog W base sp held fuel 28 cs = some x) (hs : Sz 28 x.1) : ∃ e : EvV, cs = e.cs.toList ∧ EvOk W W.heap.size e := by
  obtain ⟨e, A, n, c, h1, h2, h3, _⟩ := rd_ev hf
  obtain ⟨_, _, g6, z6⟩ := rdz_field Try.underlying28 hf hs 6 26 13 1 rfl cellsDs
  obtain ⟨a3, l3, c3, e1, _, _, e4, _⟩ := rdz_slice Try.underlying26 cellsD g6 z6
  rw [bytesDt] at e4
  have hr : reachBytes = 140737488351232 := rfl
  rw [h2] at e1
  have e2 : ((ec e (.slice A n c)).toList.drop 13).take 1 = [.slice A n c] := rfl
  rw [e2] at e1
  injection e1 with e1 _
  injection e1 with _ e1 _
  exact ⟨⟨e, A, n, c⟩, h2, h1, h3, by show n ≤ _; omega⟩
theorem rdz_evs (hf : DataW.trod enc Try.prog W base sp held fuel 31 cs = some x) (hs : Sz 31 x.1) : ∃ (A : Option Addr) (n c : Nat) (xs : List EvV), cs = [.slice A n c] ∧ RowEv W W.heap.size A n xs ∧ n ≤ 10000000000000 := by
  obtain ⟨a, n, c, h1, _, _, h3, h4⟩ := rdz_slice Try.underlying31 cellsE hf hs
  rw [bytesEv] at h3
  have hr : reachBytes = 140737488351232 := rfl
  have key : ∀ i, i < n → ∃ e : EvV, EvOk W W.heap.size e ∧ ∃ ad, a = some ad ∧ ad.block < W.heap.size ∧ ∀ (j : Nat) v, e.cs[j]? = some v → W.cell? ((ad.add (i * 14)).add j) = some v := fun i hi => by
    obtain ⟨ad, cs', f', x', e1, hl, hc, ht, hz⟩ := h4 i hi
    obtain ⟨e, h5, h6⟩ := rdz_ev ht hz
    have hlt : ad.block < W.heap.size := by
      have e6 := hc 0 (by omega)
      rw [List.getElem?_eq_getElem (by omega)] at e6
      have := World.block_lt_of_cell? W _ e6
      rwa [block_add, block_add] at this
    refine ⟨e, h6, ad, e1, hlt, fun j v hv => ?_⟩
    have hj : j < 14 := by
      have := (Array.getElem?_eq_some_iff.1 hv).1
      rwa [e.size] at this
    rw [hc j hj, h5, Array.getElem?_toList, hv]
  have hex : ∀ i, ∃ e : EvV, i < n → EvOk W W.heap.size e ∧ ∃ ad, a = some ad ∧ ad.block < W.heap.size ∧ ∀ (j : Nat) v, e.cs[j]? = some v → W.cell? ((ad.add (i * 14)).add j) = some v := fun i => by
    by_cases hi : i < n
    · obtain ⟨e, h⟩ := key i hi
      exact ⟨e, fun _ => h⟩
    · exact ⟨⟨exZ, none, 0, 0⟩, fun h => absurd h hi⟩
  refine ⟨a, n, c, (List.range n).map fun i => (hex i).choose, h1, ⟨by simp, fun i d hi => ?_⟩, by omega⟩
  have hi' : i < n := by
    have := (List.getElem?_eq_some_iff.1 hi).1
    simpa using this
  rw [List.getElem?_map, List.getElem?_range hi'] at hi
  injection hi with hi
  rw [← hi]
  exact (hex i).choose_spec hi'
end
section
variable {H : Type} {enc : TypeId × Value → H} {W : World} {base : Nat} {sp : Nat → Bool} {held : Bool} {r : Reach} {b0 : Nat} {v : Value} {d : DataW H} {p : List MemPlace}
theorem open_evz (hv : Value.okWide Try.prog W r b0 28 v) (h : DataW.Trod enc Try.prog W base sp held 28 v d p) (hs : Sz 28 d) :
    ∃ e : EvV, v = .agg e.cs ∧ EvOk W W.heap.size e := by
  obtain ⟨cs, rfl, hsz⟩ := okWide_struct Try.underlying28 hv
  obtain ⟨fuel, hf0⟩ := h
  have hf : DataW.trod enc Try.prog W base sp held fuel 28 cs.toList = some (d, p) := hf0
  obtain ⟨e, h1, h2⟩ := rdz_ev hf hs
  exact ⟨e, by rw [← Array.toArray_toList (xs := cs), h1], h2⟩
theorem open_evsz (hv : Value.okWide Try.prog W r b0 31 v) (h : DataW.Trod enc Try.prog W base sp held 31 v d p) (hs : Sz 31 d) :
    ∃ (A : Option Addr) (n c : Nat) (xs : List EvV), v = .slice A n c ∧ RowEv W W.heap.size A n xs ∧ n ≤ 10000000000000 := by
  obtain ⟨a0, len0, cap0, rfl⟩ := okWide_slice Try.underlying31 hv
  obtain ⟨fuel, hf⟩ := h
  obtain ⟨A, n, c, xs, h1, h2⟩ := rdz_evs hf hs
  simp [Value.cells] at h1
  obtain ⟨rfl, rfl, rfl⟩ := h1
  exact ⟨_, _, _, xs, rfl, h2⟩
end
end Go.Proofs.Ytiemlnomlfebkaa
