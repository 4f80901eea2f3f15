/- How a slice of ints that came in reads. -/
import Derived.Test.YtlmdnfdkamfplaaShell
import Derived.Test.YtlmdnfdkamfplaaInts
namespace Go.Proofs.Ytlmdnfdkamfplaa
open Go.ChangeShapes Go.WideShapes Go.ChangeAt Go.RowKit

theorem open_intsL {H : Type} {enc : TypeId × Value → H} {W : World} {base : Nat} {sp : Nat → Bool} {held : Bool} {r : Reach} {b0 : Nat} {v : Value} {d : DataW H} {p : List MemPlace}
    (hv : Value.okWide Try.prog W r b0 39 v) (h : DataW.Trod enc Try.prog W base sp held 39 v d p) :
    ∃ (a : Option Addr) (n cap : Nat) (bs : List Int), v = .slice a n cap ∧ RdI W W.heap.size a n bs ∧ n ≤ cap ∧ cap ≤ maxLen ∧ ∀ z ∈ bs, -9223372036854775808 ≤ z ∧ z ≤ 9223372036854775807 := by
  obtain ⟨a0, len0, cap0, rfl⟩ := okWide_slice Try.underlying39 hv
  obtain ⟨fuel, hf⟩ := h
  rcases open_ints Try.underlying39 Try.underlying3 (by kernel_rfl) hf with ⟨hcs, _⟩ | ⟨x, l, c, zs, hcs, _, hl, hm, hz, _, hcell, hwz⟩
  · simp [Value.cells] at hcs
    obtain ⟨rfl, rfl, rfl⟩ := hcs
    exact ⟨_, _, _, [], rfl, RdI.nil _ _ _, Nat.le_refl _, Nat.zero_le _, fun z hz => by simp at hz⟩
  · simp [Value.cells] at hcs
    obtain ⟨rfl, rfl, rfl⟩ := hcs
    have hz' : len0 ≤ zs.length := by rw [hz]; split <;> omega
    have hlen : (zs.take len0).length = len0 := by simp; omega
    refine ⟨_, len0, cap0, zs.take len0, rfl, ⟨hlen.symm, ?_⟩, hl, hm, fun z hzm => ?_⟩
    · intro j u hu
      simp only [List.getElem?_map, List.getElem?_take] at hu
      by_cases hj : j < len0
      · rw [if_pos hj] at hu
        have hjz : j < zs.length := by omega
        have hcj := hcell j hjz
        rw [List.getD_eq_getElem?_getD, List.getElem?_eq_getElem hjz] at hcj
        rw [List.getElem?_eq_getElem hjz] at hu
        simp only [Option.map_some, Option.some.injEq] at hu
        refine ⟨x, rfl, ?_, ?_⟩
        · have := World.block_lt_of_cell? W _ hcj
          rwa [block_add] at this
        · rw [hcj, ← hu]; rfl
      · rw [if_neg hj] at hu; simp at hu
    · have hw := hwz z (List.mem_of_mem_take hzm)
      have hmin : IntKind.i64.min = -9223372036854775808 := rfl
      have hmax : IntKind.i64.max = 9223372036854775807 := rfl
      simp only [Lit.wf, Bool.and_eq_true, decide_eq_true_eq] at hw
      omega
end Go.Proofs.Ytlmdnfdkamfplaa
