/- Where frames end, and how many of them are whole, in plain Lean. -/
import Derived.Test.YtbkcdnjpakicmaaFrameAllMath
namespace Go.Proofs.Ytbkcdnjpakicmaa.Frame
/-- where the first k frames end, each -/
def ends (ls : List (List UInt8)) (k : Nat) : List Int := (List.range k).map fun i => ((frms (ls.take (i + 1))).length : Int)
theorem ends_length (ls : List (List UInt8)) (k : Nat) : (ends ls k).length = k := by simp [ends]
theorem ends_zero (ls : List (List UInt8)) : ends ls 0 = [] := rfl
theorem ends_succ (ls : List (List UInt8)) (k : Nat) : ends ls (k + 1) = ends ls k ++ [((frms (ls.take (k + 1))).length : Int)] := by simp [ends, List.range_succ]
theorem ends_get (ls : List (List UInt8)) {k i : Nat} (h : i < k) : (ends ls k)[i]'(by rw [ends_length]; exact h) = ((frms (ls.take (i + 1))).length : Int) := by simp [ends]
theorem frms_take_succ (ls : List (List UInt8)) {k : Nat} (h : k < ls.length) : frms (ls.take (k + 1)) = frms (ls.take k) ++ frm ls[k] := by
  rw [List.take_succ_eq_append_getElem h, frms_snoc]
theorem frms_mono (ls : List (List UInt8)) {i j : Nat} (h : i ≤ j) : (frms (ls.take i)).length ≤ (frms (ls.take j)).length := by
  obtain ⟨d, rfl⟩ : ∃ d, j = i + d := ⟨j - i, by omega⟩
  rw [List.take_add, frms_append, List.length_append]
  omega
theorem frms_bound (ls : List (List UInt8)) (h : ∀ x ∈ ls, x.length ≤ 300) : (frms ls).length ≤ 311 * ls.length := by
  induction ls with
  | nil => simp [frms]
  | cons x l ih =>
    rw [frms_cons, List.length_append, frm_length, List.length_cons]
    have h1 := h x (by simp)
    have h2 := ih (fun y hy => h y (by simp [hy]))
    have h3 := Vint.enc_length x.length
    omega
/-- Of frames cut at k the first j are whole; the i-th ends by k just if i < j. -/
theorem whole_iff {ls : List (List UInt8)} {j k i : Nat} (hi : i < ls.length) (h5 : (frms (ls.take j)).length ≤ k) (h6 : ∀ i, j < i → i ≤ ls.length → k < (frms (ls.take i)).length) : (frms (ls.take (i + 1))).length ≤ k ↔ i < j := by
  constructor
  · intro h
    false_or_by_contra
    have := h6 (i + 1) (by omega) (by omega)
    omega
  · intro h
    have := frms_mono ls (i := i + 1) (j := j) (by omega)
    omega
end Go.Proofs.Ytbkcdnjpakicmaa.Frame
