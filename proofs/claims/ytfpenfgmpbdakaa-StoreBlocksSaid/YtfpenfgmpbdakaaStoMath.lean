/- The numbers that a store reserves, in plain words: blocks of eight, one record each. -/
import Derived.Test.YtfpenfgmpbdakaaVintMath
namespace Go.Proofs.Ytfpenfgmpbdakaa.Sto
set_option linter.unusedVariables false
set_option linter.unusedSimpArgs false
/-- up to where k blocks reach -/
def upto (k : Nat) : Nat := min (8 * k) 96
/-- the record of a number: its kind ahead -/
def told (kind : UInt8) (n : Nat) : List UInt8 := kind :: Vint.enc n
/-- the records of the first k blocks -/
def recs : Nat → List (List UInt8)
  | 0 => []
  | k + 1 => recs k ++ [told 1 (upto (k + 1))]
theorem recs_len (k : Nat) : (recs k).length = k := by
  induction k with
  | zero => rfl
  | succ k ih => unfold recs; rw [List.length_append, ih]; rfl
theorem told_len (kind : UInt8) (n : Nat) : (told kind n).length ≤ 7 := by
  unfold told
  rw [List.length_cons]
  have := Vint.enc_length n
  omega
theorem recs_small (k : Nat) : ∀ x ∈ recs k, x.length ≤ 7 := by
  induction k with
  | zero => intro x hx; cases hx
  | succ k ih =>
    intro x hx
    unfold recs at hx
    rcases List.mem_append.1 hx with h | h
    · exact ih x h
    · obtain rfl := List.mem_singleton.1 h
      exact told_len _ _
theorem recs_mem {k : Nat} {x : List UInt8} (h : x ∈ recs k) : ∃ j, 1 ≤ j ∧ j ≤ k ∧ x = told 1 (upto j) := by
  induction k with
  | zero => cases h
  | succ k ih =>
    unfold recs at h
    rcases List.mem_append.1 h with h | h
    · obtain ⟨j, h1, h2, h3⟩ := ih h
      exact ⟨j, h1, by omega, h3⟩
    · obtain rfl := List.mem_singleton.1 h
      exact ⟨k + 1, by omega, Nat.le_refl _, rfl⟩
theorem recs_at {k i : Nat} (h : i < k) : (recs k)[i]? = some (told 1 (upto (i + 1))) := by
  induction k with
  | zero => omega
  | succ k ih =>
    unfold recs
    by_cases e : i < k
    · rw [List.getElem?_append_left (by rw [recs_len]; exact e)]
      exact ih e
    · obtain rfl : i = k := by omega
      rw [List.getElem?_append_right (by rw [recs_len]; exact Nat.le_refl _), recs_len, Nat.sub_self]
      rfl
theorem upto_succ (k : Nat) : upto (k + 1) = min (upto k + 8) 96 := by unfold upto; omega
theorem upto_mono {j k : Nat} (h : j ≤ k) : upto j ≤ upto k := by unfold upto; omega
theorem upto_le (k : Nat) : upto k ≤ 96 := by unfold upto; omega
/-- what reading the first i records tells -/
theorem upto_max (i : Nat) : max (upto i) (upto (i + 1)) = upto (i + 1) := by have := upto_mono (show i ≤ i + 1 by omega); omega
theorem upto_full {k : Nat} (h : upto k = 96) : 12 ≤ k := by unfold upto at h; omega
theorem upto_less {k : Nat} (h : upto k < 96) : k < 12 ∧ upto k = 8 * k := by unfold upto at *; omega
/-- a number is told: a record's number reads as it was -/
theorem told_dec (kind : UInt8) {n : Nat} (h : n ≤ 1099511627776) : (told kind n).head? = some kind ∧ Vint.dec ((told kind n).drop 1) = .ok (n, []) := by
  refine ⟨rfl, ?_⟩
  have := Vint.dec_enc (n := n) (by unfold Vint.top; exact h) []
  rw [List.append_nil] at this
  exact this
/-- what a turn does: k blocks, how many numbers are used; an opening goes on behind the last block -/
structure St where
  k : Nat
  used : Nat
def openS (s : St) : St := ⟨s.k, upto s.k⟩
/-- the next number: none beyond ninety-six -/
def nextS (s : St) : Option (St × Nat) :=
  if s.used = upto s.k then (if 96 ≤ s.used then none else some (⟨s.k + 1, s.used + 1⟩, s.used + 1)) else some (⟨s.k, s.used + 1⟩, s.used + 1)
structure Good (s : St) : Prop where
  k : s.k ≤ 12
  used : s.used ≤ upto s.k
theorem good_start : Good ⟨0, 0⟩ := ⟨by decide, by decide⟩
theorem good_open {s : St} (h : Good s) : Good (openS s) := ⟨h.k, Nat.le_refl _⟩
theorem good_next {s s' : St} {n : Nat} (h : Good s) (hn : nextS s = some (s', n)) : Good s' ∧ n = s.used + 1 ∧ s'.used = n ∧ n ≤ 96 ∧ upto s'.k = (if s.used = upto s.k then min (upto s.k + 8) 96 else upto s.k) := by
  unfold nextS at hn
  have hu := h.used
  have hl := upto_le s.k
  split at hn
  · rename_i e
    split at hn
    · cases hn
    · rename_i e2
      injection hn with hn
      injection hn with h1 h2
      have hk := upto_less (k := s.k) (by omega)
      subst h1 h2
      refine ⟨⟨by show s.k + 1 ≤ 12; omega, by show s.used + 1 ≤ upto (s.k + 1); rw [upto_succ]; omega⟩, rfl, rfl, by omega, ?_⟩
      rw [if_pos e]
      exact upto_succ s.k
  · rename_i e
    injection hn with hn
    injection hn with h1 h2
    subst h1 h2
    refine ⟨⟨h.k, by show s.used + 1 ≤ upto s.k; omega⟩, rfl, rfl, by omega, ?_⟩
    rw [if_neg e]
theorem next_none {s : St} (h : Good s) : nextS s = none ↔ s.used = 96 := by
  unfold nextS
  have hu := h.used
  have hl := upto_le s.k
  split
  · rename_i e
    split
    · simp; omega
    · simp; omega
  · simp; omega
end Go.Proofs.Ytfpenfgmpbdakaa.Sto
