/- Registers in plain words: which write counts, what a register with a value is, what two know together. -/
import Derived.Lib.Hide
namespace Go.Proofs.Ytocoohpekpkmkaa
set_option linter.unusedVariables false
set_option linter.unusedSimpArgs false
namespace Reg
/-- a write: time, node, value -/
abbrev La := Int × Int × Int
/-- a value of a node: node, its number, the value -/
abbrev Vl := Int × Int × Int
def inB (n lo hi : Int) : Bool := decide (lo ≤ n) && decide (n ≤ hi)
theorem inB_iff (n lo hi : Int) : inB n lo hi = true ↔ lo ≤ n ∧ n ≤ hi := by simp [inB]
def newL (a b : La) : Bool := if a.1 ≠ b.1 then decide (b.1 < a.1) else if a.2.1 ≠ b.2.1 then decide (b.2.1 < a.2.1) else decide (b.2.2 < a.2.2)
def joinL (a b : La) : La := if newL a b then a else b
def mayN (n v : Int) : Bool := inB n 0 7 && inB v (-1099511627776) 1099511627776
/-- a write: the register and an error's number -/
def writeL (l : La) (n v : Int) : La × Int := if mayN n v = false then ((0, 0, 0), 2) else if 1099511627776 ≤ l.1 then ((0, 0, 0), 7) else ((max l.1 0 + 1, n, v), 0)
def cmpI (x y : Int) : Int := if x < y then -1 else if y < x then 1 else 0
/-- comparison of two rows, element by element -/
def cmpR : List Int → List Int → Int
  | [], [] => 0
  | [], _ :: _ => -1
  | _ :: _, [] => 1
  | x :: l, y :: r => if cmpI x y ≠ 0 then cmpI x y else cmpR l r
theorem cmpR3 (a b : La) : decide (0 < cmpR [a.1, a.2.1, a.2.2] [b.1, b.2.1, b.2.2]) = newL a b := by
  obtain ⟨t, n, v⟩ := a
  obtain ⟨s, m, u⟩ := b
  simp only [cmpR, cmpI, newL]
  rcases Int.lt_trichotomy t s with h | h | h
  · rw [if_pos h]
    have h1 : ¬ s < t := by omega
    have h2 : t ≠ s := by omega
    simp [h1, h2]
  · subst h
    rcases Int.lt_trichotomy n m with h | h | h
    · have h1 : ¬ m < n := by omega
      have h2 : n ≠ m := by omega
      simp [h, h1, h2]
    · subst h
      rcases Int.lt_trichotomy v u with h | h | h
      · have h1 : ¬ u < v := by omega
        simp [h, h1]
      · subst h
        simp
      · have h1 : ¬ v < u := by omega
        simp [h, h1]
    · have h1 : ¬ n < m := by omega
      have h2 : n ≠ m := by omega
      simp [h, h1, h2]
  · have h1 : ¬ t < s := by omega
    have h2 : t ≠ s := by omega
    simp [h, h1, h2]
theorem newL_irrefl (a : La) : newL a a = false := by simp [newL]
theorem newL_total {a b : La} (h1 : newL a b = false) (h2 : newL b a = false) : a = b := by
  obtain ⟨t, n, v⟩ := a
  obtain ⟨s, m, u⟩ := b
  simp only [newL] at h1 h2
  by_cases e1 : t = s
  · subst e1
    by_cases e2 : n = m
    · subst e2
      simp at h1 h2
      have : v = u := by omega
      rw [this]
    · have e2' : m ≠ n := fun h => e2 h.symm
      simp [e2, e2'] at h1 h2
      omega
  · have e1' : s ≠ t := fun h => e1 h.symm
    simp [e1, e1'] at h1 h2
    omega
theorem newL_iff (a b : La) : newL a b = true ↔ b.1 < a.1 ∨ (b.1 = a.1 ∧ (b.2.1 < a.2.1 ∨ (b.2.1 = a.2.1 ∧ b.2.2 < a.2.2))) := by
  unfold newL
  split
  · rw [decide_eq_true_iff]; omega
  · split
    · rw [decide_eq_true_iff]; omega
    · rw [decide_eq_true_iff]; omega
theorem newL_asymm {a b : La} (h : newL a b = true) : newL b a = false := by
  rw [← Bool.not_eq_true, newL_iff]
  rw [newL_iff] at h
  omega
theorem newL_trans {a b c : La} (h1 : newL a b = true) (h2 : newL b c = true) : newL a c = true := by
  rw [newL_iff] at *
  omega
theorem join_comm (a b : La) : joinL a b = joinL b a := by
  unfold joinL
  cases h1 : newL a b <;> cases h2 : newL b a
  · exact (newL_total h1 h2).symm
  · rfl
  · rfl
  · rw [newL_asymm h1] at h2; cases h2
theorem join_self (a : La) : joinL a a = a := by simp [joinL]
theorem join_assoc (a b c : La) : joinL (joinL a b) c = joinL a (joinL b c) := by
  unfold joinL
  cases h1 : newL a b <;> cases h2 : newL b c <;> simp only [Bool.false_eq_true, if_true, if_false, h1, h2]
  · by_cases h3 : newL a c = true
    · have : a = b ∨ newL b a = true := by
        cases h4 : newL b a
        · exact Or.inl (newL_total h1 h4)
        · exact Or.inr rfl
      rcases this with e | h4
      · subst e; rw [h3] at h2; cases h2
      · rw [newL_trans h4 h3] at h2; cases h2
    · rw [if_neg h3]
  · rw [newL_trans h1 h2]; simp
theorem write_newer {l : La} {n v : Int} {w : La} (h : writeL l n v = (w, 0)) : newL w l = true ∧ joinL l w = w := by
  unfold writeL at h
  split at h
  · cases h
  · split at h
    · cases h
    · have hw := (Prod.mk.inj h).1
      have hn : newL w l = true := by
        rw [newL_iff, ← hw]
        simp only
        have := Int.le_max_left l.1 0
        omega
      refine ⟨hn, ?_⟩
      unfold joinL
      rw [newL_asymm hn]
      rfl
/-- the greatest number of a node that a value bears -/
def numOk (n : Int) : Bool := inB n 0 1099511627776
/-- the node ahead of the k-th value -/
def lastV (l : List Vl) (k : Nat) : Int := if k = 0 then -1 else (l.getD (k - 1) (0, 0, 0)).1
def goodV (U : List Int) (l : List Vl) (k : Nat) : Bool :=
  mayN (l.getD k (0, 0, 0)).1 (l.getD k (0, 0, 0)).2.2 && decide (lastV l k < (l.getD k (0, 0, 0)).1) && inB (l.getD k (0, 0, 0)).2.1 1 (U.getD (l.getD k (0, 0, 0)).1.toNat 0)
def rightM (U : List Int) (l : List Vl) : Bool := U.all numOk && (List.range l.length).all (goodV U l)
theorem numOk_iff (n : Int) : numOk n = true ↔ 0 ≤ n ∧ n ≤ 1099511627776 := inB_iff _ _ _
theorem mayN_iff (n v : Int) : mayN n v = true ↔ 0 ≤ n ∧ n < 8 ∧ -1099511627776 ≤ v ∧ v ≤ 1099511627776 := by
  unfold mayN
  rw [Bool.and_eq_true, inB_iff, inB_iff]
  omega
theorem rightM_iff (U : List Int) (l : List Vl) : rightM U l = true ↔ U.all numOk = true ∧ ∀ i, i < l.length → goodV U l i = true := by
  unfold rightM
  simp only [Bool.and_eq_true, List.all_eq_true, List.mem_range]
theorem all_numV {U : List Int} (h : U.all numOk = true) (i : Nat) : 0 ≤ U.getD i 0 ∧ U.getD i 0 ≤ 1099511627776 := by
  rw [List.all_eq_true] at h
  by_cases hi : i < U.length
  · have := h U[i] (List.getElem_mem hi)
    rw [numOk_iff] at this
    rw [List.getD_eq_getElem?_getD, List.getElem?_eq_getElem hi]
    exact this
  · rw [List.getD_eq_getElem?_getD, List.getElem?_eq_none (by omega)]
    exact ⟨by simp, by simp⟩
theorem goodV_false {U : List Int} {l : List Vl} {i : Nat} (hi : i < l.length) (h : goodV U l i = false) : rightM U l = false := by
  rw [← Bool.not_eq_true, rightM_iff]
  intro h'
  rw [h'.2 i hi] at h
  cases h
theorem lastV_zero (l : List Vl) : lastV l 0 = -1 := rfl
theorem lastV_succ (l : List Vl) (k : Nat) : lastV l (k + 1) = (l.getD k (0, 0, 0)).1 := rfl
/-- a register, or, if it isn't right, the empty one -/
def ownM (U : List Int) (l : List Vl) : List Int × List Vl := if rightM U l then (U, l) else ([0, 0, 0, 0, 0, 0, 0, 0], [])
/-- a register with a value of a node alone; an error's number -/
def putM (U : List Int) (l : List Vl) (n v : Int) : (List Int × List Vl) × Int :=
  if rightM U l = false ∨ mayN n v = false then (([0, 0, 0, 0, 0, 0, 0, 0], []), 2)
  else if U.getD n.toNat 0 = 1099511627776 then (([0, 0, 0, 0, 0, 0, 0, 0], []), 7)
  else ((U.set n.toNat (U.getD n.toNat 0 + 1), [(n, U.getD n.toNat 0 + 1, v)]), 0)
def valuesM (U : List Int) (l : List Vl) : List Int := (ownM U l).2.map (·.2.2)
end Reg
end Go.Proofs.Ytocoohpekpkmkaa
