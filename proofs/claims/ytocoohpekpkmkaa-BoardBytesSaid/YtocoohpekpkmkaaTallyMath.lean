/- Plain laws of tallies: sixteen numbers, eight counted up, eight down; no program in sight. -/
import Derived.KernelRfl
namespace Go.Proofs.Ytocoohpekpkmkaa.Tally
set_option linter.unusedVariables false
set_option linter.unusedSimpArgs false

def top : Int := 1099511627776
def inB (n lo hi : Int) : Bool := decide (lo ≤ n) && decide (n ≤ hi)
def rightB (l : List Int) : Bool := l.all fun x => inB x 0 top
def zero : List Int := List.replicate 16 0
def ownL (l : List Int) : List Int := if rightB l = true then l else zero
def sumTo (l : List Int) : Nat → Int
  | 0 => 0
  | k + 1 => sumTo l k + (l.getD k 0 - l.getD (8 + k) 0)
def valueL (l : List Int) : Int := sumTo (ownL l) 8
def bothL (h : Int → Int → Int) (a b : List Int) : List Int := List.zipWith h (ownL a) (ownL b)
def mx (x y : Int) : Int := if x < y then y else x
def mr (x y : Int) : Int := if y < x then x else 0
def joinL (a b : List Int) : List Int := bothL mx a b
def moreL (a b : List Int) : List Int := bothL mr a b
def ord (j : Nat) : Nat := if j % 2 = 0 then j / 2 else 8 + j / 2

theorem inB_iff (n lo hi : Int) : inB n lo hi = true ↔ lo ≤ n ∧ n ≤ hi := by simp [inB]
theorem inB_false (n lo hi : Int) : inB n lo hi = false ↔ ¬ (lo ≤ n ∧ n ≤ hi) := by
  rw [← Bool.not_eq_true, inB_iff]
theorem zero_len : zero.length = 16 := rfl
theorem zero_right : rightB zero = true := by decide
theorem own_right (l : List Int) : rightB (ownL l) = true := by
  unfold ownL; split
  · assumption
  · exact zero_right
theorem own_len {l : List Int} (h : l.length = 16) : (ownL l).length = 16 := by
  unfold ownL; split
  · exact h
  · rfl
theorem own_own (l : List Int) (h : rightB l = true) : ownL l = l := by unfold ownL; rw [if_pos h]
theorem right_at {l : List Int} (h : rightB l = true) (i : Nat) : 0 ≤ l.getD i 0 ∧ l.getD i 0 ≤ top := by
  unfold rightB at h
  rw [List.all_eq_true] at h
  by_cases hi : i < l.length
  · have := h l[i] (List.getElem_mem hi)
    rw [inB_iff] at this
    rw [List.getD_eq_getElem?_getD, List.getElem?_eq_getElem hi]
    exact this
  · rw [List.getD_eq_getElem?_getD, List.getElem?_eq_none (by omega)]
    exact ⟨by simp, by simp [top]⟩
theorem right_of {l : List Int} (h : ∀ i, i < l.length → inB (l.getD i 0) 0 top = true) : rightB l = true := by
  unfold rightB
  rw [List.all_eq_true]
  intro x hx
  obtain ⟨i, hi, rfl⟩ := List.getElem_of_mem hx
  have := h i hi
  rwa [List.getD_eq_getElem?_getD, List.getElem?_eq_getElem hi] at this
theorem right_bad {l : List Int} {i : Nat} (hi : i < l.length) (h : inB (l.getD i 0) 0 top = false) : rightB l = false := by
  rw [← Bool.not_eq_true]
  intro hr
  have := right_at hr i
  rw [inB_false] at h
  exact h this
theorem ord_lt {j : Nat} (h : j < 16) : ord j < 16 := by unfold ord; split <;> omega
theorem ord_onto {i : Nat} (h : i < 16) : ∃ j, j < 16 ∧ ord j = i := by
  by_cases h8 : i < 8
  · exact ⟨2 * i, by omega, by unfold ord; rw [if_pos (by omega)]; omega⟩
  · exact ⟨2 * (i - 8) + 1, by omega, by unfold ord; rw [if_neg (by omega)]; omega⟩
theorem ord_inj {i j : Nat} (hi : i < 16) (hj : j < 16) (h : ord i = ord j) : i = j := by
  unfold ord at h
  split at h <;> split at h <;> omega
theorem right_ord {l : List Int} (hl : l.length = 16) (h : ∀ j, j < 16 → inB (l.getD (ord j) 0) 0 top = true) : rightB l = true :=
  right_of fun i hi => by
    obtain ⟨j, hj, rfl⟩ := ord_onto (show i < 16 by omega)
    exact h j hj
theorem sumTo_bd {l : List Int} (h : rightB l = true) (k : Nat) : -(k * top) ≤ sumTo l k ∧ sumTo l k ≤ k * top := by
  induction k with
  | zero => simp [sumTo]
  | succ k ih =>
    have h1 := right_at h k
    have h2 := right_at h (8 + k)
    simp only [sumTo]
    have e : ((k + 1 : Nat) : Int) * top = k * top + top := by rw [Int.natCast_add, Int.add_mul]; simp
    rw [e]; omega
theorem right_halves {l : List Int} (hl : l.length = 16) (h : ∀ j, j < 8 → inB (l.getD j 0) 0 top = true ∧ inB (l.getD (8 + j) 0) 0 top = true) : rightB l = true :=
  right_of fun i hi => by
    by_cases h8 : i < 8
    · exact (h i h8).1
    · have := (h (i - 8) (by omega)).2
      rwa [show 8 + (i - 8) = i by omega] at this
theorem right_set {l : List Int} (h : rightB l = true) {i : Nat} {x : Int} (hi : i < l.length) : rightB (l.set i x) = inB x 0 top := by
  cases hx : inB x 0 top with
  | true =>
    refine right_of fun j hj => ?_
    rw [List.length_set] at hj
    rw [List.getD_eq_getElem?_getD]
    by_cases e : i = j
    · subst e; rw [List.getElem?_set_self hi]; exact hx
    · rw [List.getElem?_set_ne e, ← List.getD_eq_getElem?_getD]
      exact (inB_iff _ _ _).2 (right_at h j)
  | false =>
    refine right_bad (i := i) (by rwa [List.length_set]) ?_
    rw [List.getD_eq_getElem?_getD, List.getElem?_set_self hi]
    exact hx
/-- where a count goes, and how much -/
def slot (node n : Int) : Nat := if n < 0 then 8 + node.toNat else node.toNat
def amt (n : Int) : Int := if n < 0 then -n else n
def addL (l : List Int) (node n : Int) : List Int × Int :=
  if (rightB l = true ∧ inB node 0 7 = true) ∧ inB n (-top) top = true then
    (if top - amt n < l.getD (slot node n) 0 then (zero, 7) else (l.set (slot node n) (l.getD (slot node n) 0 + amt n), 0))
  else (zero, 2)
theorem add_bad {l : List Int} {node n : Int} (h : rightB l = false ∨ inB node 0 7 = false ∨ inB n (-top) top = false) : addL l node n = (zero, 2) := by
  unfold addL
  rw [if_neg]
  rintro ⟨⟨h1, h2⟩, h3⟩
  rcases h with h | h | h
  · rw [h] at h1; cases h1
  · rw [h] at h2; cases h2
  · rw [h] at h3; cases h3
theorem add_full {l : List Int} {node n : Int} (h1 : rightB l = true) (h2 : inB node 0 7 = true) (h3 : inB n (-top) top = true) (h : top - amt n < l.getD (slot node n) 0) : addL l node n = (zero, 7) := by
  unfold addL
  rw [if_pos ⟨⟨h1, h2⟩, h3⟩, if_pos h]
theorem add_ok {l : List Int} {node n : Int} (h1 : rightB l = true) (h2 : inB node 0 7 = true) (h3 : inB n (-top) top = true) (h : ¬ top - amt n < l.getD (slot node n) 0) : addL l node n = (l.set (slot node n) (l.getD (slot node n) 0 + amt n), 0) := by
  unfold addL
  rw [if_pos ⟨⟨h1, h2⟩, h3⟩, if_neg h]
theorem add_len {l : List Int} (hl : l.length = 16) (node n : Int) : (addL l node n).1.length = 16 ∧ rightB (addL l node n).1 = true := by
  unfold addL
  split
  · rename_i h
    split
    · exact ⟨rfl, zero_right⟩
    · rename_i h2
      refine ⟨by simp [hl], ?_⟩
      have h0 := (inB_iff _ _ _).1 h.1.2
      have h1 := (inB_iff _ _ _).1 h.2
      have hr := right_at h.1.1 (slot node n)
      have hsl : slot node n < 16 := by unfold slot; split <;> omega
      rw [right_set h.1.1 (by omega), inB_iff]
      have ha : 0 ≤ amt n := by unfold amt; split <;> omega
      omega
  · exact ⟨rfl, zero_right⟩
theorem sumTo_set {l : List Int} {s : Nat} {v : Int} (hs : s < l.length) (k : Nat) (hk : k ≤ 8) : sumTo (l.set s v) k = sumTo l k + (if s < k then v - l.getD s 0 else 0) - (if 8 ≤ s ∧ s < 8 + k then v - l.getD s 0 else 0) := by
  induction k with
  | zero => rw [if_neg (by omega), if_neg (by omega)]; simp [sumTo]
  | succ k ih =>
    have h1 : ∀ i, (l.set s v).getD i 0 = if s = i then v else l.getD i 0 := fun i => by
      rw [List.getD_eq_getElem?_getD]
      split
      · rename_i e; subst e; rw [List.getElem?_set_self hs]; rfl
      · rename_i e; rw [List.getElem?_set_ne e, ← List.getD_eq_getElem?_getD]
    simp only [sumTo]
    rw [ih (by omega), h1, h1]
    by_cases e1 : s = k
    · subst e1
      rw [if_pos rfl, if_neg (by omega : ¬ s = 8 + s), if_neg (by omega : ¬ s < s), if_pos (by omega : s < s + 1), if_neg (by omega : ¬ (8 ≤ s ∧ s < 8 + s)), if_neg (by omega : ¬ (8 ≤ s ∧ s < 8 + (s + 1)))]
      omega
    · rw [if_neg e1]
      by_cases e2 : s = 8 + k
      · subst e2
        rw [if_pos rfl, if_neg (by omega : ¬ 8 + k < k), if_neg (by omega : ¬ 8 + k < k + 1), if_neg (by omega : ¬ (8 ≤ 8 + k ∧ 8 + k < 8 + k)), if_pos (by omega : 8 ≤ 8 + k ∧ 8 + k < 8 + (k + 1))]
        omega
      · rw [if_neg e2]
        by_cases e3 : s < k
        · rw [if_pos e3, if_pos (by omega : s < k + 1), if_neg (by omega), if_neg (by omega)]
          omega
        · rw [if_neg e3, if_neg (by omega : ¬ s < k + 1)]
          by_cases e4 : 8 ≤ s ∧ s < 8 + k
          · rw [if_pos e4, if_pos (by omega)]
            omega
          · rw [if_neg e4, if_neg (by omega)]
            omega
/-- a count that was taken -/
theorem add_cases {l : List Int} (hl : l.length = 16) (node n : Int) : (∃ e, addL l node n = (zero, e) ∧ e ≠ 0) ∨
    (rightB l = true ∧ slot node n < 16 ∧ 0 ≤ amt n ∧ (amt n = 0 ↔ n = 0) ∧ (n = if slot node n < 8 then amt n else -amt n) ∧ addL l node n = (l.set (slot node n) (l.getD (slot node n) 0 + amt n), 0) ∧ rightB (l.set (slot node n) (l.getD (slot node n) 0 + amt n)) = true) := by
  have hr := (add_len hl node n).2
  unfold addL at hr ⊢
  split
  · rename_i h
    rw [if_pos h] at hr
    split
    · exact .inl ⟨7, rfl, by decide⟩
    · rename_i h2
      rw [if_neg h2] at hr
      have h0 := (inB_iff _ _ _).1 h.1.2
      refine .inr ⟨h.1.1, ?_, ?_, ?_, ?_, rfl, hr⟩
      · unfold slot; split <;> omega
      · unfold amt; split <;> omega
      · unfold amt; split <;> omega
      · unfold slot amt; split <;> split <;> omega
  · exact .inl ⟨2, rfl, by decide⟩
/-- the numbers that are written of a tally's first k nodes -/
def numsL (l : List Int) : Nat → List Int
  | 0 => []
  | k + 1 => numsL l k ++ (if 0 < l.getD k 0 + l.getD (8 + k) 0 then [(k : Int) + 1, l.getD k 0, l.getD (8 + k) 0] else [])
theorem nums_len (l : List Int) (k : Nat) : (numsL l k).length ≤ 3 * k := by
  induction k with
  | zero => simp [numsL]
  | succ k ih => simp only [numsL, List.length_append]; split <;> simp <;> omega
theorem nums_bd {l : List Int} (h : rightB l = true) : ∀ k, k ≤ 8 → ∀ x ∈ numsL l k, 0 ≤ x ∧ x ≤ top := by
  intro k
  induction k with
  | zero => intro _ x hx; simp [numsL] at hx
  | succ k ih =>
    intro hk x hx
    simp only [numsL, List.mem_append] at hx
    rcases hx with hx | hx
    · exact ih (by omega) x hx
    · split at hx
      · have h1 := right_at h k
        have h2 := right_at h (8 + k)
        simp only [List.mem_cons, List.not_mem_nil, or_false] at hx
        rcases hx with rfl | rfl | rfl
        · unfold top; omega
        · exact h1
        · exact h2
      · simp at hx
end Go.Proofs.Ytocoohpekpkmkaa.Tally
