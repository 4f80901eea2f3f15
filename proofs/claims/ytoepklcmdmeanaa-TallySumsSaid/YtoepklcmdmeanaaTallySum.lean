/- Plain laws of copies that are counted in and joined: all together they are what was counted. -/
import Derived.Test.YtoepklcmdmeanaaTallyLaw
namespace Go.Proofs.Ytoepklcmdmeanaa
open Tally
theorem gd_set {α : Type} {l : List α} {a : Nat} (ha : a < l.length) (j : Nat) (x d : α) : (l.set a x).getD j d = if a = j then x else l.getD j d := by
  rw [List.getD_eq_getElem?_getD]
  split
  · rename_i e; subst e; rw [List.getElem?_set_self ha]; rfl
  · rename_i e; rw [List.getElem?_set_ne e, ← List.getD_eq_getElem?_getD]
/-- Copies os of eight nodes; T is what was counted. -/
structure Cop (os : List (List Int)) (T : List Int) : Prop where
  n : os.length = 8
  t : T.length = 16
  len : ∀ j, j < 8 → (os.getD j []).length = 16
  right : ∀ j, j < 8 → rightB (os.getD j []) = true
  le : ∀ j, j < 8 → ∀ i, i < 16 → (os.getD j []).getD i 0 ≤ T.getD i 0
  own : ∀ j, j < 8 → ∀ i, i < 16 → i % 8 = j → (os.getD j []).getD i 0 = T.getD i 0
section
variable {os : List (List Int)} {T : List Int} {a b : Nat}
theorem Cop.start : Cop (List.replicate 8 zero) zero := by
  have h : ∀ j, j < 8 → (List.replicate 8 zero).getD j [] = zero := fun j hj => by rw [List.getD_eq_getElem?_getD, List.getElem?_replicate, if_pos hj]; rfl
  exact ⟨rfl, rfl, fun j hj => by rw [h j hj]; rfl, fun j hj => by rw [h j hj]; exact zero_right, fun j hj i hi => by rw [h j hj]; exact Int.le_refl _, fun j hj i hi _ => by rw [h j hj]⟩
theorem Cop.join (h : Cop os T) (ha : a < 8) (hb : b < 8) : Cop (os.set a (joinL (os.getD a []) (os.getD b []))) T := by
  have hla := h.len a ha
  have hlb := h.len b hb
  have hat : ∀ i, i < 16 → (joinL (os.getD a []) (os.getD b [])).getD i 0 = mx ((os.getD a []).getD i 0) ((os.getD b []).getD i 0) := fun i hi => by
    rw [join_at hla hlb hi, own_own _ (h.right a ha), own_own _ (h.right b hb)]
  have hg : ∀ j, (os.set a (joinL (os.getD a []) (os.getD b []))).getD j [] = if a = j then joinL (os.getD a []) (os.getD b []) else os.getD j [] := fun j => gd_set (by rw [h.n]; exact ha) j _ _
  refine ⟨by rw [List.length_set, h.n], h.t, fun j hj => ?_, fun j hj => ?_, fun j hj i hi => ?_, fun j hj i hi e => ?_⟩ <;> rw [hg j] <;> split
  · exact join_len hla hlb
  · exact h.len j hj
  · exact join_right hla hlb
  · exact h.right j hj
  · rw [hat i hi]
    have h1 := h.le a ha i hi
    have h2 := h.le b hb i hi
    have h3 := mx_or ((os.getD a []).getD i 0) ((os.getD b []).getD i 0)
    omega
  · exact h.le j hj i hi
  · rename_i e2
    subst e2
    rw [hat i hi]
    have h1 := h.own a ha i hi e
    have h2 := h.le b hb i hi
    have h3 := mx_or ((os.getD a []).getD i 0) ((os.getD b []).getD i 0)
    omega
  · exact h.own j hj i hi e
theorem slot_lt {a : Nat} {n : Int} (ha : a < 8) : slot a n < 16 ∧ slot a n % 8 = a := by
  unfold slot
  split <;> simp <;> omega
theorem amt_nn (n : Int) : 0 ≤ amt n := by unfold amt; split <;> omega
theorem Cop.add (h : Cop os T) (ha : a < 8) {n : Int} (hr : rightB ((os.getD a []).set (slot a n) ((os.getD a []).getD (slot a n) 0 + amt n)) = true) :
    Cop (os.set a ((os.getD a []).set (slot a n) ((os.getD a []).getD (slot a n) 0 + amt n))) (T.set (slot a n) (T.getD (slot a n) 0 + amt n)) := by
  obtain ⟨hs, hm⟩ := slot_lt (n := n) ha
  have hla := h.len a ha
  have hn := amt_nn n
  have hg : ∀ (x : List Int) j, (os.set a x).getD j [] = if a = j then x else os.getD j [] := fun x j => gd_set (by rw [h.n]; exact ha) j _ _
  have hT : ∀ i, (T.set (slot a n) (T.getD (slot a n) 0 + amt n)).getD i 0 = if slot a n = i then T.getD (slot a n) 0 + amt n else T.getD i 0 := fun i => gd_set (by rw [h.t]; exact hs) i _ _
  have hL : ∀ i, ((os.getD a []).set (slot a n) ((os.getD a []).getD (slot a n) 0 + amt n)).getD i 0 = if slot a n = i then (os.getD a []).getD (slot a n) 0 + amt n else (os.getD a []).getD i 0 := fun i => gd_set (by rw [hla]; exact hs) i _ _
  refine ⟨by rw [List.length_set, h.n], by rw [List.length_set, h.t], fun j hj => ?_, fun j hj => ?_, fun j hj i hi => ?_, fun j hj i hi e => ?_⟩ <;> rw [hg] <;> split
  · rw [List.length_set, hla]
  · exact h.len j hj
  · exact hr
  · exact h.right j hj
  · rw [hL, hT]
    have h1 := h.le a ha i hi
    have h2 := h.le a ha _ hs
    split <;> omega
  · rw [hT]
    have h1 := h.le j hj i hi
    split
    · rename_i e3; rw [e3]; omega
    · exact h1
  · rename_i e2
    subst e2
    rw [hL, hT]
    split
    · rw [h.own a ha _ hs hm]
    · exact h.own a ha i hi e
  · rename_i e2
    rw [hT, if_neg (by intro e3; rw [e3] at hm; omega)]
    exact h.own j hj i hi e
theorem add_sum {T : List Int} (hT : T.length = 16) {a : Nat} (ha : a < 8) (n : Int) : sumTo (T.set (slot a n) (T.getD (slot a n) 0 + amt n)) 8 = sumTo T 8 + n := by
  obtain ⟨hs, hm⟩ := slot_lt (n := n) ha
  rw [sumTo_set (by omega) 8 (Nat.le_refl _)]
  unfold slot amt at *
  split
  · rw [if_neg (by omega), if_pos (by omega)]; omega
  · rw [if_pos (by omega), if_neg (by omega)]; omega
/-- all is within a bound -/
def Upto (T : List Int) (B : Int) : Prop := ∀ i, i < 16 → T.getD i 0 ≤ B
theorem Upto.add {T : List Int} {B : Int} (h : Upto T B) (hT : T.length = 16) (ha : a < 8) {n : Int} (hn : -999999 ≤ n ∧ n ≤ 999999) : Upto (T.set (slot a n) (T.getD (slot a n) 0 + amt n)) (B + 999999) := by
  intro i hi
  obtain ⟨hs, hm⟩ := slot_lt (n := n) ha
  rw [gd_set (by rw [hT]; exact hs)]
  have h1 := h i hi
  have h2 := h _ hs
  have h3 : amt n ≤ 999999 := by unfold amt; split <;> omega
  split <;> omega
theorem Cop.take_ok (h : Cop os T) {B : Int} (hB : Upto T B) (hb : B ≤ 300000000) (ha : a < 8) {n : Int} (hn : -999999 ≤ n ∧ n ≤ 999999) : addL (os.getD a []) a n = ((os.getD a []).set (slot a n) ((os.getD a []).getD (slot a n) 0 + amt n), 0) ∧ rightB ((os.getD a []).set (slot a n) ((os.getD a []).getD (slot a n) 0 + amt n)) = true := by
  obtain ⟨hs, hm⟩ := slot_lt (n := n) ha
  have h1 := h.le a ha _ hs
  have h2 := hB _ hs
  have h3 : amt n ≤ 999999 := by unfold amt; split <;> omega
  have ht : top = 1099511627776 := rfl
  have e := add_ok (l := os.getD a []) (node := a) (n := n) (h.right a ha) ((inB_iff _ _ _).2 (by omega)) ((inB_iff _ _ _).2 (by omega)) (by omega)
  refine ⟨e, ?_⟩
  have := (add_len (h.len a ha) a n).2
  rw [e] at this
  exact this
/-- the first k, joined -/
def joinTo (os : List (List Int)) : Nat → List Int
  | 0 => zero
  | k + 1 => joinL (joinTo os k) (os.getD k [])
theorem joinTo_spec (h : Cop os T) : ∀ k, k ≤ 8 → (joinTo os k).length = 16 ∧ rightB (joinTo os k) = true ∧ ∀ i, i < 16 → (joinTo os k).getD i 0 ≤ T.getD i 0 ∧ (i % 8 < k → (joinTo os k).getD i 0 = T.getD i 0) := by
  intro k
  induction k with
  | zero =>
    intro _
    refine ⟨rfl, zero_right, fun i hi => ⟨?_, fun h => absurd h (by omega)⟩⟩
    rw [show joinTo os 0 = zero from rfl, zero_at i hi]
    have h1 := h.own (i % 8) (by omega) i hi rfl
    have h2 := right_at (h.right (i % 8) (by omega)) i
    omega
  | succ k ih =>
    intro hk
    obtain ⟨h1, h2, h3⟩ := ih (by omega)
    have hl := h.len k (by omega)
    refine ⟨join_len h1 hl, join_right h1 hl, fun i hi => ?_⟩
    rw [show joinTo os (k + 1) = joinL (joinTo os k) (os.getD k []) from rfl, join_at h1 hl hi, own_own _ h2, own_own _ (h.right k (by omega))]
    have h4 := h.le k (by omega) i hi
    have h5 := h.own k (by omega) i hi
    have h6 := h3 i hi
    have h7 := mx_or ((joinTo os k).getD i 0) ((os.getD k []).getD i 0)
    refine ⟨by omega, fun h8 => ?_⟩
    by_cases e : i % 8 = k
    · have := h5 e; omega
    · have := h6.2 (by omega); omega
theorem joinTo_all (h : Cop os T) : joinTo os 8 = T := by
  obtain ⟨h1, h2, h3⟩ := joinTo_spec h 8 (Nat.le_refl _)
  exact ext16 h1 h.t fun i hi => (h3 i hi).2 (by omega)
theorem joinTo_value (h : Cop os T) : valueL (joinTo os 8) = sumTo T 8 := by
  obtain ⟨h1, h2, h3⟩ := joinTo_spec h 8 (Nat.le_refl _)
  unfold valueL
  rw [own_own _ h2, joinTo_all h]
end
end Go.Proofs.Ytoepklcmdmeanaa
