/- Boards in plain words. -/
import Derived.Test.YtocoohpekpkmkaaTallyMath
import Derived.Test.YtocoohpekpkmkaaRegMeetM
namespace Go.Proofs.Ytocoohpekpkmkaa
set_option linter.unusedVariables false
set_option linter.unusedSimpArgs false
/-- what was written (sixteen counts), plans, notes -/
structure Bd where
  t : List Int
  p : List Reg.La
  u : List Int
  l : List Reg.Vl
namespace Bo
open Reg (La Vl)
def z3 : La := (0, 0, 0)
def planB (p : La) : Bool := decide (p = (0, 0, 0)) || (Reg.inB p.1 1 1099511627776 && Reg.inB p.2.1 0 7 && Reg.inB p.2.2 0 1000)
/-- a board of the right shape -/
structure Shaped (b : Bd) : Prop where
  t : b.t.length = 16
  p : b.p.length = 8
  u : b.u.length = 8
def rightB (b : Bd) : Bool := b.p.all planB && b.l.all (fun v => decide (0 ≤ v.2.2)) && Tally.rightB b.t && Reg.rightM b.u b.l
def zero : Bd := ⟨Tally.zero, List.replicate 8 (0, 0, 0), [0, 0, 0, 0, 0, 0, 0, 0], []⟩
def own (b : Bd) : Bd := if rightB b then b else zero
theorem zero_shaped : Shaped zero := ⟨rfl, rfl, rfl⟩
theorem zero_right : rightB zero = true := by decide
theorem own_shaped {b : Bd} (h : Shaped b) : Shaped (own b) := by
  unfold own
  split
  · exact h
  · exact zero_shaped
theorem own_right (b : Bd) : rightB (own b) = true := by
  unfold own
  split
  · assumption
  · exact zero_right
theorem own_of {b : Bd} (h : rightB b = true) : own b = b := by unfold own; rw [if_pos h]
theorem right_iff (b : Bd) : rightB b = true ↔ (∀ p ∈ b.p, planB p = true) ∧ (∀ v ∈ b.l, 0 ≤ v.2.2) ∧ Tally.rightB b.t = true ∧ Reg.rightM b.u b.l = true := by
  unfold rightB
  simp only [Bool.and_eq_true, List.all_eq_true, decide_eq_true_eq]
  constructor
  · rintro ⟨⟨⟨h1, h2⟩, h3⟩, h4⟩; exact ⟨h1, h2, h3, h4⟩
  · rintro ⟨h1, h2, h3, h4⟩; exact ⟨⟨⟨h1, h2⟩, h3⟩, h4⟩
/-- a board with a write of a node; an error's number -/
def wrote (b : Bd) (by_ work rep : Int) : Bd × Int :=
  if rightB b = false ∨ Reg.inB by_ 0 7 = false ∨ Reg.inB work 0 7 = false ∨ Reg.inB rep 0 1000 = false then (zero, 2)
  else if (Tally.addL b.t by_ 1).2 ≠ 0 then (zero, (Tally.addL b.t by_ 1).2)
  else if (Reg.writeL (b.p.getD work.toNat (0, 0, 0)) by_ rep).2 ≠ 0 then (zero, (Reg.writeL (b.p.getD work.toNat (0, 0, 0)) by_ rep).2)
  else (⟨(Tally.addL b.t by_ 1).1, b.p.set work.toNat (Reg.writeL (b.p.getD work.toNat (0, 0, 0)) by_ rep).1, b.u, b.l⟩, 0)
/-- a board with a note of a node; an error's number -/
def note (b : Bd) (by_ v : Int) : Bd × Int :=
  if rightB b = false ∨ v < 0 then (zero, 2)
  else if (Reg.putM b.u b.l by_ v).2 ≠ 0 then (zero, (Reg.putM b.u b.l by_ v).2)
  else (⟨b.t, b.p, (Reg.putM b.u b.l by_ v).1.1, (Reg.putM b.u b.l by_ v).1.2⟩, 0)
/-- what two know together -/
def join (a b : Bd) : Bd :=
  ⟨Tally.joinL (own a).t (own b).t, List.zipWith Reg.joinL (own a).p (own b).p, (List.range 8).map (fun i => max ((own a).u.getD i 0) ((own b).u.getD i 0)), Reg.meetL (own a).u (own b).u (own a).l (own b).l⟩
/-- a right board's numbers behind its tally's -/
def plansN (p : List La) : Nat → List Int
  | 0 => []
  | k + 1 => plansN p k ++ if p.getD k (0, 0, 0) = (0, 0, 0) then [] else [(k : Int) + 1, (p.getD k (0, 0, 0)).1, (p.getD k (0, 0, 0)).2.1, (p.getD k (0, 0, 0)).2.2]
def valsN (l : List Vl) : List Int := l.flatMap fun v => [v.1, v.2.1, v.2.2]
def restN (b : Bd) : List Int := plansN b.p 8 ++ [0] ++ b.u ++ [(b.l.length : Int)] ++ valsN b.l
theorem plans_len (p : List La) : ∀ k, (plansN p k).length ≤ 4 * k := by
  intro k
  induction k with
  | zero => simp [plansN]
  | succ k ih =>
    unfold plansN
    rw [List.length_append]
    split <;> simp <;> omega
theorem vals_len (l : List Vl) : (valsN l).length = 3 * l.length := by
  unfold valsN
  induction l with
  | nil => rfl
  | cons a l ih => rw [List.flatMap_cons, List.length_append, ih]; simp; omega
theorem planB_iff (p : La) : planB p = true ↔ p = (0, 0, 0) ∨ ((1 ≤ p.1 ∧ p.1 ≤ 1099511627776) ∧ (0 ≤ p.2.1 ∧ p.2.1 ≤ 7) ∧ 0 ≤ p.2.2 ∧ p.2.2 ≤ 1000) := by
  unfold planB
  simp only [Bool.or_eq_true, Bool.and_eq_true, decide_eq_true_eq, Reg.inB_iff]
  constructor
  · rintro (h | ⟨⟨h1, h2⟩, h3⟩)
    · exact Or.inl h
    · exact Or.inr ⟨h1, h2, h3⟩
  · rintro (h | ⟨h1, h2, h3⟩)
    · exact Or.inl h
    · exact Or.inr ⟨⟨h1, h2⟩, h3⟩
/-- each number of a right board is one that vint.Put takes -/
def Small (ns : List Int) : Prop := ∀ x ∈ ns, 0 ≤ x ∧ x ≤ 1099511627776
theorem Small.app {a b : List Int} (h : Small a) (k : Small b) : Small (a ++ b) := fun x hx => by
  rcases List.mem_append.1 hx with hx | hx
  · exact h x hx
  · exact k x hx
theorem plans_small {p : List La} (hl : p.length = 8) (h : ∀ q ∈ p, planB q = true) : ∀ k, k ≤ 8 → Small (plansN p k) := by
  intro k
  induction k with
  | zero => intro _ x hx; cases hx
  | succ k ih =>
    intro hk
    unfold plansN
    refine (ih (by omega)).app ?_
    split
    · intro x hx; cases hx
    · rename_i hz
      have hm : p.getD k (0, 0, 0) ∈ p := by rw [List.getD_eq_getElem?_getD, List.getElem?_eq_getElem (by omega)]; exact List.getElem_mem _
      have hq := (planB_iff _).1 (h _ hm)
      rcases hq with hq | hq
      · exact absurd hq hz
      · generalize p.getD k (0, 0, 0) = q at *
        obtain ⟨q0, q1, q2⟩ := q
        simp only at hq
        intro x hx
        simp at hx
        omega
theorem rest_small {b : Bd} (hs : Shaped b) (h : rightB b = true) : Small (restN b) := by
  obtain ⟨h1, h2, h3, h4⟩ := (right_iff b).1 h
  have hr := Reg.right_facts h4
  have hm := (Reg.rightM_iff b.u b.l).1 h4
  have hlen : b.l.length ≤ 100000 := by
    have hg : ∀ i (hi : i < b.l.length), (i : Int) ≤ b.l[i].1 := by
      intro i
      induction i with
      | zero => intro hi; exact (hr.node _ (List.getElem_mem hi)).1
      | succ i ih =>
        intro hi
        have h1 := ih (by omega)
        have h2 := (List.pairwise_iff_getElem.1 hr.up) i (i + 1) (by omega) hi (by omega)
        omega
    by_cases h8 : 8 < b.l.length
    · have h1 := hg 8 h8
      have h2 := (hr.node _ (List.getElem_mem h8)).2
      omega
    · omega
  unfold restN
  refine ((((plans_small hs.p h1 8 (by omega)).app ?_).app ?_).app ?_).app ?_
  · intro x hx; simp at hx; omega
  · intro x hx
    have := List.all_eq_true.1 hm.1 x hx
    exact (Reg.numOk_iff x).1 this
  · intro x hx; simp at hx; omega
  · intro x hx
    unfold valsN at hx
    obtain ⟨v, hv, hx⟩ := List.mem_flatMap.1 hx
    have hn := hr.node v hv
    have hq := hr.seq v hv
    have hv2 := h2 v hv
    obtain ⟨k, hk, hkv⟩ := List.getElem_of_mem hv
    have hg := hm.2 k hk
    unfold Reg.goodV at hg
    rw [show b.l.getD k (0, 0, 0) = v by rw [List.getD_eq_getElem?_getD, List.getElem?_eq_getElem hk, ← hkv]; rfl] at hg
    simp only [Bool.and_eq_true] at hg
    have hmay := (Reg.mayN_iff _ _).1 hg.1.1
    have hU := Reg.all_numV hm.1 v.1.toNat
    obtain ⟨v0, v1, v2⟩ := v
    simp only at *
    simp at hx
    omega
end Bo
end Go.Proofs.Ytocoohpekpkmkaa
