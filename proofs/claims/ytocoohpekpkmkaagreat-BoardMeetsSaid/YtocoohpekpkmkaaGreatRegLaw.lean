/- The contracts for whatever value holds a register. -/
import Derived.Test.YtocoohpekpkmkaaGreatRegRMeet
import Derived.Test.YtocoohpekpkmkaaGreatRegRVals
import Derived.Test.YtocoohpekpkmkaaGreatRegSame
import Derived.Test.YtocoohpekpkmkaaGreatRegNode
namespace Go.Proofs.YtocoohpekpkmkaaGreat
set_option linter.unusedVariables false
set_option linter.unusedSimpArgs false
open Go.RowKit
open Reg
/-- a value that holds a register, whose row lies below B -/
def HoldM (B : Nat) (U : List Int) (l : List Vl) (q : Value) (w : World) : Prop := ∃ A m c, q = .agg (uc U (.slice A m c)) ∧ RdV w B A m l ∧ m ≤ 100000
def Fresh (U : List Int) (l : List Vl) (q : Value) (w : World) : Prop := HoldM w.heap.size U l q w
def HoldI (B : Nat) (l : List Int) (q : Value) (w : World) : Prop := ∃ A m c, q = .slice A m c ∧ RdI w B A m l ∧ m ≤ 100000
def FreshI (l : List Int) (q : Value) (w : World) : Prop := HoldI w.heap.size l q w
section
variable {B B' : Nat} {U : List Int} {l : List Vl} {q : Value} {w w' : World} {li : List Int}
theorem HoldM.below (h : HoldM B U l q w) (hb : Below B w w') : HoldM B U l q w' := by
  obtain ⟨A, m, c, h1, h2, h3⟩ := h
  exact ⟨A, m, c, h1, h2.below hb, h3⟩
theorem HoldM.more (h : HoldM B U l q w) (hB : B ≤ B') : HoldM B' U l q w := by
  obtain ⟨A, m, c, h1, h2, h3⟩ := h
  exact ⟨A, m, c, h1, h2.more hB, h3⟩
theorem HoldM.fresh (h : HoldM B U l q w) : Fresh U l q w := by
  obtain ⟨A, m, c, h1, h2, h3⟩ := h
  exact ⟨A, m, c, h1, h2.size, h3⟩
theorem Fresh.below (h : Fresh U l q w) (hb : Below w.heap.size w w') : Fresh U l q w' := (HoldM.below h hb).fresh
theorem HoldI.below (h : HoldI B li q w) (hb : Below B w w') : HoldI B li q w' := by
  obtain ⟨A, m, c, h1, h2, h3⟩ := h
  exact ⟨A, m, c, h1, ⟨h2.1, h2.2.below hb⟩, h3⟩
theorem HoldI.fresh (h : HoldI B li q w) : FreshI li q w := by
  obtain ⟨A, m, c, h1, h2, h3⟩ := h
  exact ⟨A, m, c, h1, ⟨h2.1, h2.2.size⟩, h3⟩
theorem FreshI.below (h : FreshI li q w) (hb : Below w.heap.size w w') : FreshI li q w' := (HoldI.below h hb).fresh
theorem RdV.len (h : RdV w B (none) 0 l) : l = [] := List.length_eq_zero_iff.1 h.1.symm
theorem Fresh.size9 {cs : Array Value} (h : Fresh U l (.agg cs) w) (hU : U.length = 8) : cs.size = 9 := by
  obtain ⟨A, m, c, h1, _⟩ := h
  injection h1 with h1
  rw [h1, uc_size hU]
theorem Fresh.one9 {cs : Array Value} (h : Fresh U l (.agg cs) w) : cs.all (·.oneCell') = true := by
  obtain ⟨A, m, c, h1, _⟩ := h
  injection h1 with h1
  rw [h1]
  exact uc_one rfl
theorem Fresh.agg (h : Fresh U l q w) : ∃ cs, q = .agg cs := by
  obtain ⟨A, m, c, h1, _⟩ := h
  exact ⟨_, h1⟩
theorem Fresh.nil (w : World) : Fresh z8 [] (.agg (uc z8 (.slice none 0 0))) w := ⟨none, 0, 0, rfl, RdV.nil _ _ _, by omega⟩
/-- .. in memory of the call's own -/
def FreshO (T : TypeId) (U : List Int) (l : List Vl) (q : Value) (w : World) : Prop := ∃ A m c, q = .agg (uc U (.slice A m c)) ∧ OwnV T w 0 A m c l ∧ m ≤ 100000
theorem FreshO.fresh {T : TypeId} (h : FreshO T U l q w) : Fresh U l q w := by
  obtain ⟨A, m, c, h1, h2, h3⟩ := h
  exact ⟨A, m, c, h1, h2.rd, h3⟩
theorem FreshO.below {T : TypeId} (h : FreshO T U l q w) (hb : Below w.heap.size w w') : FreshO T U l q w' := by
  obtain ⟨A, m, c, h1, h2, h3⟩ := h
  exact ⟨A, m, c, h1, h2.below hb (Nat.le_refl _), h3⟩
theorem FreshO.grown {T t : TypeId} {g : Nat} {cs : Array Value} (h : FreshO T U l q w) (hg : w.grownBy w' (some g)) (k : Blk w g t cs) (hne : t ≠ T) : FreshO T U l q w' := by
  obtain ⟨A, m, c, h1, h2, h3⟩ := h
  exact ⟨A, m, c, h1, h2.grown hg (.inr (own_ne h2.2 k hne)), h3⟩
/-- the end of a call that gives a register -/
def GiveM (T : TypeId) (w : World) (U : List Int) (l : List Vl) (e : Ending) (w' : World) : Prop := ∃ q, e = .returned q ∧ FreshO T U l q w' ∧ Below w.heap.size w w'
def GiveI (w : World) (l : List Int) (e : Ending) (w' : World) : Prop := ∃ q, e = .returned q ∧ FreshI l q w' ∧ Below w.heap.size w w'
def GiveBo (w : World) (b : Bool) (e : Ending) (w' : World) : Prop := e = .returned (.bool b) ∧ Below w.heap.size w w'
def GiveMI (T : TypeId) (w : World) (U : List Int) (l : List Vl) (k : Int) (e : Ending) (w' : World) : Prop := ∃ q, e = .returned (.tuple #[q, .int .i64 k]) ∧ FreshO T U l q w' ∧ Below w.heap.size w w'
theorem copyV_give {T : TypeId} (hl : l.length ≤ 100000) {e : Ending} (h : CopyV T w U l e w') : GiveM T w U l e w' := by
  obtain ⟨A, m, c, h1, h2, h3⟩ := h
  exact ⟨_, h1, ⟨A, m, c, rfl, h2.mono (Nat.zero_le _), by rw [h2.1]; exact hl⟩, h3⟩
theorem Fresh.len (h : Fresh U l q w) : l.length ≤ 100000 := by
  obtain ⟨A, m, c, _, h2, h3⟩ := h
  rw [← h2.1]; exact h3
theorem toF (hU : U.length = 8) (h : Fresh U l q w) : Calls Tryz.prog 23 #[q] w (GiveM 84 w U l) := by
  have hl := h.len
  obtain ⟨A, m, c, rfl, h2, h3⟩ := h
  exact (to29_any U hU A m c l w h2 h3).mono fun e w' h => copyV_give hl h
theorem fromF (hU : U.length = 8) (h : Fresh U l q w) : Calls Tryz.prog 25 #[q] w (GiveM 121 w U l) := by
  have hl := h.len
  obtain ⟨A, m, c, rfl, h2, h3⟩ := h
  exact (from29_any U hU A m c l w h2 h3).mono fun e w' h => copyV_give hl h
theorem rightF (hU : U.length = 8) (h : Fresh U l q w) : Calls Tryz.prog 36 #[q] w (GiveBo w (rightM U l)) := by
  obtain ⟨A, m, c, rfl, h2, h3⟩ := h
  exact right29_any U hU A m c l w h2 h3
theorem rrightF (hU : U.length = 8) (h : Fresh U l q w) : Calls Tryz.prog 94 #[q] w (GiveBo w (rightM U l)) := by
  obtain ⟨A, m, c, rfl, h2, h3⟩ := h
  exact rright29_any U hU A m c l w h2 h3
theorem meetL_len' (U V : List Int) (l m : List Vl) : (meetL U V l m).length ≤ 100000 := by have := meetL_len U V l m; omega
theorem meetF {V : List Int} {l2 : List Vl} {q2 : Value} (hU : U.length = 8) (hV : V.length = 8) (h : Fresh U l q w) (h2 : Fresh V l2 q2 w) :
    Calls Tryz.prog 61 #[q, q2] w (GiveM 84 w (maxL (ownM U l).1 (ownM V l2).1) (meetL (ownM U l).1 (ownM V l2).1 (ownM U l).2 (ownM V l2).2)) := by
  obtain ⟨A, m, c, rfl, k2, k3⟩ := h
  obtain ⟨A2, m2, c2, rfl, k4, k5⟩ := h2
  exact (meet29_any U V hU hV A A2 m c m2 c2 l l2 w k2 k4 k3 k5).mono fun e w' h => copyV_give (meetL_len' _ _ _ _) h
theorem rmeetF {V : List Int} {l2 : List Vl} {q2 : Value} (hU : U.length = 8) (hV : V.length = 8) (h : Fresh U l q w) (h2 : Fresh V l2 q2 w) :
    Calls Tryz.prog 28 #[q, q2] w (GiveM 121 w (maxL (ownM U l).1 (ownM V l2).1) (meetL (ownM U l).1 (ownM V l2).1 (ownM U l).2 (ownM V l2).2)) := by
  obtain ⟨A, m, c, rfl, k2, k3⟩ := h
  obtain ⟨A2, m2, c2, rfl, k4, k5⟩ := h2
  exact (rmeet29_any U V hU hV A A2 m c m2 c2 l l2 w k2 k4 k3 k5).mono fun e w' h => copyV_give (meetL_len' _ _ _ _) h
theorem sameF {V : List Int} {l2 : List Vl} {q2 : Value} (hU : U.length = 8) (hV : V.length = 8) (wU : Wf U) (wV : Wf V) (h : Fresh U l q w) (h2 : Fresh V l2 q2 w) :
    Calls Tryz.prog 24 #[q, q2] w (GiveBo w (decide (U = V) && decide (l = l2))) := by
  obtain ⟨A, m, c, rfl, k2, k3⟩ := h
  obtain ⟨A2, m2, c2, rfl, k4, k5⟩ := h2
  exact same29_any U V hU hV wU wV A A2 m c m2 c2 l l2 w k2 k4 (by omega)
theorem valsM_len (hl : l.length ≤ 100000) : (valuesM U l).length ≤ 100000 := by
  unfold valuesM ownM
  split <;> simp <;> omega
theorem putM_len (nd v : Int) (hl : l.length ≤ 100000) : (putM U l nd v).1.2.length ≤ 100000 := by
  unfold putM
  split
  · simp
  · split
    · simp
    · simp
theorem putF (hU : U.length = 8) (nd v : Int) (h : Fresh U l q w) : Calls Tryz.prog 47 #[q, .int .i64 nd, .int .i64 v] w (GiveMI 84 w (putM U l nd v).1.1 (putM U l nd v).1.2 (putM U l nd v).2) := by
  have hl := h.len
  obtain ⟨A, m, c, rfl, h2, h3⟩ := h
  refine (put29_any U hU A m c l nd v w h2 h3).mono ?_
  rintro e w' ⟨A', m', c', rfl, o, b⟩
  exact ⟨_, rfl, ⟨A', m', c', rfl, o.mono (Nat.zero_le _), by rw [o.1]; exact putM_len _ _ hl⟩, b⟩
end
theorem ownM_len {U : List Int} (h : U.length = 8) (l : List Vl) : (ownM U l).1.length = 8 := own_len h l
theorem ownM_wf {U : List Int} (h : Wf U) (l : List Vl) : Wf (ownM U l).1 := by
  unfold ownM
  split
  · exact h
  · intro x hx
    have : x = 0 := by simpa using hx
    subst this
    rfl
theorem maxL_wf {U V : List Int} (hu : U.length = 8) (hv : V.length = 8) (h : Wf U) (k : Wf V) : Wf (maxL U V) := fun x hx => by
  unfold maxL at hx
  obtain ⟨i, hi, rfl⟩ := List.mem_map.1 hx
  have hi := List.mem_range.1 hi
  have h1 : U.getD i 0 ∈ U := by rw [List.getD_eq_getElem?_getD, List.getElem?_eq_getElem (by omega)]; exact List.getElem_mem _
  have h2 : V.getD i 0 ∈ V := by rw [List.getD_eq_getElem?_getD, List.getElem?_eq_getElem (by omega)]; exact List.getElem_mem _
  by_cases c : U.getD i 0 ≤ V.getD i 0
  · rw [Int.max_eq_right c]; exact k _ h2
  · rw [Int.max_eq_left (by omega)]; exact h _ h1
theorem putM_len8 {U : List Int} (h : U.length = 8) (l : List Vl) (nd v : Int) : (putM U l nd v).1.1.length = 8 := by
  unfold putM
  split
  · rfl
  · split
    · rfl
    · rw [List.length_set]; exact h
theorem putM_wf {U : List Int} (hU : U.length = 8) (h : Wf U) (l : List Vl) (nd v : Int) : Wf (putM U l nd v).1.1 := by
  have hz : Wf [0, 0, 0, 0, 0, 0, 0, 0] := fun x hx => by
    have : x = 0 := by simpa using hx
    subst this
    rfl
  unfold putM
  split
  · exact hz
  · rename_i h1
    split
    · exact hz
    · rename_i h2
      intro x hx
      rcases List.mem_or_eq_of_mem_set hx with hx | rfl
      · exact h x hx
      · have hr : rightM U l = true := by
          cases hr : rightM U l with
          | true => rfl
          | false => exact absurd (Or.inl hr) h1
        have := all_numV ((rightM_iff U l).1 hr).1 nd.toNat
        exact wf_of (by omega) (by omega)
end Go.Proofs.YtocoohpekpkmkaaGreat
