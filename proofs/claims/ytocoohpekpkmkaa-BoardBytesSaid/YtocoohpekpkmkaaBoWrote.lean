/- The walk of board.Wrote. -/
import Derived.Test.YtocoohpekpkmkaaOpen
import Derived.Test.YtocoohpekpkmkaaRegAlive
import Derived.Test.YtocoohpekpkmkaaRegEq
import Derived.Test.YtocoohpekpkmkaaRegRMeet
import Derived.Test.YtocoohpekpkmkaaRegRVals
import Derived.Test.YtocoohpekpkmkaaRegSame
import Derived.Test.YtocoohpekpkmkaaRegNode
import Derived.Test.YtocoohpekpkmkaaBoMath
import Derived.Test.YtocoohpekpkmkaaTallyWalks
import Derived.Test.YtocoohpekpkmkaaFacts
import Derived.Lib.SliceRun
import Derived.Test.YtocoohpekpkmkaaFrameMust
import Derived.Test.YtocoohpekpkmkaaRegLast
import Derived.Test.YtocoohpekpkmkaaVintRead
import Derived.Test.YtocoohpekpkmkaaFoot
import Derived.Test.YtocoohpekpkmkaaTallyPut
import Derived.Test.YtocoohpekpkmkaaFramePut
import Derived.Test.YtocoohpekpkmkaaTallyAdd
/- How registers of which the last write counts read when they come in. -/
namespace Go.Proofs.Ytocoohpekpkmkaa
set_option linter.unusedVariables false
set_option linter.unusedSimpArgs false
open Go.ChangeShapes Go.WideShapes Go.ChangeAt Go.RowKit Go.Deep
open Reg
set_option maxRecDepth 100000
theorem cellsLa : (Try.prog).cellsOf 61 = 3 := by kernel_rfl
section
variable {H : Type} {enc : TypeId × Value → H} {W : World} {base : Nat} {sp : Nat → Bool} {held : Bool} {fuel : Nat} {cs : List Value} {x : DataW H × List MemPlace}
theorem rd_la (hf : DataW.trod enc Try.prog W base sp held fuel 61 cs = some x) : ∃ d : La, cs = [.int .i64 d.1, .int .i64 d.2.1, .int .i64 d.2.2] ∧ -9223372036854775808 ≤ d.1 := by
  have hl := rd_len Try.underlying61 cellsLa hf
  obtain ⟨_, _, g0⟩ := rd_field Try.underlying61 hf 0 3 0 1 rfl cellsI
  obtain ⟨_, _, g1⟩ := rd_field Try.underlying61 hf 1 3 1 1 rfl cellsI
  obtain ⟨_, _, g2⟩ := rd_field Try.underlying61 hf 2 3 2 1 rfl cellsI
  obtain ⟨x0, e0, h0⟩ := rd_int g0
  obtain ⟨x1, e1, _⟩ := rd_int g1
  obtain ⟨x2, e2, _⟩ := rd_int g2
  match cs, hl with
  | [a, b, c], _ =>
    simp at e0 e1 e2
    exact ⟨(x0, x1, x2), by rw [e0, e1, e2], h0.1⟩
end
section
variable {H : Type} {enc : TypeId × Value → H} {W : World} {base : Nat} {sp : Nat → Bool} {held : Bool} {r : Reach} {b0 : Nat} {v : Value} {d : DataW H} {p : List MemPlace}
theorem open_la (hv : Value.okWide Try.prog W r b0 61 v) (h : DataW.Trod enc Try.prog W base sp held 61 v d p) : ∃ a : La, v = v3 a ∧ -9223372036854775808 ≤ a.1 := by
  obtain ⟨cs, rfl, hsz⟩ := okWide_struct Try.underlying61 hv
  obtain ⟨fuel, hf0⟩ := h
  have hf : DataW.trod enc Try.prog W base sp held fuel 61 cs.toList = some (d, p) := hf0
  obtain ⟨a, h1, h2⟩ := rd_la hf
  exact ⟨a, by rw [← Array.toArray_toList (xs := cs), h1]; rfl, h2⟩
end
end Go.Proofs.Ytocoohpekpkmkaa

/- The contracts for whatever value holds a register. -/
namespace Go.Proofs.Ytocoohpekpkmkaa
set_option linter.unusedVariables false
set_option linter.unusedSimpArgs false
open Go.RowKit
open Reg
/-- a value that holds a register, whose row lies below B -/
def HoldM (B : Nat) (U : List Int) (l : List Vl) (q : Value) (w : World) : Prop := ∃ A m c, q = .agg (uc U (.slice A m c)) ∧ RdV w B A m l ∧ m ≤ 100000
def Fresh (U : List Int) (l : List Vl) (q : Value) (w : World) : Prop := HoldM w.heap.size U l q w
def HoldI (B : Nat) (l : List Int) (q : Value) (w : World) : Prop := ∃ A m c, q = .slice A m c ∧ RdI w B A m l ∧ m ≤ 100000
def FreshI (l : List Int) (q : Value) (w : World) : Prop := HoldI w.heap.size l q w
section
variable {B B' : Nat} {U : List Int} {l : List Vl} {q : Value} {w w' : World} {li : List Int}
theorem HoldM.below (h : HoldM B U l q w) (hb : Below B w w') : HoldM B U l q w' := by
  obtain ⟨A, m, c, h1, h2, h3⟩ := h
  exact ⟨A, m, c, h1, h2.below hb, h3⟩
theorem HoldM.more (h : HoldM B U l q w) (hB : B ≤ B') : HoldM B' U l q w := by
  obtain ⟨A, m, c, h1, h2, h3⟩ := h
  exact ⟨A, m, c, h1, h2.more hB, h3⟩
theorem HoldM.fresh (h : HoldM B U l q w) : Fresh U l q w := by
  obtain ⟨A, m, c, h1, h2, h3⟩ := h
  exact ⟨A, m, c, h1, h2.size, h3⟩
theorem Fresh.below (h : Fresh U l q w) (hb : Below w.heap.size w w') : Fresh U l q w' := (HoldM.below h hb).fresh
theorem HoldI.below (h : HoldI B li q w) (hb : Below B w w') : HoldI B li q w' := by
  obtain ⟨A, m, c, h1, h2, h3⟩ := h
  exact ⟨A, m, c, h1, ⟨h2.1, h2.2.below hb⟩, h3⟩
theorem HoldI.fresh (h : HoldI B li q w) : FreshI li q w := by
  obtain ⟨A, m, c, h1, h2, h3⟩ := h
  exact ⟨A, m, c, h1, ⟨h2.1, h2.2.size⟩, h3⟩
theorem FreshI.below (h : FreshI li q w) (hb : Below w.heap.size w w') : FreshI li q w' := (HoldI.below h hb).fresh
theorem RdV.len (h : RdV w B (none) 0 l) : l = [] := List.length_eq_zero_iff.1 h.1.symm
theorem Fresh.size9 {cs : Array Value} (h : Fresh U l (.agg cs) w) (hU : U.length = 8) : cs.size = 9 := by
  obtain ⟨A, m, c, h1, _⟩ := h
  injection h1 with h1
  rw [h1, uc_size hU]
theorem Fresh.one9 {cs : Array Value} (h : Fresh U l (.agg cs) w) : cs.all (·.oneCell') = true := by
  obtain ⟨A, m, c, h1, _⟩ := h
  injection h1 with h1
  rw [h1]
  exact uc_one rfl
theorem Fresh.agg (h : Fresh U l q w) : ∃ cs, q = .agg cs := by
  obtain ⟨A, m, c, h1, _⟩ := h
  exact ⟨_, h1⟩
theorem Fresh.nil (w : World) : Fresh z8 [] (.agg (uc z8 (.slice none 0 0))) w := ⟨none, 0, 0, rfl, RdV.nil _ _ _, by omega⟩
/-- .. in memory of the call's own -/
def FreshO (T : TypeId) (U : List Int) (l : List Vl) (q : Value) (w : World) : Prop := ∃ A m c, q = .agg (uc U (.slice A m c)) ∧ OwnV T w 0 A m c l ∧ m ≤ 100000
theorem FreshO.fresh {T : TypeId} (h : FreshO T U l q w) : Fresh U l q w := by
  obtain ⟨A, m, c, h1, h2, h3⟩ := h
  exact ⟨A, m, c, h1, h2.rd, h3⟩
theorem FreshO.below {T : TypeId} (h : FreshO T U l q w) (hb : Below w.heap.size w w') : FreshO T U l q w' := by
  obtain ⟨A, m, c, h1, h2, h3⟩ := h
  exact ⟨A, m, c, h1, h2.below hb (Nat.le_refl _), h3⟩
theorem FreshO.grown {T t : TypeId} {g : Nat} {cs : Array Value} (h : FreshO T U l q w) (hg : w.grownBy w' (some g)) (k : Blk w g t cs) (hne : t ≠ T) : FreshO T U l q w' := by
  obtain ⟨A, m, c, h1, h2, h3⟩ := h
  exact ⟨A, m, c, h1, h2.grown hg (.inr (own_ne h2.2 k hne)), h3⟩
/-- the end of a call that gives a register -/
def GiveM (T : TypeId) (w : World) (U : List Int) (l : List Vl) (e : Ending) (w' : World) : Prop := ∃ q, e = .returned q ∧ FreshO T U l q w' ∧ Below w.heap.size w w'
def GiveI (w : World) (l : List Int) (e : Ending) (w' : World) : Prop := ∃ q, e = .returned q ∧ FreshI l q w' ∧ Below w.heap.size w w'
def GiveBo (w : World) (b : Bool) (e : Ending) (w' : World) : Prop := e = .returned (.bool b) ∧ Below w.heap.size w w'
def GiveMI (T : TypeId) (w : World) (U : List Int) (l : List Vl) (k : Int) (e : Ending) (w' : World) : Prop := ∃ q, e = .returned (.tuple #[q, .int .i64 k]) ∧ FreshO T U l q w' ∧ Below w.heap.size w w'
theorem copyV_give {T : TypeId} (hl : l.length ≤ 100000) {e : Ending} (h : CopyV T w U l e w') : GiveM T w U l e w' := by
  obtain ⟨A, m, c, h1, h2, h3⟩ := h
  exact ⟨_, h1, ⟨A, m, c, rfl, h2.mono (Nat.zero_le _), by rw [h2.1]; exact hl⟩, h3⟩
theorem Fresh.len (h : Fresh U l q w) : l.length ≤ 100000 := by
  obtain ⟨A, m, c, _, h2, h3⟩ := h
  rw [← h2.1]; exact h3
theorem toF (hU : U.length = 8) (h : Fresh U l q w) : Calls Try.prog 10 #[q] w (GiveM 49 w U l) := by
  have hl := h.len
  obtain ⟨A, m, c, rfl, h2, h3⟩ := h
  exact (to29_any U hU A m c l w h2 h3).mono fun e w' h => copyV_give hl h
theorem fromF (hU : U.length = 8) (h : Fresh U l q w) : Calls Try.prog 17 #[q] w (GiveM 105 w U l) := by
  have hl := h.len
  obtain ⟨A, m, c, rfl, h2, h3⟩ := h
  exact (from29_any U hU A m c l w h2 h3).mono fun e w' h => copyV_give hl h
theorem rightF (hU : U.length = 8) (h : Fresh U l q w) : Calls Try.prog 14 #[q] w (GiveBo w (rightM U l)) := by
  obtain ⟨A, m, c, rfl, h2, h3⟩ := h
  exact right29_any U hU A m c l w h2 h3
theorem rrightF (hU : U.length = 8) (h : Fresh U l q w) : Calls Try.prog 15 #[q] w (GiveBo w (rightM U l)) := by
  obtain ⟨A, m, c, rfl, h2, h3⟩ := h
  exact rright29_any U hU A m c l w h2 h3
theorem meetL_len' (U V : List Int) (l m : List Vl) : (meetL U V l m).length ≤ 100000 := by have := meetL_len U V l m; omega
theorem meetF {V : List Int} {l2 : List Vl} {q2 : Value} (hU : U.length = 8) (hV : V.length = 8) (h : Fresh U l q w) (h2 : Fresh V l2 q2 w) :
    Calls Try.prog 13 #[q, q2] w (GiveM 49 w (maxL (ownM U l).1 (ownM V l2).1) (meetL (ownM U l).1 (ownM V l2).1 (ownM U l).2 (ownM V l2).2)) := by
  obtain ⟨A, m, c, rfl, k2, k3⟩ := h
  obtain ⟨A2, m2, c2, rfl, k4, k5⟩ := h2
  exact (meet29_any U V hU hV A A2 m c m2 c2 l l2 w k2 k4 k3 k5).mono fun e w' h => copyV_give (meetL_len' _ _ _ _) h
theorem rmeetF {V : List Int} {l2 : List Vl} {q2 : Value} (hU : U.length = 8) (hV : V.length = 8) (h : Fresh U l q w) (h2 : Fresh V l2 q2 w) :
    Calls Try.prog 18 #[q, q2] w (GiveM 105 w (maxL (ownM U l).1 (ownM V l2).1) (meetL (ownM U l).1 (ownM V l2).1 (ownM U l).2 (ownM V l2).2)) := by
  obtain ⟨A, m, c, rfl, k2, k3⟩ := h
  obtain ⟨A2, m2, c2, rfl, k4, k5⟩ := h2
  exact (rmeet29_any U V hU hV A A2 m c m2 c2 l l2 w k2 k4 k3 k5).mono fun e w' h => copyV_give (meetL_len' _ _ _ _) h
theorem sameF {V : List Int} {l2 : List Vl} {q2 : Value} (hU : U.length = 8) (hV : V.length = 8) (wU : Wf U) (wV : Wf V) (h : Fresh U l q w) (h2 : Fresh V l2 q2 w) :
    Calls Try.prog 16 #[q, q2] w (GiveBo w (decide (U = V) && decide (l = l2))) := by
  obtain ⟨A, m, c, rfl, k2, k3⟩ := h
  obtain ⟨A2, m2, c2, rfl, k4, k5⟩ := h2
  exact same29_any U V hU hV wU wV A A2 m c m2 c2 l l2 w k2 k4 (by omega)
theorem valsM_len (hl : l.length ≤ 100000) : (valuesM U l).length ≤ 100000 := by
  unfold valuesM ownM
  split <;> simp <;> omega
theorem valuesF (hU : U.length = 8) (h : Fresh U l q w) : Calls Try.prog 20 #[q] w (GiveI w (valuesM U l)) := by
  have hl := h.len
  obtain ⟨A, m, c, rfl, h2, h3⟩ := h
  refine (values29_any U hU A m c l w h2 h3).mono ?_
  rintro e w' ⟨A', m', c', rfl, o, b⟩
  exact ⟨_, rfl, ⟨A', m', c', rfl, o.rd, by rw [o.1]; exact valsM_len hl⟩, b⟩
theorem rvaluesF (hU : U.length = 8) (h : Fresh U l q w) : Calls Try.prog 21 #[q] w (GiveI w (valuesM U l)) := by
  have hl := h.len
  obtain ⟨A, m, c, rfl, h2, h3⟩ := h
  refine (rvalues29_any U hU A m c l w h2 h3).mono ?_
  rintro e w' ⟨A', m', c', rfl, o, b⟩
  exact ⟨_, rfl, ⟨A', m', c', rfl, o.rd, by rw [o.1]; exact valsM_len hl⟩, b⟩
theorem intsF {l2 : List Int} {q2 : Value} (h : FreshI li q w) (h2 : FreshI l2 q2 w) : Calls Try.prog 19 #[q, q2] w (GiveBo w (decide (li = l2))) := by
  obtain ⟨A, m, c, rfl, k2, k3⟩ := h
  obtain ⟨A2, m2, c2, rfl, k4, k5⟩ := h2
  refine (ints29_any A A2 m c m2 c2 _ li l2 w k2 k4 (by omega)).mono ?_
  rintro e w' ⟨rfl, n, rfl⟩
  exact ⟨rfl, below_drewN (Below.refl _ _) _⟩
theorem putM_len (nd v : Int) (hl : l.length ≤ 100000) : (putM U l nd v).1.2.length ≤ 100000 := by
  unfold putM
  split
  · simp
  · split
    · simp
    · simp
theorem putF (hU : U.length = 8) (nd v : Int) (h : Fresh U l q w) : Calls Try.prog 11 #[q, .int .i64 nd, .int .i64 v] w (GiveMI 49 w (putM U l nd v).1.1 (putM U l nd v).1.2 (putM U l nd v).2) := by
  have hl := h.len
  obtain ⟨A, m, c, rfl, h2, h3⟩ := h
  refine (put29_any U hU A m c l nd v w h2 h3).mono ?_
  rintro e w' ⟨A', m', c', rfl, o, b⟩
  exact ⟨_, rfl, ⟨A', m', c', rfl, o.mono (Nat.zero_le _), by rw [o.1]; exact putM_len _ _ hl⟩, b⟩
theorem rputF (hU : U.length = 8) (nd v : Int) (h : Fresh U l q w) : Calls Try.prog 12 #[q, .int .i64 nd, .int .i64 v] w (GiveMI 105 w (putM U l nd v).1.1 (putM U l nd v).1.2 (putM U l nd v).2) := by
  have hl := h.len
  obtain ⟨A, m, c, rfl, h2, h3⟩ := h
  refine (rput29_any U hU A m c l nd v w h2 h3).mono ?_
  rintro e w' ⟨A', m', c', rfl, o, b⟩
  exact ⟨_, rfl, ⟨A', m', c', rfl, o.mono (Nat.zero_le _), by rw [o.1]; exact putM_len _ _ hl⟩, b⟩
end
theorem ownM_len {U : List Int} (h : U.length = 8) (l : List Vl) : (ownM U l).1.length = 8 := own_len h l
theorem ownM_wf {U : List Int} (h : Wf U) (l : List Vl) : Wf (ownM U l).1 := by
  unfold ownM
  split
  · exact h
  · intro x hx
    have : x = 0 := by simpa using hx
    subst this
    rfl
theorem maxL_wf {U V : List Int} (hu : U.length = 8) (hv : V.length = 8) (h : Wf U) (k : Wf V) : Wf (maxL U V) := fun x hx => by
  unfold maxL at hx
  obtain ⟨i, hi, rfl⟩ := List.mem_map.1 hx
  have hi := List.mem_range.1 hi
  have h1 : U.getD i 0 ∈ U := by rw [List.getD_eq_getElem?_getD, List.getElem?_eq_getElem (by omega)]; exact List.getElem_mem _
  have h2 : V.getD i 0 ∈ V := by rw [List.getD_eq_getElem?_getD, List.getElem?_eq_getElem (by omega)]; exact List.getElem_mem _
  by_cases c : U.getD i 0 ≤ V.getD i 0
  · rw [Int.max_eq_right c]; exact k _ h2
  · rw [Int.max_eq_left (by omega)]; exact h _ h1
theorem putM_len8 {U : List Int} (h : U.length = 8) (l : List Vl) (nd v : Int) : (putM U l nd v).1.1.length = 8 := by
  unfold putM
  split
  · rfl
  · split
    · rfl
    · rw [List.length_set]; exact h
theorem putM_wf {U : List Int} (hU : U.length = 8) (h : Wf U) (l : List Vl) (nd v : Int) : Wf (putM U l nd v).1.1 := by
  have hz : Wf [0, 0, 0, 0, 0, 0, 0, 0] := fun x hx => by
    have : x = 0 := by simpa using hx
    subst this
    rfl
  unfold putM
  split
  · exact hz
  · rename_i h1
    split
    · exact hz
    · rename_i h2
      intro x hx
      rcases List.mem_or_eq_of_mem_set hx with hx | rfl
      · exact h x hx
      · have hr : rightM U l = true := by
          cases hr : rightM U l with
          | true => rfl
          | false => exact absurd (Or.inl hr) h1
        have := all_numV ((rightM_iff U l).1 hr).1 nd.toNat
        exact wf_of (by omega) (by omega)
end Go.Proofs.Ytocoohpekpkmkaa

/- How registers read when they come in. -/
namespace Go.Proofs.Ytocoohpekpkmkaa
set_option linter.unusedVariables false
set_option linter.unusedSimpArgs false
open Go.ChangeShapes Go.WideShapes Go.ChangeAt Go.RowKit Go.Deep
open Reg
set_option maxRecDepth 100000
theorem cellsRV : (Try.prog).cellsOf 105 = 3 := by kernel_rfl
theorem cellsRVs : (Try.prog).cellsOf 23 = 1 := by kernel_rfl
theorem cellsRM : (Try.prog).cellsOf 25 = 9 := by kernel_rfl
section
variable {H : Type} {enc : TypeId × Value → H} {W : World} {base : Nat} {sp : Nat → Bool} {held : Bool} {fuel : Nat} {cs : List Value} {x : DataW H × List MemPlace}
theorem rd_arr8 (hf : DataW.trod enc Try.prog W base sp held fuel 22 cs = some x) : ∃ l : List Int, cs = l.map (Value.int .i64) ∧ l.length = 8 ∧ Wf l := by
  obtain ⟨xs, m, _, _, hl, hxl, hg⟩ := DataW.trod_array Try.underlying22 hf
  rw [cellsA] at hl
  rw [cellsI] at hg
  have key : ∀ i, i < 8 → ∃ z : Int, cs[i]? = some (.int .i64 z) ∧ (Lit.int .i64 z).wf = true := fun i hi => by
    have h := hg i hi
    rw [List.getElem?_eq_getElem (by omega)] at h
    obtain ⟨z, h1, h2⟩ := rd_int h
    rw [Nat.mul_one] at h1
    refine ⟨z, ?_, wf_of h2.1 h2.2⟩
    have : ((cs.drop i).take 1)[0]? = some (.int .i64 z) := by rw [h1]; rfl
    rw [List.getElem?_take, if_pos (by omega), List.getElem?_drop] at this
    exact this
  have hex : ∀ i, ∃ z : Int, i < 8 → cs[i]? = some (.int .i64 z) ∧ (Lit.int .i64 z).wf = true := fun i => by
    by_cases hi : i < 8
    · obtain ⟨z, h⟩ := key i hi
      exact ⟨z, fun _ => h⟩
    · exact ⟨0, fun h => absurd h hi⟩
  refine ⟨(List.range 8).map fun i => (hex i).choose, ?_, by simp, fun z hz => ?_⟩
  · apply List.ext_getElem?
    intro i
    by_cases hi : i < 8
    · rw [((hex i).choose_spec hi).1, List.getElem?_map, List.getElem?_map, List.getElem?_range hi]
      rfl
    · rw [List.getElem?_eq_none (by omega), List.getElem?_eq_none (by simp; omega)]
  · obtain ⟨i, hi, rfl⟩ := List.mem_map.1 hz
    exact ((hex i).choose_spec (by simpa using hi)).2
theorem rd_val (hf : DataW.trod enc Try.prog W base sp held fuel 105 cs = some x) : ∃ d : Vl, cs = [.int .i64 d.1, .int .i64 d.2.1, .int .i64 d.2.2] := by
  have hl := rd_len Try.underlying105 cellsRV hf
  obtain ⟨_, _, g0⟩ := rd_field Try.underlying105 hf 0 3 0 1 rfl cellsI
  obtain ⟨_, _, g1⟩ := rd_field Try.underlying105 hf 1 3 1 1 rfl cellsI
  obtain ⟨_, _, g2⟩ := rd_field Try.underlying105 hf 2 3 2 1 rfl cellsI
  obtain ⟨x0, e0, _⟩ := rd_int g0
  obtain ⟨x1, e1, _⟩ := rd_int g1
  obtain ⟨x2, e2, _⟩ := rd_int g2
  match cs, hl with
  | [a, b, c], _ =>
    simp at e0 e1 e2
    exact ⟨(x0, x1, x2), by rw [e0, e1, e2]⟩
theorem rd_vals (hf : DataW.trod enc Try.prog W base sp held fuel 23 cs = some x) : ∃ (A : Option Addr) (n c : Nat) (l : List Vl), cs = [.slice A n c] ∧ RdV W W.heap.size A n l ∧ n ≤ maxLen := by
  obtain ⟨a, n, c, hcs, hnc, hcm, hg⟩ := rd_slice Try.underlying23 cellsRV hf
  have key : ∀ i, i < n → ∃ (ad : Addr) (d : Vl), a = some ad ∧ VAt W W.heap.size (ad.add (i * 3)) d := fun i hi => by
    obtain ⟨ad, cs', f', x', e, hl, hc, ht⟩ := hg i hi
    obtain ⟨d, rfl⟩ := rd_val ht
    have h0 := hc 0 (by omega)
    have h1 := hc 1 (by omega)
    have h2 := hc 2 (by omega)
    rw [add_add] at h0 h1 h2
    rw [Nat.add_zero] at h0
    rw [add_nextV _ _ _ (by decide)] at h1 h2
    exact ⟨ad, d, e, World.block_lt_of_cell? W _ h0, h0, h1, h2⟩
  have hex : ∀ i, ∃ d : Vl, i < n → ∃ ad, a = some ad ∧ VAt W W.heap.size (ad.add (i * 3)) d := fun i => by
    by_cases hi : i < n
    · obtain ⟨ad, d, h⟩ := key i hi
      exact ⟨d, fun _ => ⟨ad, h⟩⟩
    · exact ⟨(0, 0, 0), fun h => absurd h hi⟩
  refine ⟨a, n, c, (List.range n).map fun i => (hex i).choose, hcs, ⟨by simp, fun i d hi => ?_⟩, Nat.le_trans hnc hcm⟩
  have hi' : i < n := by
    have := (List.getElem?_eq_some_iff.1 hi).1
    simpa using this
  rw [List.getElem?_map, List.getElem?_range hi'] at hi
  injection hi with hi
  rw [← hi]
  exact (hex i).choose_spec hi'
theorem rd_many (hf : DataW.trod enc Try.prog W base sp held fuel 25 cs = some x) : ∃ (U : List Int) (A : Option Addr) (n c : Nat) (l : List Vl), cs = (uc U (.slice A n c)).toList ∧ U.length = 8 ∧ Wf U ∧ RdV W W.heap.size A n l ∧ n ≤ maxLen := by
  have hl := rd_len Try.underlying25 cellsRM hf
  obtain ⟨_, _, g0⟩ := rd_field Try.underlying25 hf 0 22 0 8 rfl cellsA
  obtain ⟨_, _, g1⟩ := rd_field Try.underlying25 hf 1 23 8 1 rfl cellsRVs
  obtain ⟨U, e0, hU, wU⟩ := rd_arr8 g0
  obtain ⟨A, n, c, l, e1, hr, hn⟩ := rd_vals g1
  refine ⟨U, A, n, c, l, ?_, hU, wU, hr, hn⟩
  unfold uc
  rw [← e0, ← e1, List.drop_zero, List.take_of_length_le (l := cs.drop 8) (by simp; omega), List.take_append_drop]
end
theorem cut_row {α : Type} (l : List α) (o m : Nat) : (l.drop o).take m ++ l.drop (o + m) = l.drop o := by
  have := List.take_append_drop m (l.drop o)
  rwa [List.drop_drop] at this
/-- a question's cells: two registers, a node, a value -/
def askC (C1 C2 : Array Value) (nd v : Int) : Array Value := (C1.toList ++ C2.toList ++ [Value.int .i64 nd, Value.int .i64 v]).toArray
theorem cellsAsk : (Try.prog).cellsOf 27 = 20 := by kernel_rfl
section
variable {H : Type} {enc : TypeId × Value → H} {W : World} {base : Nat} {sp : Nat → Bool} {held : Bool} {r : Reach} {b0 : Nat} {v : Value} {d : DataW H} {p : List MemPlace}
theorem open_ask (hv : Value.okWide Try.prog W r b0 27 v) (h : DataW.Trod enc Try.prog W base sp held 27 v d p) :
    ∃ (U1 U2 : List Int) (A1 A2 : Option Addr) (n1 c1 n2 c2 : Nat) (l1 l2 : List Vl) (nd z : Int), v = .agg (askC (uc U1 (.slice A1 n1 c1)) (uc U2 (.slice A2 n2 c2)) nd z) ∧ U1.length = 8 ∧ Wf U1 ∧ U2.length = 8 ∧ Wf U2 ∧ RdV W W.heap.size A1 n1 l1 ∧ RdV W W.heap.size A2 n2 l2 ∧ n1 ≤ maxLen ∧ n2 ≤ maxLen := by
  obtain ⟨cs, rfl, hsz⟩ := okWide_struct Try.underlying27 hv
  obtain ⟨fuel, hf0⟩ := h
  have hf : DataW.trod enc Try.prog W base sp held fuel 27 cs.toList = some (d, p) := hf0
  have hl := rd_len Try.underlying27 cellsAsk hf
  obtain ⟨_, _, g0⟩ := rd_field Try.underlying27 hf 0 25 0 9 rfl cellsRM
  obtain ⟨_, _, g1⟩ := rd_field Try.underlying27 hf 1 25 9 9 rfl cellsRM
  obtain ⟨_, _, g2⟩ := rd_field Try.underlying27 hf 2 3 18 1 rfl cellsI
  obtain ⟨_, _, g3⟩ := rd_field Try.underlying27 hf 3 3 19 1 rfl cellsI
  obtain ⟨U1, A1, n1, c1, l1, e0, hU1, w1, r1, m1⟩ := rd_many g0
  obtain ⟨U2, A2, n2, c2, l2, e1, hU2, w2, r2, m2⟩ := rd_many g1
  obtain ⟨nd, e2, _⟩ := rd_int g2
  obtain ⟨z, e3, _⟩ := rd_int g3
  refine ⟨U1, U2, A1, A2, n1, c1, n2, c2, l1, l2, nd, z, ?_, hU1, w1, hU2, w2, r1, r2, m1, m2⟩
  have hcs : cs.toList.length = 20 := hl
  have hall : cs.toList = (cs.toList.drop 0).take 9 ++ ((cs.toList.drop 9).take 9 ++ ((cs.toList.drop 18).take 1 ++ ((cs.toList.drop 19).take 1 ++ []))) := by
    rw [← List.drop_eq_nil_of_le (i := 20) (Nat.le_of_eq hcs), cut_row _ 19 1, cut_row _ 18 1, cut_row _ 9 9, cut_row _ 0 9, List.drop_zero]
  rw [e0, e1, e2, e3] at hall
  congr 1
  apply Array.ext'
  show cs.toList = _
  rw [hall]
  simp [askC]
end
end Go.Proofs.Ytocoohpekpkmkaa

/- Boards in memory. -/
namespace Go.Proofs.Ytocoohpekpkmkaa
set_option linter.unusedVariables false
set_option linter.unusedSimpArgs false
open Go.RowKit
open Reg (La Vl)
def pc (q : La) : List Value := [.int .i64 q.1, .int .i64 q.2.1, .int .i64 q.2.2]
def plansC (p : List La) : List Value := p.flatMap pc
/-- a board's cells: sixteen counts, eight plans, the notes -/
def bc (b : Bd) (s : Value) : Array Value := (b.t.map (Value.int .i64) ++ (plansC b.p ++ (b.u.map (Value.int .i64) ++ [s]))).toArray
theorem plansC_len (p : List La) : (plansC p).length = p.length * 3 := by
  unfold plansC
  induction p with
  | nil => rfl
  | cons a l ih => rw [List.flatMap_cons, List.length_append, ih, List.length_cons]; simp [pc]; omega
theorem plansC_at (p : List La) : ∀ (i j : Nat), i < p.length → j < 3 → (plansC p)[i * 3 + j]? = (pc (p.getD i (0, 0, 0)))[j]? := by
  unfold plansC
  induction p with
  | nil => intro i j h; simp at h
  | cons a l ih =>
    intro i j hi hj
    rw [List.flatMap_cons]
    cases i with
    | zero => rw [Nat.zero_mul, Nat.zero_add, List.getElem?_append_left (by simp [pc]; omega)]; rfl
    | succ i =>
      rw [List.getElem?_append_right (by simp [pc]; omega), show (i + 1) * 3 + j - (pc a).length = i * 3 + j by simp [pc]; omega, ih i j (by simpa using hi) hj]
      simp
section
variable {b : Bd} {s : Value} (h : Bo.Shaped b)
theorem bc_size (h : Bo.Shaped b) : (bc b s).size = 49 := by
  unfold bc
  simp [plansC_len, h.t, h.p, h.u]
theorem bc_one (hs : s.oneCell' = true) : (bc b s).all (·.oneCell') = true := by
  unfold bc
  rw [Array.all_eq_true_iff_forall_mem]
  intro x hx
  simp [plansC, pc] at hx
  rcases hx with ⟨a, _, rfl⟩ | ⟨a, c, d, _, rfl | rfl | rfl⟩ | ⟨a, _, rfl⟩ | rfl
  · rfl
  · rfl
  · rfl
  · rfl
  · rfl
  · exact hs
theorem bc_t (h : Bo.Shaped b) {i : Nat} (hi : i < 16) : (bc b s)[i]? = (tc b.t)[i]? := by
  unfold bc tc
  rw [List.getElem?_toArray, List.getElem?_toArray, List.getElem?_append_left (by rw [List.length_map, h.t]; exact hi)]
theorem bc_p (h : Bo.Shaped b) {i : Nat} (hi : i < 24) : (bc b s)[16 + i]? = (plansC b.p)[i]? := by
  unfold bc
  rw [List.getElem?_toArray, List.getElem?_append_right (by rw [List.length_map, h.t]; omega), List.length_map, h.t, show 16 + i - 16 = i by omega,
    List.getElem?_append_left (by rw [plansC_len, h.p]; omega)]
theorem bc_n (h : Bo.Shaped b) {i : Nat} (hi : i < 9) : (bc b s)[40 + i]? = (uc b.u s)[i]? := by
  unfold bc uc
  rw [List.getElem?_toArray, List.getElem?_toArray, List.getElem?_append_right (by rw [List.length_map, h.t]; omega), List.length_map, h.t, List.getElem?_append_right (by rw [plansC_len, h.p]; omega), plansC_len, h.p,
    show 40 + i - 16 - 8 * 3 = i by omega]
theorem bc_last (h : Bo.Shaped b) : (bc b s)[48]? = some s := by
  rw [show 48 = 40 + 8 from rfl, bc_n h (by omega)]
  exact uc_last h.u s
variable {w w' : World} {g : Nat} {T : TypeId}
theorem Blk.tal (k : Blk w g T (bc b s)) (h : Bo.Shaped b) : w.rangeAt g 0 (tc b.t).toList := fun j v hv => by
  have hj : j < 16 := by
    have := (List.getElem?_eq_some_iff.1 hv).1
    rwa [Array.length_toList, tc_size, h.t] at this
  rw [Nat.zero_add, k.cell, bc_t h hj, ← hv, Array.getElem?_toList]
theorem Blk.plans (k : Blk w g T (bc b s)) (h : Bo.Shaped b) : w.rangeAt g 16 (plansC b.p) := fun j v hv => by
  have hj : j < 24 := by
    have := (List.getElem?_eq_some_iff.1 hv).1
    rwa [plansC_len, h.p] at this
  rw [k.cell, bc_p h hj, ← hv]
theorem Blk.plan (k : Blk w g T (bc b s)) (h : Bo.Shaped b) {i : Nat} (hi : i < 8) : w.rangeAt g (16 + i * 3) (pc (b.p.getD i (0, 0, 0))) := fun j v hv => by
  have hj : j < 3 := (List.getElem?_eq_some_iff.1 hv).1
  rw [k.cell, Nat.add_assoc, bc_p h (by omega), plansC_at _ i j (by rw [h.p]; exact hi) hj, hv]
theorem Blk.notes (k : Blk w g T (bc b s)) (h : Bo.Shaped b) : w.rangeAt g 40 (uc b.u s).toList := fun j v hv => by
  have hj : j < 9 := by
    have := (List.getElem?_eq_some_iff.1 hv).1
    rwa [Array.length_toList, uc_size h.u] at this
  rw [k.cell, bc_n h hj, ← hv, Array.getElem?_toList]
/-- a row in the midst of a block, stored -/
theorem Blk.mid {o : Nat} {cs ds : Array Value} {vs : List Value} (k : Blk w g T cs) (ho : o + vs.length ≤ cs.size) (hd : ds.size = cs.size) (h1 : ∀ j, (j < o ∨ o + vs.length ≤ j) → ds[j]? = cs[j]?) (h2 : ∀ j, j < vs.length → ds[o + j]? = vs[j]?) : Blk (w.setCells g o vs) g T ds := by
  obtain ⟨cs', k1, k2, k3, k4⟩ := setCells_heap w g vs o cs k
  have : cs' = ds := by
    apply Array.ext_getElem?
    intro q
    by_cases hq : q < o ∨ o + vs.length ≤ q
    · rw [k3 q hq, h1 q hq]
    · obtain ⟨j, rfl⟩ : ∃ j, q = o + j := ⟨q - o, by omega⟩
      rw [k4 j (by omega) (by omega), h2 j (by omega)]
  rw [← this]
  exact k1
theorem bc_t_other {t' : List Int} (h : Bo.Shaped b) (ht : t'.length = 16) {j : Nat} (hj : 16 ≤ j) : (bc { b with t := t' } s)[j]? = (bc b s)[j]? := by
  have h' : Bo.Shaped { b with t := t' } := ⟨ht, h.p, h.u⟩
  rcases Nat.lt_or_ge j 40 with d | d
  · obtain ⟨m, rfl⟩ : ∃ m, j = 16 + m := ⟨j - 16, by omega⟩
    rw [bc_p h' (by omega), bc_p h (by omega)]
  · rcases Nat.lt_or_ge j 49 with e | e
    · obtain ⟨m, rfl⟩ : ∃ m, j = 40 + m := ⟨j - 40, by omega⟩
      rw [bc_n h' (by omega), bc_n h (by omega)]
    · rw [Array.getElem?_eq_none (by rw [bc_size h']; exact e), Array.getElem?_eq_none (by rw [bc_size h]; exact e)]
theorem Blk.setT (k : Blk w g T (bc b s)) (h : Bo.Shaped b) {t' : List Int} (ht : t'.length = 16) : Blk (w.setCells g 0 (tc t').toList) g T (bc { b with t := t' } s) := by
  have h' : Bo.Shaped { b with t := t' } := ⟨ht, h.p, h.u⟩
  refine k.mid (by rw [bc_size h, Array.length_toList, tc_size, ht]; omega) (by rw [bc_size h, bc_size h']) (fun j hj => ?_) fun j hj => ?_
  · rw [Array.length_toList, tc_size, ht] at hj
    exact bc_t_other h ht (by omega)
  · rw [Array.length_toList, tc_size, ht] at hj
    rw [Nat.zero_add, bc_t h' hj, Array.getElem?_toList]
theorem Blk.setP (k : Blk w g T (bc b s)) (h : Bo.Shaped b) {i : Nat} (hi : i < 8) (q : La) : Blk (w.setCells g (16 + i * 3) (pc q)) g T (bc { b with p := b.p.set i q } s) := by
  have h' : Bo.Shaped { b with p := b.p.set i q } := ⟨h.t, by rw [List.length_set]; exact h.p, h.u⟩
  have hl : (pc q).length = 3 := rfl
  refine k.mid (by rw [bc_size h, hl]; omega) (by rw [bc_size h, bc_size h']) (fun j hj => ?_) fun j hj => ?_
  · rw [hl] at hj
    rcases Nat.lt_or_ge j 16 with c | c
    · rw [bc_t h' c, bc_t h c]
    · rcases Nat.lt_or_ge j 40 with d | d
      · obtain ⟨m, rfl⟩ : ∃ m, j = 16 + m := ⟨j - 16, by omega⟩
        obtain ⟨x, y, hy, rfl⟩ : ∃ x y, y < 3 ∧ m = x * 3 + y := ⟨m / 3, m % 3, Nat.mod_lt _ (by omega), by omega⟩
        have hx : x < 8 := by omega
        rw [bc_p h' (by omega), bc_p h (by omega), plansC_at _ x y (by rw [List.length_set, h.p]; exact hx) hy, plansC_at _ x y (by rw [h.p]; exact hx) hy]
        rw [List.getD_eq_getElem?_getD, List.getD_eq_getElem?_getD, List.getElem?_set_ne (by omega)]
      · rcases Nat.lt_or_ge j 49 with e | e
        · obtain ⟨m, rfl⟩ : ∃ m, j = 40 + m := ⟨j - 40, by omega⟩
          rw [bc_n h' (by omega), bc_n h (by omega)]
        · rw [Array.getElem?_eq_none (by rw [bc_size h']; exact e), Array.getElem?_eq_none (by rw [bc_size h]; exact e)]
  · rw [hl] at hj
    rw [Nat.add_assoc, bc_p h' (by omega), plansC_at _ i j (by rw [List.length_set, h.p]; exact hi) hj]
    rw [List.getD_eq_getElem?_getD, List.getElem?_set_self (by rw [h.p]; exact hi)]
    rfl
theorem Blk.setN (k : Blk w g T (bc b s)) (h : Bo.Shaped b) {u : List Int} {s' : Value} {l : List Vl} (hu : u.length = 8) : Blk (w.setCells g 40 (uc u s').toList) g T (bc { b with u := u, l := l } s') := by
  have h' : Bo.Shaped { b with u := u, l := l } := ⟨h.t, h.p, hu⟩
  refine k.mid (by rw [bc_size h, Array.length_toList, uc_size hu]; omega) (by rw [bc_size h, bc_size h']) (fun j hj => ?_) fun j hj => ?_
  · rw [Array.length_toList, uc_size hu] at hj
    rcases Nat.lt_or_ge j 16 with c | c
    · rw [bc_t h' c, bc_t h c]
    · rcases Nat.lt_or_ge j 40 with d | d
      · obtain ⟨m, rfl⟩ : ∃ m, j = 16 + m := ⟨j - 16, by omega⟩
        rw [bc_p h' (by omega), bc_p h (by omega)]
      · rw [Array.getElem?_eq_none (by rw [bc_size h']; omega), Array.getElem?_eq_none (by rw [bc_size h]; omega)]
  · rw [Array.length_toList, uc_size hu] at hj
    rw [bc_n h' hj, Array.getElem?_toList]
theorem bc_set48 (h : Bo.Shaped b) (s' : Value) : (bc b s).setIfInBounds 48 s' = bc b s' := by
  apply Array.ext_getElem?
  intro j
  rw [Array.getElem?_setIfInBounds, bc_size h]
  by_cases e : 48 = j
  · subst e
    rw [if_pos rfl, if_pos (by omega), bc_last h]
  · rw [if_neg e]
    rcases Nat.lt_or_ge j 48 with c | c
    · rcases Nat.lt_or_ge j 16 with d | d
      · rw [bc_t h d, bc_t h d]
      · rcases Nat.lt_or_ge j 40 with f | f
        · obtain ⟨m, rfl⟩ : ∃ m, j = 16 + m := ⟨j - 16, by omega⟩
          rw [bc_p h (by omega), bc_p h (by omega)]
        · obtain ⟨m, rfl⟩ : ∃ m, j = 40 + m := ⟨j - 40, by omega⟩
          rw [bc_n h (by omega), bc_n h (by omega)]
          unfold uc
          rw [List.getElem?_toArray, List.getElem?_toArray, List.getElem?_append_left (by rw [List.length_map, h.u]; omega), List.getElem?_append_left (by rw [List.length_map, h.u]; omega)]
    · rw [Array.getElem?_eq_none (by rw [bc_size h]; omega), Array.getElem?_eq_none (by rw [bc_size h]; omega)]
end
theorem rowBo : RowT Try.prog 83 49 := ⟨_, Try.underlying83, rfl, by kernel_rfl⟩
theorem rowRBo : RowT Try.prog 76 49 := ⟨_, Try.underlying76, rfl, by kernel_rfl⟩
theorem rowPl : RowT Try.prog 81 24 := ⟨_, Try.underlying81, rfl, by kernel_rfl⟩
theorem rowRPl : RowT Try.prog 74 24 := ⟨_, Try.underlying74, rfl, by kernel_rfl⟩
theorem rowRT : RowT Try.prog 73 16 := ⟨_, Try.underlying73, rfl, by kernel_rfl⟩
theorem zbo : bc Bo.zero (.slice none 0 0) = #[.int .i64 0, .int .i64 0, .int .i64 0, .int .i64 0, .int .i64 0, .int .i64 0, .int .i64 0, .int .i64 0, .int .i64 0, .int .i64 0, .int .i64 0, .int .i64 0, .int .i64 0, .int .i64 0, .int .i64 0, .int .i64 0, .int .i64 0, .int .i64 0, .int .i64 0, .int .i64 0, .int .i64 0, .int .i64 0, .int .i64 0, .int .i64 0, .int .i64 0, .int .i64 0, .int .i64 0, .int .i64 0, .int .i64 0, .int .i64 0, .int .i64 0, .int .i64 0, .int .i64 0, .int .i64 0, .int .i64 0, .int .i64 0, .int .i64 0, .int .i64 0, .int .i64 0, .int .i64 0, .int .i64 0, .int .i64 0, .int .i64 0, .int .i64 0, .int .i64 0, .int .i64 0, .int .i64 0, .int .i64 0, .slice none 0 0] := by kernel_rfl
/-- a value that holds a board, its notes below B -/
def HoldBo (B : Nat) (b : Bd) (q : Value) (w : World) : Prop := ∃ A m c, q = .agg (bc b (.slice A m c)) ∧ RdV w B A m b.l ∧ m ≤ 100000
def FrBo (b : Bd) (q : Value) (w : World) : Prop := HoldBo w.heap.size b q w
/-- .. in memory of the call's own -/
def FoBo (T : TypeId) (b : Bd) (q : Value) (w : World) : Prop := ∃ A m c, q = .agg (bc b (.slice A m c)) ∧ OwnV T w 0 A m c b.l ∧ m ≤ 100000
section
variable {B B' : Nat} {b : Bd} {q : Value} {w w' : World} {T : TypeId}
theorem HoldBo.below (h : HoldBo B b q w) (hb : Below B w w') : HoldBo B b q w' := by
  obtain ⟨A, m, c, h1, h2, h3⟩ := h
  exact ⟨A, m, c, h1, h2.below hb, h3⟩
theorem HoldBo.fresh (h : HoldBo B b q w) : FrBo b q w := by
  obtain ⟨A, m, c, h1, h2, h3⟩ := h
  exact ⟨A, m, c, h1, h2.size, h3⟩
theorem FrBo.below (h : FrBo b q w) (hb : Below w.heap.size w w') : FrBo b q w' := (HoldBo.below h hb).fresh
theorem FrBo.len (h : FrBo b q w) : b.l.length ≤ 100000 := by
  obtain ⟨A, m, c, _, h2, h3⟩ := h
  rw [← h2.1]; exact h3
theorem FrBo.agg (h : FrBo b q w) : ∃ cs, q = .agg cs := by
  obtain ⟨A, m, c, h1, _⟩ := h
  exact ⟨_, h1⟩
theorem FrBo.size {cs : Array Value} (h : FrBo b (.agg cs) w) (hs : Bo.Shaped b) : cs.size = 49 := by
  obtain ⟨A, m, c, h1, _⟩ := h
  injection h1 with h1
  rw [h1, bc_size hs]
theorem FrBo.one {cs : Array Value} (h : FrBo b (.agg cs) w) : cs.all (·.oneCell') = true := by
  obtain ⟨A, m, c, h1, _⟩ := h
  injection h1 with h1
  rw [h1]
  exact bc_one rfl
theorem FoBo.fresh (h : FoBo T b q w) : FrBo b q w := by
  obtain ⟨A, m, c, h1, h2, h3⟩ := h
  exact ⟨A, m, c, h1, h2.rd, h3⟩
theorem FoBo.below (h : FoBo T b q w) (hb : Below w.heap.size w w') : FoBo T b q w' := by
  obtain ⟨A, m, c, h1, h2, h3⟩ := h
  exact ⟨A, m, c, h1, h2.below hb (Nat.le_refl _), h3⟩
theorem FoBo.grown {t : TypeId} {g : Nat} {cs : Array Value} (h : FoBo T b q w) (hg : w.grownBy w' (some g)) (k : Blk w g t cs) (hne : t ≠ T) : FoBo T b q w' := by
  obtain ⟨A, m, c, h1, h2, h3⟩ := h
  exact ⟨A, m, c, h1, h2.grown hg (.inr (own_ne h2.2 k hne)), h3⟩
/-- the end of a call that gives a board; with an error's number -/
def GiveBd (T : TypeId) (w : World) (b : Bd) (e : Ending) (w' : World) : Prop := ∃ q, e = .returned q ∧ FoBo T b q w' ∧ Below w.heap.size w w'
def GiveBdE (T : TypeId) (w : World) (b : Bd) (k : Int) (e : Ending) (w' : World) : Prop := ∃ q, e = .returned (.tuple #[q, .int .i64 k]) ∧ FoBo T b q w' ∧ Below w.heap.size w w'
/-- .. in memory of the call's own, at B or behind -/
def FoBoB (T : TypeId) (B : Nat) (b : Bd) (q : Value) (w : World) : Prop := ∃ A m c, q = .agg (bc b (.slice A m c)) ∧ OwnV T w B A m c b.l ∧ m ≤ 100000
theorem FoBoB.fo (h : FoBoB T B b q w) : FoBo T b q w := by
  obtain ⟨A, m, c, h1, h2, h3⟩ := h
  exact ⟨A, m, c, h1, h2.mono (Nat.zero_le _), h3⟩
def GiveBdB (T : TypeId) (w : World) (b : Bd) (e : Ending) (w' : World) : Prop := ∃ q, e = .returned q ∧ FoBoB T w.heap.size b q w' ∧ Below w.heap.size w w'
def GiveBdEB (T : TypeId) (w : World) (b : Bd) (k : Int) (e : Ending) (w' : World) : Prop := ∃ q, e = .returned (.tuple #[q, .int .i64 k]) ∧ FoBoB T w.heap.size b q w' ∧ Below w.heap.size w w'
end
theorem GiveBdB.give {T : TypeId} {w w' : World} {b : Bd} {e : Ending} (h : GiveBdB T w b e w') : GiveBd T w b e w' := by
  obtain ⟨q, h1, h2, h3⟩ := h
  exact ⟨q, h1, h2.fo, h3⟩
theorem GiveBdEB.give {T : TypeId} {w w' : World} {b : Bd} {k : Int} {e : Ending} (h : GiveBdEB T w b k e w') : GiveBdE T w b k e w' := by
  obtain ⟨q, h1, h2, h3⟩ := h
  exact ⟨q, h1, h2.fo, h3⟩
end Go.Proofs.Ytocoohpekpkmkaa

/- The walks of board's small functions, and of Right. -/
namespace Go.Proofs.Ytocoohpekpkmkaa
set_option linter.unusedVariables false
set_option linter.unusedSimpArgs false
open Go.RowKit
open Reg (La Vl)
theorem within30_any (n lo hi : Int) (w : World) : Calls Try.prog 79 #[.int .i64 n, .int .i64 lo, .int .i64 hi] w fun e w' => e = .returned (.bool (if hi < n then hi == n else if n < lo then lo == n else true)) ∧ w = w' := by
  have hs := satw29_any n lo hi w
  obtain ⟨R, hR⟩ : ∃ R, R = (if hi < n then hi == n else if n < lo then lo == n else true) := ⟨_, rfl⟩
  rw [← hR]
  have hz : ((if hi < n then hi else if n < lo then lo else n) == n) = (if hi < n then hi == n else if n < lo then lo == n else true) := by
    split
    · rfl
    · split
      · rfl
      · simp
  rw [← hz] at hR
  clear hz
  generalize (if hi < n then hi else if n < lo then lo else n) = z at hs hR
  have HR := Lib.hid hR
  clear hR
  go_enter Try.func79, Try.ntmps79
  go_wp2_with fail
  refine hs.mono ?_
  rintro e w1 ⟨rfl, rfl⟩
  go_wp2_with fail
  go_ret
  rw [HR.out]
  exact ⟨rfl, rfl⟩
theorem within_in (n lo hi : Int) (h : lo ≤ hi) : (if hi < n then hi == n else if n < lo then lo == n else true) = Reg.inB n lo hi := by
  rw [Bool.eq_iff_iff, Reg.inB_iff]
  by_cases h1 : hi < n
  · rw [if_pos h1, beq_iff_eq]; omega
  · rw [if_neg h1]
    by_cases h2 : n < lo
    · rw [if_pos h2, beq_iff_eq]; omega
    · rw [if_neg h2]
      constructor
      · intro _; omega
      · intro _; rfl
theorem withinB_any (n lo hi : Int) (w : World) (h : lo ≤ hi) {b : Bool} (hb : Reg.inB n lo hi = b) : Calls Try.prog 79 #[.int .i64 n, .int .i64 lo, .int .i64 hi] w fun e w' => e = .returned (.bool b) ∧ w = w' := by
  have := within30_any n lo hi w
  rwa [within_in n lo hi h, hb] at this
theorem nodeB_any (n : Int) (w : World) {b : Bool} (hb : Reg.inB n 0 7 = b) : Calls Try.prog 78 #[.int .i64 n] w fun e w' => e = .returned (.bool b) ∧ w = w' := by
  go_enter Try.func78, Try.ntmps78
  go_wp2_with fail
  refine (withinB_any n 0 7 w (by omega) hb).mono ?_
  rintro e w1 ⟨rfl, rfl⟩
  go_wp2_with fail
  go_ret
  exact ⟨rfl, rfl⟩
set_option maxRecDepth 100000 in
set_option maxHeartbeats 2000000 in
theorem planned_any (q : La) (w : World) : Calls Try.prog 89 #[v3 q] w fun e w' => e = .returned (.bool (Bo.planB q)) ∧ Below w.heap.size w w' := by
  obtain ⟨x, y, z⟩ := q
  obtain ⟨R, hR⟩ : ∃ R, R = Bo.planB (x, y, z) := ⟨_, rfl⟩
  rw [← hR]
  have HR := Lib.hid hR
  unfold v3
  simp only
  by_cases hz : x = 0 ∧ y = 0 ∧ z = 0
  · obtain ⟨rfl, rfl, rfl⟩ := hz
    have hr : R = true := hR
    clear hR HR
    subst hr
    go_enter Try.func89, Try.ntmps89
    go_wp2_with fail
    go_ret
    exact ⟨rfl, (Below.refl _ _).alloc (Nat.le_refl _) _⟩
  obtain ⟨b1, hb1⟩ : ∃ b1, Reg.inB x 1 1099511627776 = b1 := ⟨_, rfl⟩
  obtain ⟨b2, hb2⟩ : ∃ b2, Reg.inB y 0 7 = b2 := ⟨_, rfl⟩
  obtain ⟨b3, hb3⟩ : ∃ b3, Reg.inB z 0 1000 = b3 := ⟨_, rfl⟩
  have hr : R = (b1 && b2 && b3) := by
    rw [hR]
    unfold Bo.planB
    rw [hb1, hb2, hb3, decide_eq_false (fun h => hz (by injection h with h1 h2; injection h2 with h2 h3; exact ⟨h1, h2, h3⟩)), Bool.false_or]
  have H1 := Lib.hid fun w => withinB_any x 1 1099511627776 w (by omega) hb1
  have H2 := Lib.hid fun w => nodeB_any y w hb2
  have H3 := Lib.hid fun w => withinB_any z 0 1000 w (by omega) hb3
  clear hR hb1 hb2 hb3
  have hcase : ¬ x = 0 ∨ (x = 0 ∧ ¬ y = 0) ∨ (x = 0 ∧ y = 0 ∧ ¬ z = 0) := by
    by_cases e1 : x = 0
    · by_cases e2 : y = 0
      · exact Or.inr (Or.inr ⟨e1, e2, fun e3 => hz ⟨e1, e2, e3⟩⟩)
      · exact Or.inr (Or.inl ⟨e1, e2⟩)
    · exact Or.inl e1
  clear hz
  rcases hcase with hx | ⟨rfl, hx⟩ | ⟨rfl, rfl, hx⟩
  all_goals
    cases b1
    case false =>
      have hr2 : R = false := hr
      clear hr
      subst hr2
      go_enter Try.func89, Try.ntmps89
      go_wp2_with fail
      refine (H1.out _).mono ?_
      rintro e w1 ⟨rfl, rfl⟩
      go_wp2_with fail
      go_ret
      exact ⟨rfl, (Below.refl _ _).alloc (Nat.le_refl _) _⟩
    case true =>
      cases b2
      case false =>
        have hr2 : R = false := hr
        clear hr
        subst hr2
        go_enter Try.func89, Try.ntmps89
        go_wp2_with fail
        refine (H1.out _).mono ?_
        rintro e w1 ⟨rfl, rfl⟩
        go_wp2_with fail
        refine (H2.out _).mono ?_
        rintro e w1 ⟨rfl, rfl⟩
        go_wp2_with fail
        go_ret
        exact ⟨rfl, (Below.refl _ _).alloc (Nat.le_refl _) _⟩
      case true =>
        have hr2 : R = b3 := by rw [hr]; simp
        clear hr
        subst hr2
        go_enter Try.func89, Try.ntmps89
        go_wp2_with fail
        refine (H1.out _).mono ?_
        rintro e w1 ⟨rfl, rfl⟩
        go_wp2_with fail
        refine (H2.out _).mono ?_
        rintro e w1 ⟨rfl, rfl⟩
        go_wp2_with fail
        refine (H3.out _).mono ?_
        rintro e w1 ⟨rfl, rfl⟩
        go_wp2_with fail
        go_ret
        exact ⟨rfl, (Below.refl _ _).alloc (Nat.le_refl _) _⟩
theorem unplanned_any (q : La) (w : World) : Calls Try.prog 88 #[v3 q] w fun e w' => e = .returned (.bool (!Bo.planB q)) ∧ Below w.heap.size w w' := by
  have hp := fun w => planned_any q w
  generalize Bo.planB q = R at *
  obtain ⟨x, y, z⟩ := q
  unfold v3 at *
  simp only at *
  have HP := Lib.hid hp
  clear hp
  go_enter Try.func88, Try.ntmps88
  go_wp2_with fail
  refine (HP.out _).mono ?_
  rintro e w1 ⟨rfl, b1⟩
  have gb := ((Below.refl w.heap.size w).alloc (Nat.le_refl _) _).trans (b1.mono (by simp))
  clear b1
  go_wp2_with fail
  go_ret
  exact ⟨rfl, gb⟩
theorem negval_any (v : Vl) (w : World) : Calls Try.prog 91 #[v3 v] w fun e w' => e = .returned (.bool (decide (v.2.2 < 0))) ∧ Below w.heap.size w w' := by
  obtain ⟨x, y, z⟩ := v
  unfold v3
  simp only
  go_enter Try.func91, Try.ntmps91
  go_wp2_with fail
  go_ret
  exact ⟨rfl, (Below.refl _ _).alloc (Nat.le_refl _) _⟩
theorem all_of {α : Type} {l : List α} {p : α → Bool} (h : ∀ (j : Nat) (x : α), l[j]? = some x → p x = true) : l.all p = true := by
  rw [List.all_eq_true]
  intro x hx
  obtain ⟨j, hj⟩ := List.mem_iff_getElem?.1 hx
  exact h j x hj
theorem all_bad {α : Type} {l : List α} {p : α → Bool} {j : Nat} {x : α} (h : l[j]? = some x) (hp : p x = false) : l.all p = false := by
  rw [← Bool.not_eq_true, List.all_eq_true]
  intro h2
  have := h2 x (List.mem_of_getElem? h)
  rw [hp] at this
  cases this
set_option maxRecDepth 100000 in
set_option maxHeartbeats 2000000 in
/-- slices.ContainsFunc over a board's plans -/
theorem anyPlan_any (g : Nat) (p : List La) (hp : p.length = 8) (w : World) (hr : w.rangeAt g 16 (plansC p)) (hg : g < w.heap.size) :
    Calls Try.prog 87 #[.slice (some ⟨g, 16, none⟩) 8 8, .func (.func 88) #[] #[]] w fun e w' => e = .returned (.bool (!p.all Bo.planB)) ∧ Below w.heap.size w w' := by
  have hix : Calls Try.prog 113 #[.slice (some ⟨g, 16, none⟩) 8 8, .func (.func 88) #[] #[]] w fun e w' => (∃ z : Int, e = .returned (.int .i64 z) ∧ decide (0 ≤ z) = !p.all Bo.planB) ∧ Below w.heap.size w w' := by
    obtain ⟨R, hR⟩ : ∃ R, R = p.all Bo.planB := ⟨_, rfl⟩
    rw [← hR]
    have HR := Lib.hid hR
    have HP := Lib.hid hp
    have HRG := Lib.hid hr
    clear hR hp hr
    go_enter Try.func113, Try.ntmps113
    go_wp2_with fail
    go_loopw [8] (fun i wr => ∃ k : Nat, k ≤ 8 ∧ i = .int .i64 k ∧ (∀ j x, j < k → p[j]? = some x → Bo.planB x = true) ∧ Below w.heap.size w wr) (fun i _ => 8 - (intOf i).toNat)
    case atStart => exact ⟨0, by omega, rfl, fun j x hj => by omega, Below.refl _ _⟩
    case round =>
      obtain ⟨k, hk, rfl, hall, gb⟩ := hrel
      have HA := Lib.hid hall
      clear hall
      by_cases hlt : k < 8
      · have hk0 : (0 : Int) ≤ (k : Int) := by omega
        have hk8 : (k : Int) < 8 := by omega
        have hpk : p[k]? = some (p.getD k (0, 0, 0)) := by rw [List.getD_eq_getElem?_getD, List.getElem?_eq_getElem (by rw [HP.out]; exact hlt)]; rfl
        have hc := fun w => unplanned_any (p.getD k (0, 0, 0)) w
        have hrg : wr.rangeAt g (16 + k * 3) (pc (p.getD k (0, 0, 0))) := fun j v hv => by
          have hj : j < 3 := (List.getElem?_eq_some_iff.1 hv).1
          have h1 := HRG.out (k * 3 + j) v (by rw [plansC_at _ k j (by rw [HP.out]; exact hlt) hj]; exact hv)
          rw [Nat.add_assoc]
          exact (gb.cell (p := ⟨g, 16 + (k * 3 + j), none⟩) hg).trans h1
        generalize p.getD k (0, 0, 0) = d at *
        obtain ⟨x, y, z⟩ := d
        have c0 : wr.cell? ⟨g, 16 + k * 3, none⟩ = some (.int .i64 x) := hrg 0 _ rfl
        have c1 : wr.cell? ⟨g, 16 + k * 3 + 1, none⟩ = some (.int .i64 y) := hrg 1 _ rfl
        have c2 : wr.cell? ⟨g, 16 + k * 3 + 2, none⟩ = some (.int .i64 z) := hrg 2 _ rfl
        have HPK := Lib.hid hpk
        unfold v3 at hc
        simp only at hc
        obtain ⟨bq, hbq⟩ : ∃ bq, bq = Bo.planB (x, y, z) := ⟨_, rfl⟩
        rw [← hbq] at hc
        have HBQ := Lib.hid hbq
        have HC := Lib.hid hc
        clear hrg hpk hc hbq
        go_wp2_with fail
        refine (HC.out _).mono ?_
        rintro e w1 ⟨rfl, b1⟩
        have gb1 := gb.trans (b1.mono gb.size)
        clear b1 c0 c1 c2 gb
        cases bq
        · have hr : R = false := by rw [HR.out]; exact all_bad HPK.out HBQ.out.symm
          subst hr
          go_wp2_with fail
          go_ret
          exact ⟨⟨_, rfl, by simp⟩, gb1⟩
        · go_wp2_with fail
          go_roundw
          case rel => exact ⟨k + 1, by omega, by go_num, fun j x hj hx => by
            by_cases e : j = k
            · subst e; rw [HPK.out] at hx; injection hx with hx; subst hx; exact HBQ.out.symm
            · exact HA.out j x (by omega) hx, gb1⟩
          case measure => simp [intOf]; omega
      · obtain rfl : k = 8 := by omega
        have hr : R = true := by
          rw [HR.out]
          refine all_of fun j x hx => HA.out j x ?_ hx
          have := (List.getElem?_eq_some_iff.1 hx).1
          rw [HP.out] at this
          exact this
        subst hr
        go_wp2_with fail
        go_ret
        exact ⟨⟨_, rfl, by simp⟩, gb⟩
  have HIX := Lib.hid hix
  clear hix hr hp hg
  generalize p.all Bo.planB = R at *
  go_enter Try.func87, Try.ntmps87
  go_wp2_with fail
  refine HIX.out.mono ?_
  rintro e w1 ⟨⟨z, rfl, hz⟩, b1⟩
  have HZ := Lib.hid hz
  clear hz
  go_wp2_with fail
  go_ret
  exact ⟨by show Ending.returned (.bool (decide (0 ≤ z))) = _; rw [HZ.out], b1⟩
set_option maxRecDepth 100000 in
set_option maxHeartbeats 2000000 in
/-- slices.ContainsFunc over a board's notes -/
theorem anyVal_any (A : Option Addr) (n c B : Nat) (l : List Vl) (w : World) (hl : RdV w B A n l) (hB : B ≤ w.heap.size) (hn : n ≤ 100000) :
    Calls Try.prog 90 #[.slice A n c, .func (.func 91) #[] #[]] w fun e w' => e = .returned (.bool (!l.all fun v => decide (0 ≤ v.2.2))) ∧ Below w.heap.size w w' := by
  have hix : Calls Try.prog 114 #[.slice A n c, .func (.func 91) #[] #[]] w fun e w' => (∃ z : Int, e = .returned (.int .i64 z) ∧ decide (0 ≤ z) = !l.all fun v => decide (0 ≤ v.2.2)) ∧ Below w.heap.size w w' := by
    obtain ⟨R, hR⟩ : ∃ R, R = l.all fun v => decide (0 ≤ v.2.2) := ⟨_, rfl⟩
    rw [← hR]
    have HR := Lib.hid hR
    have HN := Lib.hid hl.1
    have HRK := Lib.hid fun (w' : World) (hb : Below w.heap.size w w') => hl.below (hb.mono hB)
    clear hR hl
    go_enter Try.func114, Try.ntmps114
    go_wp2_with fail
    go_loopw [8] (fun i wr => ∃ k : Nat, k ≤ n ∧ i = .int .i64 k ∧ (∀ j x, j < k → l[j]? = some x → decide (0 ≤ x.2.2) = true) ∧ Below w.heap.size w wr) (fun i _ => n - (intOf i).toNat)
    case atStart => exact ⟨0, by omega, rfl, fun j x hj => by omega, Below.refl _ _⟩
    case round =>
      obtain ⟨k, hk, rfl, hall, gb⟩ := hrel
      have HA := Lib.hid hall
      clear hall
      by_cases hlt : k < n
      · have hkl : k < l.length := by rw [← HN.out]; exact hlt
        obtain ⟨ad, hA, q5, q0, q1, q2⟩ := (HRK.out wr gb).2 k _ (List.getElem?_eq_getElem hkl)
        have hpk : l[k]? = some l[k] := List.getElem?_eq_getElem hkl
        have hc := fun w => negval_any l[k] w
        have hk0 : (0 : Int) ≤ (k : Int) := by omega
        have hkn : (k : Int) < (n : Int) := by omega
        generalize l[k] = d at *
        obtain ⟨x, y, z⟩ := d
        simp only at q0 q1 q2
        subst hA
        have HPK := Lib.hid hpk
        unfold v3 at hc
        simp only at hc
        obtain ⟨bq, hbq⟩ : ∃ bq, bq = decide (z < 0) := ⟨_, rfl⟩
        rw [← hbq] at hc
        have HBQ := Lib.hid hbq
        have HC := Lib.hid hc
        clear hpk hc hbq
        go_wp2_with fail
        refine (HC.out _).mono ?_
        rintro e w1 ⟨rfl, b1⟩
        have gb1 := gb.trans (b1.mono gb.size)
        clear b1 q0 q1 q2 gb
        cases bq
        · go_wp2_with fail
          go_roundw
          case rel => exact ⟨k + 1, by omega, by go_num, fun j x hj hx => by
            by_cases e : j = k
            · subst e; rw [HPK.out] at hx; injection hx with hx; subst hx; have := of_decide_eq_false HBQ.out.symm; exact decide_eq_true (by show 0 ≤ z; omega)
            · exact HA.out j x (by omega) hx, gb1⟩
          case measure => simp [intOf]; omega
        · have hr : R = false := by rw [HR.out]; exact all_bad HPK.out (decide_eq_false (by have := of_decide_eq_true HBQ.out.symm; show ¬ 0 ≤ z; omega))
          subst hr
          go_wp2_with fail
          go_ret
          exact ⟨⟨_, rfl, by simp⟩, gb1⟩
      · obtain rfl : k = n := by omega
        have hr : R = true := by
          rw [HR.out]
          refine all_of fun j x hx => HA.out j x ?_ hx
          have := (List.getElem?_eq_some_iff.1 hx).1
          rw [← HN.out] at this
          exact this
        subst hr
        go_wp2_with fail
        go_ret
        exact ⟨⟨_, rfl, by simp⟩, gb⟩
  have HIX := Lib.hid hix
  clear hix hl hB hn
  generalize (l.all fun v => decide (0 ≤ v.2.2)) = R at *
  go_enter Try.func90, Try.ntmps90
  go_wp2_with fail
  refine HIX.out.mono ?_
  rintro e w1 ⟨⟨z, rfl, hz⟩, b1⟩
  have HZ := Lib.hid hz
  clear hz
  go_wp2_with fail
  go_ret
  exact ⟨by show Ending.returned (.bool (decide (0 ≤ z))) = _; rw [HZ.out], b1⟩
end Go.Proofs.Ytocoohpekpkmkaa

/- The walks of board's Right and own. -/
namespace Go.Proofs.Ytocoohpekpkmkaa
set_option linter.unusedVariables false
set_option linter.unusedSimpArgs false
open Go.RowKit
open Reg (La Vl)
set_option maxRecDepth 100000 in
set_option maxHeartbeats 2000000 in
theorem boRight_any (b : Bd) (hs : Bo.Shaped b) (q : Value) (w : World) (hq : FrBo b q w) : Calls Try.prog 43 #[q] w (GiveBo w (Bo.rightB b)) := by
  obtain ⟨A, m, c, rfl, hr, hm⟩ := hq
  obtain ⟨R, hR⟩ : ∃ R, R = Bo.rightB b := ⟨_, rfl⟩
  obtain ⟨r1, hr1⟩ : ∃ r1, r1 = b.p.all Bo.planB := ⟨_, rfl⟩
  obtain ⟨r2, hr2⟩ : ∃ r2, r2 = b.l.all fun v => decide (0 ≤ v.2.2) := ⟨_, rfl⟩
  obtain ⟨r3, hr3⟩ : ∃ r3, r3 = Tally.rightB b.t := ⟨_, rfl⟩
  obtain ⟨r4, hr4⟩ : ∃ r4, r4 = Reg.rightM b.u b.l := ⟨_, rfl⟩
  have hRR : R = (r1 && r2 && r3 && r4) := by rw [hR, hr1, hr2, hr3, hr4]; rfl
  unfold GiveBo
  rw [← hR]
  have HRR := Lib.hid hRR
  have HS := Lib.hid hs
  have h49 := Lib.hid (bc_size (s := .slice A m c) hs)
  have HC1 := Lib.hid fun (g : Nat) (w' : World) (hw : w'.rangeAt g 16 (plansC b.p)) (hg : g < w'.heap.size) => (hr1 ▸ anyPlan_any g b.p hs.p w' hw hg : Calls Try.prog _ _ w' fun e w'' => e = .returned (.bool (!r1)) ∧ Below w'.heap.size w' w'')
  have HC2 := Lib.hid fun (w' : World) (hb : Below w.heap.size w w') => (hr2 ▸ anyVal_any A m c w.heap.size b.l w' (hr.below hb) hb.size hm : Calls Try.prog _ _ w' fun e w'' => e = .returned (.bool (!r2)) ∧ Below w'.heap.size w' w'')
  have HC3 := Lib.hid fun (w' : World) => (hr3 ▸ right_any b.t w' hs.t : Calls Try.prog _ _ w' fun e w'' => e = .returned (.bool r3) ∧ Below w'.heap.size w' w'')
  have HC4 := Lib.hid fun (w' : World) (hb : Below w.heap.size w w') => (hr4 ▸ right29_any b.u hs.u A m c b.l w' ((hr.below hb).size) hm : Calls Try.prog _ _ w' fun e w'' => e = .returned (.bool r4) ∧ Below w'.heap.size w' w'')
  have HT := Lib.hid (show (tc b.t).size = 16 by rw [tc_size, hs.t])
  have HU := Lib.hid (uc_size hs.u (.slice A m c))
  clear hR hr1 hr2 hr3 hr4 hRR hr hm hs
  go_enter Try.func43, Try.ntmps43
  go_upto_region 1 with fail
  refine nameW ?_
  intro wv hwv
  obtain ⟨g, hg⟩ : ∃ g, g = w.heap.size := ⟨_, rfl⟩
  have k0 : Blk wv g 83 (bc b (.slice A m c)) := by rw [hwv, hg]; exact Blk.new w _ _
  have gb : Below w.heap.size w wv := by rw [hwv]; exact (Below.refl _ _).alloc (Nat.le_refl _) _
  rw [← hg]
  clear hwv hg
  go_wp2_with fail
  refine (HC1.out g wv (k0.plans HS.out) k0.lt).mono ?_
  rintro e w1 ⟨rfl, b1⟩
  have k0 := k0.below b1 k0.lt
  have gb := gb.trans (b1.mono gb.size)
  clear b1
  cases r1
  case false =>
    have hr2 : R = false := by rw [HRR.out]; rfl
    subst hr2
    go_wp2_with fail
    go_ret
    exact ⟨rfl, gb⟩
  case true =>
  have t48 : w1.cell? ⟨g, 48, none⟩ = some (.slice A m c) := (k0.cell 48).trans (bc_last HS.out)
  go_wp2_with fail
  have HW1 := gb.size
  refine (HC2.out w1 gb).mono ?_
  rintro e w2 ⟨rfl, b1⟩
  have k0 := k0.below b1 k0.lt
  have gb := gb.trans (b1.mono gb.size)
  clear b1 t48
  cases r2
  case false =>
    have hr2 : R = false := by rw [HRR.out]; rfl
    subst hr2
    go_wp2_with fail
    go_ret
    exact ⟨rfl, gb⟩
  case true =>
  go_wp2_with ((with_reducible refine wpList_ldr rowT (k0.tal HS.out) HT.out ?_ ?_); rotate_left; (rfl))
  refine (HC3.out w2).mono ?_
  rintro e w3 ⟨rfl, b1⟩
  have k0 := k0.below b1 k0.lt
  have gb := gb.trans (b1.mono gb.size)
  clear b1
  cases r3
  case false =>
    have hr2 : R = false := by rw [HRR.out]; rfl
    subst hr2
    go_wp2_with fail
    go_ret
    exact ⟨rfl, gb⟩
  case true =>
  go_wp2_with ((with_reducible refine wpList_ldrg rowM (k0.notes HS.out) HU.out ?_ ?_ ?_); rotate_left; (rfl); (rfl))
  refine (HC4.out w3 gb).mono ?_
  rintro e w4 ⟨rfl, b1⟩
  have gb := gb.trans (b1.mono gb.size)
  clear b1 k0
  have hr2 : R = r4 := by rw [HRR.out]; simp
  clear HC4
  subst hr2
  go_wp2_with fail
  go_ret
  exact ⟨rfl, gb⟩
theorem own_empV {w : World} {g base : Nat} (h : Blk w g 49 #[]) (hb : base ≤ g) : OwnV 49 w base (some ⟨g, 0, none⟩) 0 0 [] :=
  ⟨rfl, rfl, .inr ⟨g, 0, #[], rfl, hb, h, Nat.le_refl _, Nat.zero_le _, rfl, rfl⟩⟩
set_option maxRecDepth 100000 in
theorem cloneV_any (A : Option Addr) (n c : Nat) (l : List Vl) (w : World) (hr : RdV w w.heap.size A n l) (hn : n ≤ 100000) :
    Calls Try.prog 111 #[.slice A n c] w fun e w' => ∃ A' c', e = .returned (.slice A' n c') ∧ OwnV 49 w' w.heap.size A' n c' l ∧ Below w.heap.size w w' := by
  have qn := fun (w : World) (a : Option Addr) (n c n' c' : Nat) => Lib.run_eql_slice_nil (P := Try.prog) w 29 _ a n c n' c' Try.underlying29
  rcases A with _ | a
  · have h0 : l = [] := by
      rcases l with _ | ⟨x, r⟩
      · rfl
      · obtain ⟨_, h, _⟩ := hr.2 0 _ rfl
        cases h
    subst h0
    obtain rfl := hr.1
    go_enter Try.func111, Try.ntmps111
    go_wp2_with fail
    go_ret
    exact ⟨_, _, rfl, OwnV.nil _ _ _, Below.refl _ _⟩
  · have hle : 0 + n ≤ 1000000000000 := by omega
    have hlen : n = l.length := hr.1
    have HR := Lib.hid (hr.rd.alloc (Nat.le_refl _) (.cells #[] 49))
    have HLN := Lib.hid hlen
    clear hr hlen
    go_enter Try.func111, Try.ntmps111
    go_wp2_with (at_builtin; refine wpList_appV rfl (.tmp 5) (.tmp 6) rfl rfl (own_empV (base := w.heap.size) (Blk.new w _ _) (Nat.le_refl _)) (news := l) rfl HR.out HLN.out hle (le_alloc (Nat.le_refl _) _) ?_)
    intro A' c' w2 o2 g2 m2 b2
    have bw := ((Below.refl w.heap.size w).alloc (Nat.le_refl _) (.cells #[] 49)).trans b2
    clear g2 m2 b2
    go_wp2_with fail
    go_ret
    exact ⟨A', c', rfl, by simpa using o2, bw⟩
set_option maxRecDepth 100000 in
set_option maxHeartbeats 2000000 in
theorem boOwn_anyB (b : Bd) (hs : Bo.Shaped b) (q : Value) (w : World) (hq : FrBo b q w) : Calls Try.prog 80 #[q] w (GiveBdB 49 w (Bo.own b)) := by
  obtain ⟨A, m, c, rfl, hr, hm⟩ := hq
  obtain ⟨R, hR⟩ : ∃ R, R = Bo.rightB b := ⟨_, rfl⟩
  unfold GiveBdB
  have hown : Bo.own b = if R then b else Bo.zero := by rw [hR]; rfl
  rw [hown]
  clear hown
  have HC1 := Lib.hid fun (w' : World) (hb : Below w.heap.size w w') => (hR ▸ boRight_any b hs (.agg (bc b (.slice A m c))) w' ⟨A, m, c, rfl, (hr.below hb).size, hm⟩ : Calls Try.prog _ _ w' (GiveBo w' R))
  have HC2 := Lib.hid fun (w' : World) (hb : Below w.heap.size w w') => cloneV_any A m c b.l w' (hr.below hb).size hm
  have HS := Lib.hid hs
  have h49 := Lib.hid (bc_size (s := .slice A m c) hs)
  have HM := Lib.hid hm
  have HL := Lib.hid hr.1
  have z49 := Lib.hid (bc_size (s := .slice none 0 0) Bo.zero_shaped)
  have o49 := Lib.hid (bc_one (b := Bo.zero) (s := .slice none 0 0) rfl)
  have HBD := Lib.hid fun (w : World) => (show (Instr.build 83 #[]).run Try.prog w = .ok (.agg (bc Bo.zero (.slice none 0 0))) w by kernel_rfl)
  clear hR hr hm hs
  go_enter Try.func80, Try.ntmps80
  go_upto_region 1 with fail
  refine nameW ?_
  intro wv hwv
  obtain ⟨g, hg⟩ : ∃ g, g = w.heap.size := ⟨_, rfl⟩
  rw [← hg]
  have k0 : Blk wv g 83 (bc b (.slice A m c)) := by rw [hwv, hg]; exact (Blk.new w _ _).alloc _
  have kz : Blk wv (g + 1) 83 (bc Bo.zero (.slice none 0 0)) := by
    have h := Blk.new (w.alloc (.cells (bc b (.slice A m c)) 83)) 83 (bc Bo.zero (.slice none 0 0))
    rw [zbo] at h ⊢
    rw [hwv, hg]
    simpa using h
  have gb : Below w.heap.size w wv := by rw [hwv]; exact ((Below.refl _ _).alloc (Nat.le_refl _) _).alloc (by simp) _
  have hgw : w.heap.size ≤ g := by omega
  clear hwv hg
  go_wp2_with ((with_reducible refine wpList_ld rowBo k0 h49.out ?_ ?_); rotate_left; (rfl))
  refine (HC1.out wv gb).mono ?_
  rintro e w1 ⟨rfl, b1⟩
  have k0 := k0.below b1 k0.lt
  have kz := kz.below b1 kz.lt
  have gb := gb.trans (b1.mono gb.size)
  clear b1
  cases R
  case false =>
    go_wp2_with first
      | ((refine wpList_bdV (v := .agg (bc Bo.zero (.slice none 0 0))) (w' := _) rfl 83 #[] rfl ?_ ?_); (simp only [List.map_toArray, List.map_nil]; exact HBD.out _))
      | ((with_reducible refine wpList_st rowBo kz z49.out z49.out o49.out ?_ ?_ ?_); rotate_left; (rfl); (rfl); intro w5 k5 g5 z5)
    exact bodyPost_ret (v := .agg (bc Bo.zero (.slice none 0 0))) (results_blk rfl rowBo k5 z49.out rfl) rfl ⟨_, rfl, ⟨none, 0, 0, rfl, OwnV.nil _ _ _, by omega⟩, gb.grown g5 gb.size (fun q hq => by injection hq; omega)⟩
  case true =>
  have t48 : w1.cell? ⟨g, 48, none⟩ = some (.slice A m c) := (k0.cell 48).trans (bc_last HS.out)
  go_wp2_with fail
  have HW1 := gb.size
  refine (HC2.out w1 gb).mono ?_
  rintro e w2 ⟨A', c', rfl, o, b1⟩
  have k0 := k0.below b1 k0.lt
  have kz := kz.below b1 kz.lt
  have gb := gb.trans (b1.mono gb.size)
  have hne : A'.map (·.block) ≠ some g := own_ne o.2 k0 (by decide)
  clear b1 t48
  have t48 : w2.cell? ⟨g, 48, none⟩ = some (.slice A m c) := (k0.cell 48).trans (bc_last HS.out)
  have f48 := k0.free 48
  have k1 := k0.set_ 48 (.slice A' m c')
  rw [bc_set48 HS.out] at k1
  have kz1 := kz.far (p := ⟨g, 48, none⟩) (by show g + 1 ≠ g; omega) (.slice A' m c')
  have o1 := o.setFar (p := ⟨g, 48, none⟩) hne (.slice A' m c')
  have gb1 := gb.setCell (p := ⟨g, 48, none⟩) hgw (.slice A' m c')
  have n49 := bc_size (s := .slice A' m c') HS.out
  have n1 := bc_one (b := b) (s := .slice A' m c') rfl
  have HN := Lib.hid n49
  have HN1 := Lib.hid n1
  clear k0 kz gb o hne n49 n1
  generalize hW : w2.setCell ⟨g, 48, none⟩ (.slice A' m c') = w3 at k1 kz1 o1 gb1
  have HW := Lib.hid hW
  clear hW
  go_upto_region 4 with fail
  rw [HW.out]
  clear t48 f48 HW
  go_wp2_with first
    | ((with_reducible refine wpList_ld rowBo k1 HN.out ?_ ?_); rotate_left; (rfl))
    | ((with_reducible refine wpList_st rowBo kz1 HN.out z49.out HN1.out ?_ ?_ ?_); rotate_left; (rfl); (rfl); intro w5 k5 g5 z5)
  have hne : A'.map (·.block) ≠ some (g + 1) := own_ne o1.2 kz1 (by decide)
  exact bodyPost_ret (v := .agg (bc b (.slice A' m c'))) (results_blk rfl rowBo k5 HN.out rfl) rfl ⟨_, rfl, ⟨A', m, c', rfl, (o1.grown g5 (.inr hne)).mono HW1, HM.out⟩, gb1.grown g5 gb1.size (fun q hq => by injection hq; omega)⟩
theorem boOwn_any (b : Bd) (hs : Bo.Shaped b) (q : Value) (w : World) (hq : FrBo b q w) : Calls Try.prog 80 #[q] w (GiveBd 49 w (Bo.own b)) := (boOwn_anyB b hs q w hq).mono fun _ _ h => h.give
end Go.Proofs.Ytocoohpekpkmkaa

/- The walks of board's must, caught and got. -/
namespace Go.Proofs.Ytocoohpekpkmkaa
set_option linter.unusedVariables false
set_option linter.unusedSimpArgs false
set_option maxRecDepth 100000
open Go.RowKit
theorem cells_grown (w : World) (g o : Nat) (vs : List Value) : w.grownBy (w.setCells g o vs) (some g) := by
  obtain ⟨k1, k2, k3, k4⟩ := setCells_size w g vs o
  exact ⟨k2, k3, k4, by rw [k1]; exact Nat.le_refl _, fun k hk hne => setCells_other w g _ _ k (fun e => hne (by rw [e]))⟩
theorem Blk.there_ {w : World} {g o n : Nat} {t : TypeId} {cs : Array Value} (h : Blk w g t cs) (hn : o + n ≤ cs.size) : w.there g o n := fun i hi => by
  rw [h.cell, h.free]
  simp
  omega
theorem results_cc30 {P : Program} {T U : TypeId} {n g : Nat} {cs : Array Value} {t : TypeId} {fn : Func} {p q : Tmp} {w : World} {tmps : Array Value} {ad : Addr} {v : Value} (h : fn.results = #[.cell p T, .cell q U]) (hR : RowT P T n) (hB : Blk w g t cs) (hn : cs.size = n) (hp : tmps.getD p undef = .pointer (some ⟨g, 0, none⟩)) (hq : tmps.getD q undef = .pointer (some ad)) (hl2 : (loadVar U ad).run P w = .ok v w) : (results fn tmps).run P w = .ok (.tuple #[.agg cs, v]) w := by
  obtain ⟨d, hu, hd, hi⟩ := hR
  rw [← hn, ← Array.length_toList] at hi
  have hp' : tmps[p]?.getD undef = .pointer (some ⟨g, 0, none⟩) := by simpa using hp
  have hq' : tmps[q]?.getD undef = .pointer (some ad) := by simpa using hq
  have hl := run_loadVar_mid w g 0 T cs.toList d hB.range hu hd hi
  rw [Array.toArray_toList] at hl
  simp [results, h, hp', hq', asAddr, hl, hl2]
/-- a fault, as a panic's value -/
abbrev bflt (x : Int) : Value := .iface 171 (.agg #[.int .i64 x])
theorem bmust_ok (x : Int) (w : World) :
    Calls Try.prog 64 #[.bool true, .int .i64 x] w fun e w' => e = .returned (.tuple #[]) ∧ w = w' := by
  go_enter Try.func64, Try.ntmps64
  go_wp2_with fail
  go_end0
  exact ⟨rfl, rfl⟩
theorem bmust_bad (x : Int) (w : World) :
    Calls Try.prog 64 #[.bool false, .int .i64 x] w fun e w' => e = .panicked [{ v := bflt x, recovered := false }] ∧ w = w' := by
  go_enter Try.func64, Try.ntmps64
  go_wp2_with fail
  exact ⟨rfl, rfl, rfl⟩
theorem bmust_yes {b : Bool} (hb : b = true) (x : Int) (w : World) : Calls Try.prog 64 #[.bool b, .int .i64 x] w fun e w' => e = .returned (.tuple #[]) ∧ w = w' := hb ▸ bmust_ok x w
theorem bmust_no {b : Bool} (hb : b = false) (x : Int) (w : World) : Calls Try.prog 64 #[.bool b, .int .i64 x] w fun e w' => e = .panicked [{ v := bflt x, recovered := false }] ∧ w = w' := hb ▸ bmust_bad x w
theorem bassert_flt (x : Int) (w : World) : (Instr.typeAssert (bflt x) 20 171 true).run Try.prog w = .ok (.tuple #[.agg #[.int .i64 x], .bool true]) w := by kernel_rfl
theorem bcaught_panic (g : Nat) (x : Int) (older : List PanicEntry) (v : Value) (w : World) (h0 : w.cell? ⟨g, 0, none⟩ = some v) (hf : w.frozen? ⟨g, 0, none⟩ = false) :
    CallsD Try.prog 62 #[.pointer (some ⟨g, 0, none⟩)] (.panicking ({ v := bflt x, recovered := false } :: older)) w fun e u' w' =>
      e = .returned (.tuple #[]) ∧ u' = .panicking ({ v := bflt x, recovered := true } :: older) ∧ w' = (w.alloc (.cells #[.int .i64 x] 171)).setCell ⟨g, 0, none⟩ (.int .i64 x) := by
  have ta := bassert_flt x
  have lt0 := World.block_lt_of_cell? w _ h0
  refine callsD_of_wpS Try.func62 rfl fun c₀ cs hu => ?_
  apply wpS_seq
  apply wpS_region
  simp [wpOpsS, go_sem, recoverD, hu, Try.ntmps62, Exit.thenS]
  refine wpS_of_wp ?_
  rw [Frame.frame15]
  go_wp2_with fail
  simp [bodyPostS, results, Try.results62]
theorem bcaught_none (g : Nat) (w : World) :
    CallsD Try.prog 62 #[.pointer (some ⟨g, 0, none⟩)] .returning w fun e u' w' => e = .returned (.tuple #[]) ∧ u' = .returning ∧ w' = w := by
  refine callsD_of_wpS Try.func62 rfl fun c₀ cs hu => ?_
  apply wpS_seq
  apply wpS_region
  simp [wpOpsS, go_sem, recoverD, hu, Try.ntmps62, Exit.thenS]
  refine wpS_of_wp ?_
  rw [Frame.frame15]
  go_wp2_with fail
  cases c₀
  simp_all [bodyPostS, results, Try.results62]

set_option maxHeartbeats 2000000 in
theorem gotT_ok (cs : Array Value) (hn : cs.size = 16) (h1 : cs.all (·.oneCell') = true) (w : World) :
    Calls Try.prog 81 #[.agg cs, .int .i64 0] w fun e w' => e = .returned (.agg cs) ∧ Below w.heap.size w w' := by
  have HN := Lib.hid hn
  have H1 := Lib.hid h1
  clear hn h1
  obtain ⟨zz, hzz⟩ : ∃ zz : Array Value, zz = #[.int .i64 0, .int .i64 0, .int .i64 0, .int .i64 0, .int .i64 0, .int .i64 0, .int .i64 0, .int .i64 0, .int .i64 0, .int .i64 0, .int .i64 0, .int .i64 0, .int .i64 0, .int .i64 0, .int .i64 0, .int .i64 0] := ⟨_, rfl⟩
  have ZN := Lib.hid (show zz.size = 16 by rw [hzz]; rfl)
  have ZZ := Lib.hid hzz
  clear hzz
  go_enter Try.func81, Try.ntmps81
  go_upto_region 1 with fail
  refine nameW ?_
  intro W hW
  obtain ⟨B, hB⟩ : ∃ B, B = w.heap.size := ⟨_, rfl⟩
  rw [← hB]
  have kc : Blk W B 80 cs := by rw [hW, hB]; exact (Blk.new w _ _).alloc _
  have kz : Blk W (B + 1) 80 zz := by
    have h := Blk.new (w.alloc (.cells cs 80)) 80 zz
    rw [ZZ.out] at h ⊢
    rw [hW, hB]
    simpa using h
  have gb : Below B w W := by rw [hW, hB]; exact ((Below.refl _ _).alloc (Nat.le_refl _) _).alloc (by simp) _
  have HB := Lib.hid hB
  clear hW hB
  go_wp2_with fail
  refine (bmust_ok 0 W).mono ?_
  rintro e w1 ⟨rfl, rfl⟩
  go_wp2_with first
    | ((with_reducible refine wpList_ld rowT kc HN.out ?_ ?_); rotate_left; (rfl))
    | ((with_reducible refine wpList_st rowT kz HN.out ZN.out H1.out ?_ ?_ ?_); rotate_left; (rfl); (rfl); intro w5 k5 g5 z5)
  exact bodyPost_ret (v := .agg cs) (results_blk rfl rowT k5 HN.out rfl) rfl ⟨rfl, by rw [← HB.out]; exact gb.grown g5 (by have := gb.size; have := HB.out; omega) (fun q hq => by injection hq; omega)⟩
theorem gotT_bad (cs : Array Value) (x : Int) (hx : x ≠ 0) (w : World) :
    Calls Try.prog 81 #[.agg cs, .int .i64 x] w fun e w' => e = .panicked [{ v := bflt x, recovered := false }] ∧ Below w.heap.size w w' := by
  have hq : (x == (0 : Int)) = false := by simpa using hx
  have HQ := Lib.hid hq
  clear hx hq
  go_enter Try.func81, Try.ntmps81
  go_wp2_with fail
  refine (bmust_no HQ.out x _).mono ?_
  rintro e w1 ⟨rfl, rfl⟩
  go_wp2_with fail
  exact ⟨rfl, rfl, ((Below.refl _ _).alloc (Nat.le_refl _) _).alloc (by simp) _⟩

set_option maxHeartbeats 2000000 in
theorem gotL_ok (cs : Array Value) (hn : cs.size = 3) (h1 : cs.all (·.oneCell') = true) (w : World) :
    Calls Try.prog 83 #[.agg cs, .int .i64 0] w fun e w' => e = .returned (.agg cs) ∧ Below w.heap.size w w' := by
  have HN := Lib.hid hn
  have H1 := Lib.hid h1
  clear hn h1
  obtain ⟨zz, hzz⟩ : ∃ zz : Array Value, zz = #[.int .i64 0, .int .i64 0, .int .i64 0] := ⟨_, rfl⟩
  have ZN := Lib.hid (show zz.size = 3 by rw [hzz]; rfl)
  have ZZ := Lib.hid hzz
  clear hzz
  go_enter Try.func83, Try.ntmps83
  go_upto_region 1 with fail
  refine nameW ?_
  intro W hW
  obtain ⟨B, hB⟩ : ∃ B, B = w.heap.size := ⟨_, rfl⟩
  rw [← hB]
  have kc : Blk W B 62 cs := by rw [hW, hB]; exact (Blk.new w _ _).alloc _
  have kz : Blk W (B + 1) 62 zz := by
    have h := Blk.new (w.alloc (.cells cs 62)) 62 zz
    rw [ZZ.out] at h ⊢
    rw [hW, hB]
    simpa using h
  have gb : Below B w W := by rw [hW, hB]; exact ((Below.refl _ _).alloc (Nat.le_refl _) _).alloc (by simp) _
  have HB := Lib.hid hB
  clear hW hB
  go_wp2_with fail
  refine (bmust_ok 0 W).mono ?_
  rintro e w1 ⟨rfl, rfl⟩
  go_wp2_with first
    | ((with_reducible refine wpList_ld rowLa kc HN.out ?_ ?_); rotate_left; (rfl))
    | ((with_reducible refine wpList_st rowLa kz HN.out ZN.out H1.out ?_ ?_ ?_); rotate_left; (rfl); (rfl); intro w5 k5 g5 z5)
  exact bodyPost_ret (v := .agg cs) (results_blk rfl rowLa k5 HN.out rfl) rfl ⟨rfl, by rw [← HB.out]; exact gb.grown g5 (by have := gb.size; have := HB.out; omega) (fun q hq => by injection hq; omega)⟩
theorem gotL_bad (cs : Array Value) (x : Int) (hx : x ≠ 0) (w : World) :
    Calls Try.prog 83 #[.agg cs, .int .i64 x] w fun e w' => e = .panicked [{ v := bflt x, recovered := false }] ∧ Below w.heap.size w w' := by
  have hq : (x == (0 : Int)) = false := by simpa using hx
  have HQ := Lib.hid hq
  clear hx hq
  go_enter Try.func83, Try.ntmps83
  go_wp2_with fail
  refine (bmust_no HQ.out x _).mono ?_
  rintro e w1 ⟨rfl, rfl⟩
  go_wp2_with fail
  exact ⟨rfl, rfl, ((Below.refl _ _).alloc (Nat.le_refl _) _).alloc (by simp) _⟩

set_option maxHeartbeats 2000000 in
theorem gotM_ok (cs : Array Value) (hn : cs.size = 9) (h1 : cs.all (·.oneCell') = true) (w : World) :
    Calls Try.prog 86 #[.agg cs, .int .i64 0] w fun e w' => e = .returned (.agg cs) ∧ Below w.heap.size w w' := by
  have HN := Lib.hid hn
  have H1 := Lib.hid h1
  clear hn h1
  obtain ⟨zz, hzz⟩ : ∃ zz : Array Value, zz = #[.int .i64 0, .int .i64 0, .int .i64 0, .int .i64 0, .int .i64 0, .int .i64 0, .int .i64 0, .int .i64 0, .slice none 0 0] := ⟨_, rfl⟩
  have ZN := Lib.hid (show zz.size = 9 by rw [hzz]; rfl)
  have ZZ := Lib.hid hzz
  clear hzz
  go_enter Try.func86, Try.ntmps86
  go_upto_region 1 with fail
  refine nameW ?_
  intro W hW
  obtain ⟨B, hB⟩ : ∃ B, B = w.heap.size := ⟨_, rfl⟩
  rw [← hB]
  have kc : Blk W B 31 cs := by rw [hW, hB]; exact (Blk.new w _ _).alloc _
  have kz : Blk W (B + 1) 31 zz := by
    have h := Blk.new (w.alloc (.cells cs 31)) 31 zz
    rw [ZZ.out] at h ⊢
    rw [hW, hB]
    simpa using h
  have gb : Below B w W := by rw [hW, hB]; exact ((Below.refl _ _).alloc (Nat.le_refl _) _).alloc (by simp) _
  have HB := Lib.hid hB
  clear hW hB
  go_wp2_with fail
  refine (bmust_ok 0 W).mono ?_
  rintro e w1 ⟨rfl, rfl⟩
  go_wp2_with first
    | ((with_reducible refine wpList_ld rowM kc HN.out ?_ ?_); rotate_left; (rfl))
    | ((with_reducible refine wpList_st rowM kz HN.out ZN.out H1.out ?_ ?_ ?_); rotate_left; (rfl); (rfl); intro w5 k5 g5 z5)
  exact bodyPost_ret (v := .agg cs) (results_blk rfl rowM k5 HN.out rfl) rfl ⟨rfl, by rw [← HB.out]; exact gb.grown g5 (by have := gb.size; have := HB.out; omega) (fun q hq => by injection hq; omega)⟩
theorem gotM_bad (cs : Array Value) (x : Int) (hx : x ≠ 0) (w : World) :
    Calls Try.prog 86 #[.agg cs, .int .i64 x] w fun e w' => e = .panicked [{ v := bflt x, recovered := false }] ∧ Below w.heap.size w w' := by
  have hq : (x == (0 : Int)) = false := by simpa using hx
  have HQ := Lib.hid hq
  clear hx hq
  go_enter Try.func86, Try.ntmps86
  go_wp2_with fail
  refine (bmust_no HQ.out x _).mono ?_
  rintro e w1 ⟨rfl, rfl⟩
  go_wp2_with fail
  exact ⟨rfl, rfl, ((Below.refl _ _).alloc (Nat.le_refl _) _).alloc (by simp) _⟩
end Go.Proofs.Ytocoohpekpkmkaa

/- The walk of board's reader.number. -/
namespace Go.Proofs.Ytocoohpekpkmkaa
set_option linter.unusedVariables false
set_option linter.unusedSimpArgs false
set_option maxRecDepth 100000
open Go.RowKit
/-- what reading a number leaves -/
def BNum (w : World) (g : Nat) (bs : List UInt8) (e : Ending) (w' : World) : Prop :=
  w.grownBy w' (some g) ∧ match Vint.dec bs with
    | .ok (x, r) => e = .returned (.int .i64 (x : Nat)) ∧ ∃ A c, Rdr w' g A r.length c r 0
    | .error x => e = .panicked [{ v := bflt (x : Nat), recovered := false }]
theorem BNum.good {w w' : World} {g : Nat} {bs : List UInt8} {e : Ending} (h : BNum w g bs e w') {x : Nat} {r : List UInt8} (hd : Vint.dec bs = .ok (x, r)) : e = .returned (.int .i64 (x : Nat)) ∧ (∃ A c, Rdr w' g A r.length c r 0) ∧ w.grownBy w' (some g) := by
  obtain ⟨h1, h2⟩ := h
  rw [hd] at h2
  exact ⟨h2.1, h2.2, h1⟩
theorem BNum.bad {w w' : World} {g : Nat} {bs : List UInt8} {e : Ending} (h : BNum w g bs e w') {x : Nat} (hd : Vint.dec bs = .error x) : e = .panicked [{ v := bflt (x : Nat), recovered := false }] ∧ w.grownBy w' (some g) := by
  obtain ⟨h1, h2⟩ := h
  rw [hd] at h2
  exact ⟨h2, h1⟩
theorem grownBy_trans {w w1 w2 : World} {g : Nat} (h : w.grownBy w1 (some g)) (k : w1.grownBy w2 (some g)) : w.grownBy w2 (some g) :=
  ⟨k.os.trans h.os, k.tape.trans h.tape, k.output.trans h.output, Nat.le_trans h.size k.size, fun b hb hne => (k.block b (Nat.lt_of_lt_of_le hb h.size) hne).trans (h.block b hb hne)⟩
set_option maxHeartbeats 4000000 in
theorem bnum_any (g : Nat) (A : Option Addr) (n c : Nat) (bs : List UInt8) (w : World) (hR : Rdr w g A n c bs 0) :
    Calls Try.prog 69 #[.agg #[.pointer (some ⟨g, 0, none⟩)]] w (BNum w g bs) := by
  obtain ⟨W, hW⟩ : ∃ W, W = w.alloc (.cells #[.pointer (some ⟨g, 0, none⟩)] 129) := ⟨_, rfl⟩
  obtain ⟨s, hs⟩ : ∃ s, s = w.heap.size := ⟨_, rfl⟩
  have hBW : Below w.heap.size w W := by rw [hW]; exact (Below.refl _ _).alloc (Nat.le_refl _) _
  have hRW : Rdr W g A n c bs 0 := hR.below (hBW.mono (by have := hR.lt; omega))
  have ks : Blk W s 129 #[.pointer (some ⟨g, 0, none⟩)] := by rw [hW, hs]; exact Blk.new _ _ _
  have o0 : w.grownBy W (some g) := only_of_below hBW _
  have hgs : g < s := by rw [hs]; exact hR.lt
  have HW := Lib.hid hW
  have HS := Lib.hid hs
  have HIB := Lib.hid (int_any g A n c bs 0 W hRW)
  clear hW hs hR
  go_enter Try.func69, Try.ntmps69
  go_upto_region 1 with fail
  rw [← HW.out, ← HS.out]
  have hc0 : W.cell? ⟨s, 0, none⟩ = some (.pointer (some ⟨g, 0, none⟩)) := ks.cell 0
  go_wp2_with fail
  refine HIB.out.mono ?_
  rintro e w2 ⟨rfl, g1, A1, c1, r2⟩
  have s2 := ks.grown g1 (by intro h; injection h; omega)
  have o2 := grownBy_trans o0 g1
  obtain ⟨m, r, x, hI⟩ : ∃ m r x, Vint.intM bs 0 = (m, r, x) := ⟨_, _, _, rfl⟩
  rw [hI] at r2 ⊢
  simp only at r2 ⊢
  have HI := Lib.hid hI
  obtain ⟨okb, hok⟩ : ∃ okb, (((x : Nat) : Int) == 0) = okb := ⟨_, rfl⟩
  have HOK := Lib.hid hok
  clear g1 ks hc0 hI hok HIB hBW hRW o0
  go_upto_region 2 with fail
  refine wp_region_tailF 5 7 (fun L v w => v 1 = .pointer (some ⟨s, 0, none⟩) ∧ Below w2.heap.size w2 w ∧ (L 0 = true → v 7 = .pointer (some ⟨s, 0, none⟩)) ∧ (L 1 = true → v 8 = .pointer (some ⟨g, 0, none⟩)) ∧ (L 2 = true → v 9 = .int .i64 (x : Nat)) ∧ (L 3 = true → v 10 = .bool okb) ∧ (L 4 = true → v 11 = .pointer (some ⟨s, 0, none⟩)) ∧ (L 5 = true → v 12 = .pointer (some ⟨g, 0, none⟩)) ∧ (L 6 = true → v 13 = .int .i64 (x : Nat))) [7, 8, 9, 10, 11, 12, 13] (by kernel_rfl) (by kernel_rfl) (by kernel_rfl) (by kernel_rfl) (by kernel_rfl) (by kernel_rfl) ?h0 ?hst ?hend
  case h0 =>
    intro L h0
    have h0 : ∀ i, i < 7 → L i = false := h0
    exact ⟨rfl, (Below.refl _ _).drew, offF h0 (i := 0) (by decide), offF h0 (i := 1) (by decide), offF h0 (i := 2) (by decide), offF h0 (i := 3) (by decide), offF h0 (i := 4) (by decide), offF h0 (i := 5) (by decide), offF h0 (i := 6) (by decide)⟩
  case hst =>
    show FactSteps _ _ _ _ [0, 1, 2, 3, 4, 5, 6]
    refine @FactSteps.cons _ _ _ _ 0 _ [] _ rfl (by kernel_rfl) ?s0 ?_
    rotate_left
    refine @FactSteps.cons _ _ _ _ 1 _ [0] _ rfl (by kernel_rfl) ?s1 ?_
    rotate_left
    refine @FactSteps.cons _ _ _ _ 2 _ [1] _ rfl (by kernel_rfl) ?s2 ?_
    rotate_left
    refine @FactSteps.cons _ _ _ _ 3 _ [2] _ rfl (by kernel_rfl) ?s3 ?_
    rotate_left
    refine @FactSteps.cons _ _ _ _ 4 _ [] _ rfl (by kernel_rfl) ?s4 ?_
    rotate_left
    refine @FactSteps.cons _ _ _ _ 5 _ [4] _ rfl (by kernel_rfl) ?s5 ?_
    rotate_left
    refine @FactSteps.cons _ _ _ _ 6 _ [5, 2] _ rfl (by kernel_rfl) ?s6 ?_
    rotate_left
    exact FactSteps.nil
    case s0 =>
      rintro L a v w hv hg hL hd hcl ⟨e1, hb, f0, f1, f2, f3, f4, f5, f6⟩ K hK
      refine step_do rfl ?_
      clear hv
      go_simp
      exact hK.out _ _ ⟨e1, hb, fun _ => rfl, f1, f2, f3, f4, f5, f6⟩
    case s1 =>
      rintro L a v w hv hg hL hd hcl ⟨e1, hb, f0, f1, f2, f3, f4, f5, f6⟩ K hK
      have g0 := f0 (hd 0 (by decide))
      have cs : w.cell? ⟨s, 0, none⟩ = some (.pointer (some ⟨g, 0, none⟩)) := (s2.below hb s2.lt).cell 0
      refine step_do rfl ?_
      clear hv
      go_simp
      exact hK.out _ _ ⟨e1, hb, f0, fun _ => rfl, f2, f3, f4, f5, f6⟩
    case s2 =>
      rintro L a v w hv hg hL hd hcl ⟨e1, hb, f0, f1, f2, f3, f4, f5, f6⟩ K hK
      have g1 := f1 (hd 1 (by decide))
      refine step_do rfl ?_
      clear hv
      go_simp
      refine (err_any g A1 _ c1 r x w (r2.below (hb.mono (by have := r2.lt; omega)))).mono ?_
      rintro e wy ⟨rfl, rfl⟩
      exact hK.out _ _ ⟨e1, hb, f0, f1, fun _ => rfl, f3, f4, f5, f6⟩
    case s3 =>
      rintro L a v w hv hg hL hd hcl ⟨e1, hb, f0, f1, f2, f3, f4, f5, f6⟩ K hK
      have hk := HOK.out
      refine step_do rfl ?_
      clear hv
      go_simp
      exact hK.out _ _ ⟨e1, hb, f0, f1, f2, fun _ => rfl, f4, f5, f6⟩
    case s4 =>
      rintro L a v w hv hg hL hd hcl ⟨e1, hb, f0, f1, f2, f3, f4, f5, f6⟩ K hK
      refine step_do rfl ?_
      clear hv
      go_simp
      exact hK.out _ _ ⟨e1, hb, f0, f1, f2, f3, fun _ => rfl, f5, f6⟩
    case s5 =>
      rintro L a v w hv hg hL hd hcl ⟨e1, hb, f0, f1, f2, f3, f4, f5, f6⟩ K hK
      have g4 := f4 (hd 4 (by decide))
      have cs : w.cell? ⟨s, 0, none⟩ = some (.pointer (some ⟨g, 0, none⟩)) := (s2.below hb s2.lt).cell 0
      refine step_do rfl ?_
      clear hv
      go_simp
      exact hK.out _ _ ⟨e1, hb, f0, f1, f2, f3, f4, fun _ => rfl, f6⟩
    case s6 =>
      rintro L a v w hv hg hL hd hcl ⟨e1, hb, f0, f1, f2, f3, f4, f5, f6⟩ K hK
      have g5 := f5 (hd 5 (by decide))
      refine step_do rfl ?_
      clear hv
      go_simp
      refine (err_any g A1 _ c1 r x w (r2.below (hb.mono (by have := r2.lt; omega)))).mono ?_
      rintro e wy ⟨rfl, rfl⟩
      exact hK.out _ _ ⟨e1, hb, f0, f1, f2, f3, f4, f5, fun _ => rfl⟩
  case hend =>
  rintro L v w3 hall ⟨e1, hb, f0, f1, f2, f3, f4, f5, f6⟩
  have hL : ∀ i, i < 7 → L i = true := hall
  have f0 := f0 (hL 0 (by decide))
  have f1 := f1 (hL 1 (by decide))
  have f2 := f2 (hL 2 (by decide))
  have f3 := f3 (hL 3 (by decide))
  have f4 := f4 (hL 4 (by decide))
  have f5 := f5 (hL 5 (by decide))
  have f6 := f6 (hL 6 (by decide))
  simp only [finA, List.foldl_cons, List.foldl_nil, Act.put, List.setIfInBounds_toArray, List.set_cons_succ, List.set_cons_zero, f0, f1, f3, f4, f5, f2, f6]
  have o3 : w.grownBy w3 (some g) := grownBy_trans o2 (only_of_below hb _)
  have r3 := r2.below (hb.mono (by have := r2.lt; omega))
  clear e1 f0 f1 f2 f3 f4 f5 f6 hL hall hb
  show wpList _ _ _ [_] _ _
  cases hd : Vint.dec bs with
  | ok p =>
    obtain ⟨y, rr⟩ := p
    have hy := HI.out
    rw [Vint.intM_ok hd] at hy
    injection hy with h1 h2
    injection h2 with h2 h3
    subst h1 h2 h3
    obtain rfl : okb = true := HOK.out.symm.trans rfl
    have HD := Lib.hid hd
    clear hd
    go_wp2_with fail
    refine (bmust_ok _ _).mono ?_
    rintro e w4 ⟨rfl, rfl⟩
    go_wp2_with fail
    go_ret
    refine ⟨o3, ?_⟩
    rw [HD.out]
    exact ⟨rfl, A1, c1, r3⟩
  | error y =>
    have hy := HI.out
    rw [Vint.intM_bad hd] at hy
    have hne := Vint.dec_err hd
    injection hy with h1 h2
    injection h2 with h2 h3
    subst h1 h2 h3
    obtain rfl : okb = false := by
      rw [← HOK.out, beq_eq_false_iff_ne]
      omega
    have HD := Lib.hid hd
    clear hd hne
    go_wp2_with fail
    refine (bmust_bad _ _).mono ?_
    rintro e w4 ⟨rfl, rfl⟩
    go_wp2_with fail
    refine ⟨rfl, o3, ?_⟩
    rw [HD.out]
end Go.Proofs.Ytocoohpekpkmkaa

/- The walk of board's reader.rows, whatever the row's function does. -/
namespace Go.Proofs.Ytocoohpekpkmkaa
set_option linter.unusedVariables false
set_option linter.unusedSimpArgs false
set_option maxRecDepth 100000
open Go.RowKit
theorem Blk.keptOnly {F : Nat → Prop} {w w' : World} {b : Nat} {t : TypeId} {cs : Array Value} (h : Blk w b t cs) (o : Only F w w') (hn : ¬ F b) : Blk w' b t cs := (o.block b h.lt hn).trans h
namespace Bo
variable {σ : Type}
/-- rows of numbers, each with a place and 1 ahead, up to a 0; the first place is read -/
def rowsE (step : Nat → σ → List UInt8 → Except Nat (σ × List UInt8)) : Nat → Nat → σ → Nat → List UInt8 → Except Nat (σ × List UInt8)
  | 0, _, _, _, _ => .error 4
  | k + 1, last, st, n, r => if n = 0 then .ok (st, r) else if last < n ∧ n ≤ 8 then
      match step (n - 1) st r with
      | .error y => .error y
      | .ok (st', r') => match Vint.dec r' with
        | .error y => .error y
        | .ok (n', r'') => rowsE step k n st' n' r''
    else .error 4
def rows (step : Nat → σ → List UInt8 → Except Nat (σ × List UInt8)) (st : σ) (bs : List UInt8) : Except Nat (σ × List UInt8) :=
  match Vint.dec bs with
  | .error x => .error x
  | .ok (n, r) => rowsE step 9 0 st n r
theorem rowsE_end (step : Nat → σ → List UInt8 → Except Nat (σ × List UInt8)) (k last : Nat) (st : σ) (r : List UInt8) : rowsE step (k + 1) last st 0 r = .ok (st, r) := by
  unfold rowsE
  rw [if_pos rfl]
theorem rowsE_bad (step : Nat → σ → List UInt8 → Except Nat (σ × List UInt8)) (k last : Nat) (st : σ) {n : Nat} (r : List UInt8) (h : n ≠ 0) (h2 : ¬ (last < n ∧ n ≤ 8)) : rowsE step (k + 1) last st n r = .error 4 := by
  unfold rowsE
  rw [if_neg h, if_neg h2]
theorem rowsE_step {step : Nat → σ → List UInt8 → Except Nat (σ × List UInt8)} (k last : Nat) (st : σ) {n : Nat} (r : List UInt8) (h : n ≠ 0) (h2 : last < n ∧ n ≤ 8) {y : Nat} (hs : step (n - 1) st r = .error y) : rowsE step (k + 1) last st n r = .error y := by
  unfold rowsE
  rw [if_neg h, if_pos h2, hs]
theorem rowsE_num {step : Nat → σ → List UInt8 → Except Nat (σ × List UInt8)} (k last : Nat) (st : σ) {n : Nat} (r : List UInt8) (h : n ≠ 0) (h2 : last < n ∧ n ≤ 8) {st' : σ} {r' : List UInt8} (hs : step (n - 1) st r = .ok (st', r')) {y : Nat} (hd : Vint.dec r' = .error y) : rowsE step (k + 1) last st n r = .error y := by
  unfold rowsE
  rw [if_neg h, if_pos h2, hs]
  simp only [hd]
theorem rowsE_on {step : Nat → σ → List UInt8 → Except Nat (σ × List UInt8)} (k last : Nat) (st : σ) {n : Nat} (r : List UInt8) (h : n ≠ 0) (h2 : last < n ∧ n ≤ 8) {st' : σ} {r' : List UInt8} (hs : step (n - 1) st r = .ok (st', r')) {n' : Nat} {r'' : List UInt8} (hd : Vint.dec r' = .ok (n', r'')) : rowsE step (k + 1) last st n r = rowsE step k n st' n' r'' := by
  rw [rowsE, if_neg h, if_pos h2, hs]
  simp only [hd]
end Bo
theorem rowRd30 : RowT Try.prog 129 1 := ⟨_, Try.underlying129, rfl, by kernel_rfl⟩
/-- what a step of reading leaves -/
def StepB {σ : Type} (g : Nat) (F : Nat → Prop) (J : σ → World → Prop) (R : Except Nat (σ × List UInt8)) (w : World) (e : Ending) (w' : World) : Prop :=
  Only F w w' ∧ match R with
    | .ok (st', r) => e = .returned (.tuple #[]) ∧ (∃ A c, Rdr w' g A r.length c r 0) ∧ J st' w'
    | .error y => e = .panicked [{ v := bflt (y : Nat), recovered := false }]
theorem StepB.good {σ : Type} {g : Nat} {F : Nat → Prop} {J : σ → World → Prop} {R : Except Nat (σ × List UInt8)} {w w' : World} {e : Ending} (h : StepB g F J R w e w') {st' : σ} {r : List UInt8} (hr : R = .ok (st', r)) :
    e = .returned (.tuple #[]) ∧ (∃ A c, Rdr w' g A r.length c r 0) ∧ J st' w' ∧ Only F w w' := by
  subst hr
  exact ⟨h.2.1, h.2.2.1, h.2.2.2, h.1⟩
theorem StepB.bad {σ : Type} {g : Nat} {F : Nat → Prop} {J : σ → World → Prop} {R : Except Nat (σ × List UInt8)} {w w' : World} {e : Ending} (h : StepB g F J R w e w') {y : Nat} (hr : R = .error y) :
    e = .panicked [{ v := bflt (y : Nat), recovered := false }] ∧ Only F w w' := by
  subst hr
  exact ⟨h.2, h.1⟩
set_option maxHeartbeats 600000 in
theorem rows_any {σ : Type} (step : Nat → σ → List UInt8 → Except Nat (σ × List UInt8)) (J : σ → World → Prop) (g : Nat) (F : Nat → Prop) (hFg : F g) (fid : FuncId) (cap : Array Value)
    (hk : ∀ args w, (callFunc fid args).run Try.prog w = .ok (.enter fid args) w)
    (hJ : ∀ st w w', J st w → w.grownBy w' (some g) → J st w')
    (hclo : ∀ (p : Nat) st bs A n c w, p < 8 → Rdr w g A n c bs 0 → J st w → (∀ k, F k → k < w.heap.size) → Calls Try.prog fid (#[.int .i64 (p : Nat)] ++ cap) w (StepB g F J (step p st bs) w))
    (A : Option Addr) (n c : Nat) (bs : List UInt8) (st : σ) (w : World) (hR : Rdr w g A n c bs 0) (hJ0 : J st w) (hFw : ∀ k, F k → k < w.heap.size) :
    Calls Try.prog 67 #[.agg #[.pointer (some ⟨g, 0, none⟩)], .int .i64 8, .func (.func fid) #[] cap] w (StepB g F J (Bo.rows step st bs) w) := by
  have HCLO := Lib.hid hclo
  have HJ := Lib.hid hJ
  have HF := Lib.hid hFg
  have HFW := Lib.hid hFw
  obtain ⟨W, hW⟩ : ∃ W, W = w.alloc (.cells #[.pointer (some ⟨g, 0, none⟩)] 129) := ⟨_, rfl⟩
  obtain ⟨s, hs⟩ : ∃ s, s = w.heap.size := ⟨_, rfl⟩
  have hBW : Below w.heap.size w W := by rw [hW]; exact (Below.refl _ _).alloc (Nat.le_refl _) _
  have hRW : Rdr W g A n c bs 0 := hR.below (hBW.mono (by have := hR.lt; omega))
  have ks : Blk W s 129 #[.pointer (some ⟨g, 0, none⟩)] := by rw [hW, hs]; exact Blk.new _ _ _
  have o0 : Only F w W := Only.of_below _ hBW
  have hgs : g < s := by rw [hs]; exact hR.lt
  have hJW : J st W := hJ _ _ _ hJ0 (only_of_below hBW _)
  have HNS := Lib.hid (fun h : F s => by have := hFw s h; omega : ¬ F s)
  have HW := Lib.hid hW
  have HS := Lib.hid hs
  clear hW hs hR hclo hJ hFg hFw hJ0 hBW
  go_enter Try.func67, Try.ntmps67
  go_upto_region 2 with fail
  rw [← HW.out, ← HS.out]
  go_wp2_with ((with_reducible refine wpList_ld (n := 1) rowRd30 ks rfl ?_ ?_); rotate_left; (rfl))
  refine (bnum_any g A n c bs W hRW).mono ?_
  intro e w1 hB
  cases hd : Vint.dec bs with
  | error y =>
    obtain ⟨rfl, gg⟩ := hB.bad hd
    have o1 := o0.trans (Only.of_grown (F := F) gg HF.out) (Grows.refl _ _)
    have HE := Lib.hid (show Bo.rows step st bs = .error y by unfold Bo.rows; rw [hd])
    clear hd hB
    go_wp2_with fail
    refine ⟨rfl, o1, ?_⟩
    rw [HE.out]
  | ok p0 =>
    obtain ⟨n0, r0⟩ := p0
    obtain ⟨rfl, ⟨A1, c1, r1⟩, gg⟩ := hB.good hd
    have o1 := o0.trans (Only.of_grown (F := F) gg HF.out) (Grows.refl _ _)
    have ks1 := ks.grown gg (by intro h; injection h; omega)
    have j1 := HJ.out _ _ _ hJW gg
    have HE := Lib.hid (show Bo.rows step st bs = Bo.rowsE step 9 0 st n0 r0 by unfold Bo.rows; rw [hd])
    have N0 := Lib.hid (show n0 ≤ 1099511627776 from (Vint.dec_ok hd).2)
    clear hd hB ks o0 hJW gg hRW
    go_wp2_with fail
    go_loopw [6, 7] (fun la nn wr => ∃ (k last n' : Nat) (st' : σ) (r' : List UInt8) (A' : Option Addr) (c' : Nat), la = .int .i64 (last : Nat) ∧ nn = .int .i64 (n' : Nat) ∧ last ≤ 8 ∧ 9 ≤ k + last ∧ n' ≤ 1099511627776 ∧ Bo.rows step st bs = Bo.rowsE step k last st' n' r' ∧ Rdr wr g A' r'.length c' r' 0 ∧ J st' wr ∧ Only F w wr ∧ Blk wr s 129 #[.pointer (some ⟨g, 0, none⟩)]) (fun la _ _ => 9 - (intOf la).toNat)
    case atStart => exact ⟨9, 0, n0, st, r0, A1, c1, rfl, rfl, by omega, by omega, N0.out, HE.out, r1, j1, o1, ks1⟩
    case round =>
      obtain ⟨k, last, n', st', r', A', c', rfl, rfl, hl8, hkl, hnb, he, hr, hj, ho, kr⟩ := hrel
      have HJ2 := Lib.hid hj
      have HR2 := Lib.hid hr
      have HO2 := Lib.hid ho
      have HFR := Lib.hid (fun k h => Nat.lt_of_lt_of_le (HFW.out k h) ho.size : ∀ k, F k → k < wr.heap.size)
      obtain ⟨k, rfl⟩ : ∃ j, k = j + 1 := ⟨k - 1, by omega⟩
      have HEE := Lib.hid he
      clear hj hr ho he ks1 r1 j1 o1 HE
      by_cases hz : n' = 0
      · subst hz
        have hee := HEE.out
        rw [Bo.rowsE_end] at hee
        have HE3 := Lib.hid hee
        clear hee
        go_wp2_with fail
        go_end0
        refine ⟨HO2.out, ?_⟩
        rw [HE3.out]
        exact ⟨rfl, ⟨A', c', HR2.out⟩, HJ2.out⟩
      · have d0 : ((n' : Int) != 0) = true := by rw [bne_iff_ne]; omega
        by_cases h2 : last < n' ∧ n' ≤ 8
        · have d1 : decide ((last : Int) < (n' : Int)) = true := decide_eq_true (by omega)
          have d2 : decide ((n' : Int) ≤ 8) = true := decide_eq_true (by omega)
          have ew : IntKind.i64.wrap ((n' : Int) - 1) = ((n' - 1 : Nat) : Int) := by rw [IntWalk.i64_in _ (by omega)]; omega
          have HZ := Lib.hid hz
          have H2 := Lib.hid h2
          have h3 := h2.1
          have h4 := h2.2
          clear h2
          go_wp2_with fail
          refine (bmust_ok _ _).mono ?_
          rintro e w4 ⟨rfl, rfl⟩
          go_wp2_with fail
          refine (show Calls Try.prog fid (#[.int .i64 ((n' - 1 : Nat) : Int)] ++ cap) wr _ from HCLO.out (n' - 1) st' r' A' _ c' wr (by have := H2.out; omega) HR2.out HJ2.out HFR.out).mono ?_
          intro e w2 hs
          cases hst : step (n' - 1) st' r' with
          | error y =>
            obtain ⟨rfl, o2⟩ := hs.bad hst
            have o3 := HO2.out.trans o2 (Grows.refl _ _)
            have HE3 := Lib.hid (HEE.out.trans (Bo.rowsE_step k last st' r' HZ.out H2.out hst))
            clear hs hst o2
            go_wp2_with fail
            refine ⟨rfl, o3, ?_⟩
            rw [HE3.out]
          | ok p1 =>
            obtain ⟨st2, r2⟩ := p1
            obtain ⟨rfl, ⟨A2, c2, R2⟩, j2, o2⟩ := hs.good hst
            have o3 := HO2.out.trans o2 (Grows.refl _ _)
            have kr2 := kr.keptOnly o2 HNS.out
            clear hs o2 kr
            go_wp2_with ((with_reducible refine wpList_ld (n := 1) rowRd30 kr2 rfl ?_ ?_); rotate_left; (rfl))
            refine (bnum_any g A2 _ c2 r2 w2 R2).mono ?_
            intro e w3 hB
            cases hd : Vint.dec r2 with
            | error y =>
              obtain ⟨rfl, gg⟩ := hB.bad hd
              have o4 := o3.trans (Only.of_grown (F := F) gg HF.out) (Grows.refl _ _)
              have HE3 := Lib.hid (HEE.out.trans (Bo.rowsE_num k last st' r' HZ.out H2.out hst hd))
              clear hd hB hst
              go_wp2_with fail
              refine ⟨rfl, o4, ?_⟩
              rw [HE3.out]
            | ok p2 =>
              obtain ⟨n3, r3⟩ := p2
              obtain ⟨rfl, ⟨A3, c3, R3⟩, gg⟩ := hB.good hd
              have o4 := o3.trans (Only.of_grown (F := F) gg HF.out) (Grows.refl _ _)
              have kr3 := kr2.grown gg (by intro h; injection h; omega)
              have j3 := HJ.out _ _ _ j2 gg
              have N3 := Lib.hid (show n3 ≤ 1099511627776 from (Vint.dec_ok hd).2)
              have HE3 := Lib.hid (HEE.out.trans (Bo.rowsE_on k last st' r' HZ.out H2.out hst hd))
              clear hd hB hst o3 kr2 j2 gg R2
              go_wp2_with fail
              go_roundw
              case rel => exact ⟨k, n', n3, st2, r3, A3, c3, rfl, rfl, H2.out.2, by have := H2.out; omega, N3.out, HE3.out, R3, j3, o4, kr3⟩
              case measure => have := H2.out; simp [intOf]; omega
        · have HZ := Lib.hid hz
          have HE3 := Lib.hid (HEE.out.trans (Bo.rowsE_bad step k last st' r' hz h2))
          by_cases h3 : last < n'
          · have d1 : decide ((last : Int) < (n' : Int)) = true := decide_eq_true (by omega)
            have d2 : decide ((n' : Int) ≤ 8) = false := decide_eq_false (by omega)
            have h4 : ¬ n' ≤ 8 := by omega
            clear h2
            go_wp2_with fail
            refine (bmust_bad _ _).mono ?_
            rintro e w4 ⟨rfl, rfl⟩
            go_wp2_with fail
            refine ⟨rfl, HO2.out, ?_⟩
            rw [HE3.out]
            show Ending.panicked [{ v := bflt 4, recovered := false }] = Ending.panicked [{ v := bflt ((4 : Nat) : Int), recovered := false }]
            rw [show ((4 : Nat) : Int) = 4 from rfl]
          · have d1 : decide ((last : Int) < (n' : Int)) = false := decide_eq_false (by omega)
            clear h2
            go_wp2_with fail
            refine (bmust_bad _ _).mono ?_
            rintro e w4 ⟨rfl, rfl⟩
            go_wp2_with fail
            refine ⟨rfl, HO2.out, ?_⟩
            rw [HE3.out]
            show Ending.panicked [{ v := bflt 4, recovered := false }] = Ending.panicked [{ v := bflt ((4 : Nat) : Int), recovered := false }]
            rw [show ((4 : Nat) : Int) = 4 from rfl]
end Go.Proofs.Ytocoohpekpkmkaa

/- The walk of the closure of board's reader.writes. -/
namespace Go.Proofs.Ytocoohpekpkmkaa
set_option linter.unusedVariables false
set_option linter.unusedSimpArgs false
set_option maxRecDepth 100000
open Go.RowKit
theorem tc_at16 {l : List Int} (h : l.length = 16) {i : Nat} (hi : i < 16) : (tc l)[i]? = some (.int .i64 (l.getD i 0)) := by
  unfold tc
  rw [List.getElem?_toArray, List.getElem?_map, List.getD_eq_getElem?_getD, List.getElem?_eq_getElem (by omega)]
  rfl
namespace Bo
/-- a tally's row -/
def stepT (p : Nat) (t : List Int) (bs : List UInt8) : Except Nat (List Int × List UInt8) :=
  match Vint.dec bs with
  | .error y => .error y
  | .ok (a, r) => match Vint.dec r with
    | .error y => .error y
    | .ok (c, r') => if 0 < a + c then .ok ((t.set p (a : Nat)).set (8 + p) (c : Nat), r') else .error 4
end Bo
/-- where the tally that is read stands -/
def JT (g sR X : Nat) (t : List Int) (w : World) : Prop := Blk w sR 129 #[.pointer (some ⟨g, 0, none⟩)] ∧ Blk w X 80 (tc t) ∧ t.length = 16
def FT (g X : Nat) : Nat → Prop := fun k => k = g ∨ k = X
theorem JT.grown {g sR X : Nat} {t : List Int} {w w' : World} (h : JT g sR X t w) (h1 : g < sR) (h2 : g < X) (hg : w.grownBy w' (some g)) : JT g sR X t w' :=
  ⟨h.1.grown hg (by intro e; injection e with e; omega), h.2.1.grown hg (by intro e; injection e with e; omega), h.2.2⟩
set_option maxHeartbeats 800000 in
theorem wr1_any (g sR X : Nat) (hs : g < sR) (hX : g < X) (hsX : sR ≠ X) (p : Nat) (t : List Int) (bs : List UInt8) (A : Option Addr) (n c : Nat) (w : World) (hp : p < 8) (hR : Rdr w g A n c bs 0) (hJ : JT g sR X t w) :
    Calls Try.prog 107 #[.int .i64 (p : Nat), .pointer (some ⟨sR, 0, none⟩), .pointer (some ⟨X, 0, none⟩)] w (StepB g (FT g X) (JT g sR X) (Bo.stepT p t bs) w) := by
  obtain ⟨kr, kx, ht⟩ := hJ
  have HT := Lib.hid ht
  have FG := Lib.hid (show FT g X g from .inl rfl)
  have FX := Lib.hid (show FT g X X from .inr rfl)
  obtain ⟨R, hRR⟩ : ∃ R, R = Bo.stepT p t bs := ⟨_, rfl⟩
  rw [← hRR]
  have HRR := Lib.hid hRR
  clear ht hRR
  go_enter Try.func107, Try.ntmps107
  go_wp2_with ((with_reducible refine wpList_ld (n := 1) rowRd30 kr rfl ?_ ?_); rotate_left; (rfl))
  refine (bnum_any g A n c bs w hR).mono ?_
  intro e w1 hB
  cases hd : Vint.dec bs with
  | error y =>
    obtain ⟨rfl, gg⟩ := hB.bad hd
    have HE := Lib.hid (show R = .error y by rw [HRR.out]; unfold Bo.stepT; rw [hd])
    have o1 := Only.of_grown (F := FT g X) gg FG.out
    clear hd hB gg
    go_wp2_with fail
    refine ⟨rfl, o1, ?_⟩
    rw [HE.out]
  | ok q0 =>
  obtain ⟨a1, r1⟩ := q0
  obtain ⟨rfl, ⟨A1, c1, R1⟩, gg⟩ := hB.good hd
  have o1 := Only.of_grown (F := FT g X) gg FG.out
  have kr1 := kr.grown gg (by intro e; injection e with e; omega)
  have kx1 := kx.grown gg (by intro e; injection e with e; omega)
  have cx := kx1.tcell (i := p) (by rw [HT.out]; omega)
  have fx := kx1.free p
  have b1 := (Vint.dec_ok hd).2
  have kx2 : Blk (w1.setCell ⟨X, p, none⟩ (.int .i64 (a1 : Nat))) X 80 (tc (t.set p (a1 : Nat))) := by
    have h := kx1.set_ p (.int .i64 (a1 : Nat))
    rwa [tc_set] at h
  have kr2 := kr1.far (p := ⟨X, p, none⟩) hsX (.int .i64 (a1 : Nat))
  have R2 : Rdr (w1.setCell ⟨X, p, none⟩ (.int .i64 (a1 : Nat))) g A1 _ c1 r1 0 := R1.below ((Below.refl (g + 1) w1).setCell (by show g + 1 ≤ X; omega) _)
  have o2 := o1.setCell (p := ⟨X, p, none⟩) (.inl FX.out) (.int .i64 (a1 : Nat))
  generalize t.getD p 0 = old at cx
  obtain ⟨w2, hw2⟩ : ∃ w2, w2 = w1.setCell ⟨X, p, none⟩ (.int .i64 (a1 : Nat)) := ⟨_, rfl⟩
  rw [← hw2] at kx2 kr2 R2 o2
  have HW2 := Lib.hid hw2
  have HD1 := Lib.hid hd
  clear hd hB gg kr kx kr1 R1 o1 hw2
  go_upto_region 1 with fail
  rw [← HW2.out]
  clear cx fx kx1
  go_wp2_with ((with_reducible refine wpList_ld (n := 1) rowRd30 kr2 rfl ?_ ?_); rotate_left; (rfl))
  refine (bnum_any g A1 _ c1 r1 w2 R2).mono ?_
  intro e w3 hB
  cases hd : Vint.dec r1 with
  | error y =>
    obtain ⟨rfl, gg⟩ := hB.bad hd
    have HE := Lib.hid (show R = .error y by rw [HRR.out]; unfold Bo.stepT; rw [HD1.out]; simp only [hd])
    have o3 := o2.trans (Only.of_grown (F := FT g X) gg FG.out) (Grows.refl _ _)
    clear hd hB gg o2
    go_wp2_with fail
    refine ⟨rfl, o3, ?_⟩
    rw [HE.out]
  | ok q1 =>
  obtain ⟨a2, r2⟩ := q1
  obtain ⟨rfl, ⟨A2, c2, R3⟩, gg⟩ := hB.good hd
  have o3 := o2.trans (Only.of_grown (F := FT g X) gg FG.out) (Grows.refl _ _)
  have kr3 := kr2.grown gg (by intro e; injection e with e; omega)
  have kx3 := kx2.grown gg (by intro e; injection e with e; omega)
  have b2 := (Vint.dec_ok hd).2
  obtain ⟨t1, ht1⟩ : ∃ t1, t1 = t.set p (a1 : Nat) := ⟨_, rfl⟩
  have l1 : t1.length = 16 := by rw [ht1, List.length_set]; exact HT.out
  rw [← ht1] at kx3
  have HT1 := Lib.hid ht1
  have cx := kx3.tcell (i := 8 + p) (by rw [l1]; omega)
  have fx := kx3.free (8 + p)
  have kx4 : Blk (w3.setCell ⟨X, 8 + p, none⟩ (.int .i64 (a2 : Nat))) X 80 (tc (t1.set (8 + p) (a2 : Nat))) := by
    have h := kx3.set_ (8 + p) (.int .i64 (a2 : Nat))
    rwa [tc_set] at h
  have kr4 := kr3.far (p := ⟨X, 8 + p, none⟩) hsX (.int .i64 (a2 : Nat))
  have R4 : Rdr (w3.setCell ⟨X, 8 + p, none⟩ (.int .i64 (a2 : Nat))) g A2 _ c2 r2 0 := R3.below ((Below.refl (g + 1) w3).setCell (by show g + 1 ≤ X; omega) _)
  have o4 := o3.setCell (p := ⟨X, 8 + p, none⟩) (.inl FX.out) (.int .i64 (a2 : Nat))
  obtain ⟨w4, hw4⟩ : ∃ w4, w4 = w3.setCell ⟨X, 8 + p, none⟩ (.int .i64 (a2 : Nat)) := ⟨_, rfl⟩
  rw [← hw4] at kx4 kr4 R4 o4
  have HW4 := Lib.hid hw4
  have HD2 := Lib.hid hd
  have HL1 := Lib.hid l1
  generalize t1.getD (8 + p) 0 = old2 at cx
  clear hd hB gg kr2 kx2 o2 R2 kr3 R3 o3 hw4 ht1 l1
  go_upto_region 2 with fail
  rw [← HW4.out]
  clear cx fx kx3
  obtain ⟨t2, ht2⟩ : ∃ t2, t2 = t1.set (8 + p) (a2 : Nat) := ⟨_, rfl⟩
  rw [← ht2] at kx4
  have l2 : t2.length = 16 := by rw [ht2, List.length_set]; exact HL1.out
  have ca0 := Lib.hid (show (tc t2)[p]? = some (.int .i64 (a1 : Nat)) by
    rw [tc_at16 l2 (by omega), ht2, HT1.out]
    congr 2
    rw [List.getD_eq_getElem?_getD, List.getElem?_set_ne (by omega), List.getElem?_set_self (by rw [HT.out]; omega)]
    rfl)
  have cb0 := Lib.hid (show (tc t2)[8 + p]? = some (.int .i64 (a2 : Nat)) by
    rw [tc_at16 l2 (by omega), ht2]
    congr 2
    rw [List.getD_eq_getElem?_getD, List.getElem?_set_self (by rw [HL1.out]; omega)]
    rfl)
  have kx := kx4
  have hp8 : (p : Int) < 8 := by omega
  have HSUM := Lib.hid (show IntKind.i64.wrap ((a1 : Int) + (a2 : Int)) = ((a1 + a2 : Nat) : Int) by unfold Vint.top at b1 b2; rw [IntWalk.i64_in _ (by omega)]; omega)
  obtain ⟨okb, hok⟩ : ∃ okb, decide ((0 : Int) < (a1 : Int) + (a2 : Int)) = okb := ⟨_, rfl⟩
  have HOK := Lib.hid hok
  have HT2 := Lib.hid ht2
  have HL2 := Lib.hid l2
  clear kx4 ht2 l2 hok b1 b2
  refine wp_region_tailF 8 10 (fun L v w => v 0 = .int .i64 (p : Nat) ∧ v 2 = .pointer (some ⟨X, 0, none⟩) ∧ Below w4.heap.size w4 w ∧ (L 0 = true → v 14 = .int .i64 (p : Nat)) ∧ (L 1 = true → v 15 = .pointer (some ⟨X, 0, none⟩)) ∧ (L 2 = true → v 16 = .pointer (some ⟨X, p, none⟩)) ∧ (L 3 = true → v 17 = .int .i64 (a1 : Nat)) ∧ (L 4 = true → v 18 = .int .i64 (p : Nat)) ∧ (L 5 = true → v 19 = .pointer (some ⟨X, 8, none⟩)) ∧ (L 6 = true → v 20 = .pointer (some ⟨X, 8 + p, none⟩)) ∧ (L 7 = true → v 21 = .int .i64 (a2 : Nat)) ∧ (L 8 = true → v 22 = .int .i64 ((a1 + a2 : Nat) : Int)) ∧ (L 9 = true → v 23 = .bool okb)) [14, 15, 16, 17, 18, 19, 20, 21, 22, 23] (by kernel_rfl) (by kernel_rfl) (by kernel_rfl) (by kernel_rfl) (by kernel_rfl) (by kernel_rfl) ?h0 ?hst ?hend
  case h0 =>
    intro L h0
    have h0 : ∀ i, i < 10 → L i = false := h0
    exact ⟨rfl, rfl, (Below.refl _ _).drew, offF h0 (i := 0) (by decide), offF h0 (i := 1) (by decide), offF h0 (i := 2) (by decide), offF h0 (i := 3) (by decide), offF h0 (i := 4) (by decide), offF h0 (i := 5) (by decide), offF h0 (i := 6) (by decide), offF h0 (i := 7) (by decide), offF h0 (i := 8) (by decide), offF h0 (i := 9) (by decide)⟩
  case hst =>
    show FactSteps _ _ _ _ [0, 1, 2, 3, 4, 5, 6, 7, 8, 9]
    refine @FactSteps.cons _ _ _ _ 0 _ [] _ rfl (by kernel_rfl) ?s0 ?_
    rotate_left
    refine @FactSteps.cons _ _ _ _ 1 _ [] _ rfl (by kernel_rfl) ?s1 ?_
    rotate_left
    refine @FactSteps.cons _ _ _ _ 2 _ [1, 0] _ rfl (by kernel_rfl) ?s2 ?_
    rotate_left
    refine @FactSteps.cons _ _ _ _ 3 _ [2] _ rfl (by kernel_rfl) ?s3 ?_
    rotate_left
    refine @FactSteps.cons _ _ _ _ 4 _ [] _ rfl (by kernel_rfl) ?s4 ?_
    rotate_left
    refine @FactSteps.cons _ _ _ _ 5 _ [] _ rfl (by kernel_rfl) ?s5 ?_
    rotate_left
    refine @FactSteps.cons _ _ _ _ 6 _ [5, 4] _ rfl (by kernel_rfl) ?s6 ?_
    rotate_left
    refine @FactSteps.cons _ _ _ _ 7 _ [6] _ rfl (by kernel_rfl) ?s7 ?_
    rotate_left
    refine @FactSteps.cons _ _ _ _ 8 _ [3, 7] _ rfl (by kernel_rfl) ?s8 ?_
    rotate_left
    refine @FactSteps.cons _ _ _ _ 9 _ [8] _ rfl (by kernel_rfl) ?s9 ?_
    rotate_left
    exact FactSteps.nil
    case s0 =>
      rintro L a v w hv hg hL hd hcl ⟨e0, e2, hb, f0, f1, f2, f3, f4, f5, f6, f7, f8, f9⟩ K hK
      refine step_do rfl ?_
      clear hv
      go_simp
      exact hK.out _ _ ⟨e0, e2, hb, fun _ => rfl, f1, f2, f3, f4, f5, f6, f7, f8, f9⟩
    case s1 =>
      rintro L a v w hv hg hL hd hcl ⟨e0, e2, hb, f0, f1, f2, f3, f4, f5, f6, f7, f8, f9⟩ K hK
      refine step_do rfl ?_
      clear hv
      go_simp
      exact hK.out _ _ ⟨e0, e2, hb, f0, fun _ => rfl, f2, f3, f4, f5, f6, f7, f8, f9⟩
    case s2 =>
      rintro L a v w hv hg hL hd hcl ⟨e0, e2, hb, f0, f1, f2, f3, f4, f5, f6, f7, f8, f9⟩ K hK
      have g0 := f0 (hd 0 (by decide))
      have g1 := f1 (hd 1 (by decide))
      refine step_do rfl ?_
      clear hv
      go_simp
      exact hK.out _ _ ⟨e0, e2, hb, f0, f1, fun _ => rfl, f3, f4, f5, f6, f7, f8, f9⟩
    case s3 =>
      rintro L a v w hv hg hL hd hcl ⟨e0, e2, hb, f0, f1, f2, f3, f4, f5, f6, f7, f8, f9⟩ K hK
      have g2 := f2 (hd 2 (by decide))
      have ca : w.cell? ⟨X, p, none⟩ = some (.int .i64 (a1 : Nat)) := (kx.below hb kx.lt).cell _ |>.trans ca0.out
      refine step_do rfl ?_
      clear hv
      go_simp
      exact hK.out _ _ ⟨e0, e2, hb, f0, f1, f2, fun _ => rfl, f4, f5, f6, f7, f8, f9⟩
    case s4 =>
      rintro L a v w hv hg hL hd hcl ⟨e0, e2, hb, f0, f1, f2, f3, f4, f5, f6, f7, f8, f9⟩ K hK
      refine step_do rfl ?_
      clear hv
      go_simp
      exact hK.out _ _ ⟨e0, e2, hb, f0, f1, f2, f3, fun _ => rfl, f5, f6, f7, f8, f9⟩
    case s5 =>
      rintro L a v w hv hg hL hd hcl ⟨e0, e2, hb, f0, f1, f2, f3, f4, f5, f6, f7, f8, f9⟩ K hK
      refine step_do rfl ?_
      clear hv
      go_simp
      exact hK.out _ _ ⟨e0, e2, hb, f0, f1, f2, f3, f4, fun _ => rfl, f6, f7, f8, f9⟩
    case s6 =>
      rintro L a v w hv hg hL hd hcl ⟨e0, e2, hb, f0, f1, f2, f3, f4, f5, f6, f7, f8, f9⟩ K hK
      have g4 := f4 (hd 4 (by decide))
      have g5 := f5 (hd 5 (by decide))
      refine step_do rfl ?_
      clear hv
      go_simp
      exact hK.out _ _ ⟨e0, e2, hb, f0, f1, f2, f3, f4, f5, fun _ => rfl, f7, f8, f9⟩
    case s7 =>
      rintro L a v w hv hg hL hd hcl ⟨e0, e2, hb, f0, f1, f2, f3, f4, f5, f6, f7, f8, f9⟩ K hK
      have g6 := f6 (hd 6 (by decide))
      have cb : w.cell? ⟨X, 8 + p, none⟩ = some (.int .i64 (a2 : Nat)) := (kx.below hb kx.lt).cell _ |>.trans cb0.out
      refine step_do rfl ?_
      clear hv
      go_simp
      exact hK.out _ _ ⟨e0, e2, hb, f0, f1, f2, f3, f4, f5, f6, fun _ => rfl, f8, f9⟩
    case s8 =>
      rintro L a v w hv hg hL hd hcl ⟨e0, e2, hb, f0, f1, f2, f3, f4, f5, f6, f7, f8, f9⟩ K hK
      have g3 := f3 (hd 3 (by decide))
      have g7 := f7 (hd 7 (by decide))
      have hw := HSUM.out
      refine step_do rfl ?_
      clear hv
      go_simp
      exact hK.out _ _ ⟨e0, e2, hb, f0, f1, f2, f3, f4, f5, f6, f7, fun _ => rfl, f9⟩
    case s9 =>
      rintro L a v w hv hg hL hd hcl ⟨e0, e2, hb, f0, f1, f2, f3, f4, f5, f6, f7, f8, f9⟩ K hK
      have g8 := f8 (hd 8 (by decide))
      have hk := HOK.out
      refine step_do rfl ?_
      clear hv
      go_simp
      exact hK.out _ _ ⟨e0, e2, hb, f0, f1, f2, f3, f4, f5, f6, f7, f8, fun _ => rfl⟩
  case hend =>
  rintro L v w5 hall ⟨e0, e2, hb, f0, f1, f2, f3, f4, f5, f6, f7, f8, f9⟩
  have hL : ∀ i, i < 10 → L i = true := hall
  have f0 := f0 (hL 0 (by decide))
  have f1 := f1 (hL 1 (by decide))
  have f2 := f2 (hL 2 (by decide))
  have f3 := f3 (hL 3 (by decide))
  have f4 := f4 (hL 4 (by decide))
  have f5 := f5 (hL 5 (by decide))
  have f6 := f6 (hL 6 (by decide))
  have f7 := f7 (hL 7 (by decide))
  have f8 := f8 (hL 8 (by decide))
  have f9 := f9 (hL 9 (by decide))
  simp only [finA, List.foldl_cons, List.foldl_nil, Act.put, List.setIfInBounds_toArray, List.set_cons_succ, List.set_cons_zero, f0, f1, f2, f3, f4, f5, f6, f7, f8, f9]
  show wpList _ _ _ [_] _ _
  have kr5 := kr4.below hb kr4.lt
  have kx5 := kx.below hb kx.lt
  have R5 := R4.below (hb.mono (by have := R4.lt; omega))
  have o5 := o4.trans (Only.of_below (FT g X) hb) (Grows.refl _ _)
  clear e0 e2 f0 f1 f2 f3 f4 f5 f6 f7 f8 f9 hL hall hb
  cases okb
  case true =>
    have HE := Lib.hid (show R = .ok (t2, r2) by rw [HRR.out]; unfold Bo.stepT; rw [HD1.out]; simp only [HD2.out]; rw [if_pos (by have := of_decide_eq_true HOK.out; omega), HT2.out, HT1.out])
    go_wp2_with fail
    refine (bmust_ok _ _).mono ?_
    rintro e w6 ⟨rfl, rfl⟩
    go_wp2_with fail
    go_end0
    refine ⟨o5, ?_⟩
    rw [HE.out]
    exact ⟨rfl, ⟨A2, c2, R5⟩, kr5, kx5, HL2.out⟩
  case false =>
    have HE := Lib.hid (show R = .error 4 by rw [HRR.out]; unfold Bo.stepT; rw [HD1.out]; simp only [HD2.out]; rw [if_neg (by have := of_decide_eq_false HOK.out; omega)])
    go_wp2_with fail
    refine (bmust_bad _ _).mono ?_
    rintro e w6 ⟨rfl, rfl⟩
    go_wp2_with fail
    refine ⟨rfl, o5, ?_⟩
    rw [HE.out]
    show Ending.panicked [{ v := bflt 4, recovered := false }] = Ending.panicked [{ v := bflt ((4 : Nat) : Int), recovered := false }]
    rw [show ((4 : Nat) : Int) = 4 from rfl]
end Go.Proofs.Ytocoohpekpkmkaa

/- The walk of board's reader.writes. -/
namespace Go.Proofs.Ytocoohpekpkmkaa
set_option linter.unusedVariables false
set_option linter.unusedSimpArgs false
set_option maxRecDepth 100000
open Go.RowKit
theorem only_grownBy {g : Nat} {w w' : World} (h : Only (fun k => k = g) w w') : w.grownBy w' (some g) := ⟨h.os, h.tape, h.output, h.size, fun k hk hne => h.block k hk (fun e => hne (by rw [e]))⟩
/-- what reading a value leaves, the value told by f -/
def ReadB {σ : Type} (g : Nat) (f : σ → World → Value → Prop) (R : Except Nat (σ × List UInt8)) (w : World) (e : Ending) (w' : World) : Prop :=
  w.grownBy w' (some g) ∧ match R with
    | .ok (st', r) => ∃ v, e = .returned v ∧ f st' w' v ∧ ∃ A c, Rdr w' g A r.length c r 0
    | .error y => e = .panicked [{ v := bflt (y : Nat), recovered := false }]
theorem ReadB.good {σ : Type} {g : Nat} {f : σ → World → Value → Prop} {R : Except Nat (σ × List UInt8)} {w w' : World} {e : Ending} (h : ReadB g f R w e w') {st' : σ} {r : List UInt8} (hr : R = .ok (st', r)) :
    ∃ v, e = .returned v ∧ f st' w' v ∧ (∃ A c, Rdr w' g A r.length c r 0) ∧ w.grownBy w' (some g) := by
  subst hr
  obtain ⟨h1, v, h2, h3, h4⟩ := h
  exact ⟨v, h2, h3, h4, h1⟩
theorem ReadB.bad {σ : Type} {g : Nat} {f : σ → World → Value → Prop} {R : Except Nat (σ × List UInt8)} {w w' : World} {e : Ending} (h : ReadB g f R w e w') {y : Nat} (hr : R = .error y) :
    e = .panicked [{ v := bflt (y : Nat), recovered := false }] ∧ w.grownBy w' (some g) := by
  subst hr
  exact ⟨h.2, h.1⟩
def TalV (t : List Int) (_ : World) (v : Value) : Prop := v = .agg (tc t) ∧ t.length = 16
set_option maxHeartbeats 800000 in
theorem writes_any (g : Nat) (A : Option Addr) (n c : Nat) (bs : List UInt8) (w : World) (hR : Rdr w g A n c bs 0) :
    Calls Try.prog 66 #[.agg #[.pointer (some ⟨g, 0, none⟩)]] w (ReadB g TalV (Bo.rows Bo.stepT Tally.zero bs) w) := by
  have hmf : ∀ (fn : Fn) (first cap : Array Value) (w : World), (Instr.makeFunc fn first cap).run Try.prog w = .ok (.func fn first cap) w := fun _ _ _ _ => rfl
  have hck : ∀ args w, (callFunc 107 args).run Try.prog w = .ok (.enter 107 args) w := by
    intro args w
    simp [go_sem]
  obtain ⟨s, hs⟩ : ∃ s, s = w.heap.size := ⟨_, rfl⟩
  have hgs : g < s := by rw [hs]; exact hR.lt
  obtain ⟨R, hRR⟩ : ∃ R, R = Bo.rows Bo.stepT Tally.zero bs := ⟨_, rfl⟩
  have HRR := Lib.hid hRR
  have HS := Lib.hid hs
  have HR := Lib.hid hR
  rw [← hRR]
  clear hRR hR hs
  go_enter Try.func66, Try.ntmps66
  go_upto_region 1 with fail
  refine nameW ?_
  intro W hW
  rw [← HS.out]
  have ks : Blk W s 129 #[.pointer (some ⟨g, 0, none⟩)] := by rw [hW, HS.out]; exact (Blk.new _ _ _).alloc _
  have kx : Blk W (s + 1) 80 (tc Tally.zero) := by
    have h := Blk.new (w.alloc (.cells #[.pointer (some ⟨g, 0, none⟩)] 129)) 80 (tc Tally.zero)
    rw [zero_tc] at h
    rw [zero_tc, hW, HS.out]
    simpa using h
  have hBW : Below w.heap.size w W := by rw [hW]; exact ((Below.refl _ _).alloc (Nat.le_refl _) _).alloc (by simp) _
  have hRW : Rdr W g A n c bs 0 := HR.out.below (hBW.mono (by have := HR.out.lt; omega))
  have hrows := rows_any Bo.stepT (JT g s (s + 1)) g (FT g (s + 1)) (show FT g (s + 1) g from .inl rfl) 107 #[.pointer (some ⟨s, 0, none⟩), .pointer (some ⟨s + 1, 0, none⟩)] hck
    (fun st w w' h hg => h.grown hgs (by omega) hg)
    (fun p st bs A n c w hp hr hj _ => wr1_any g s (s + 1) hgs (by omega) (by omega) p st bs A n c w hp hr hj)
    A n c bs Tally.zero W hRW ⟨ks, kx, rfl⟩ (fun k hk => by
      rcases hk with rfl | rfl
      · exact hRW.lt
      · exact kx.lt)
  have HROWS := Lib.hid hrows
  have HBW := Lib.hid hBW
  clear hW hrows hBW kx
  go_wp2_with ((with_reducible refine wpList_ld (n := 1) rowRd30 ks rfl ?_ ?_); rotate_left; (rfl))
  refine HROWS.out.mono ?_
  intro e w1 hB
  have og : ∀ w', Only (FT g (s + 1)) W w' → w.grownBy w' (some g) := fun w' o => only_grownBy ((Only.of_below _ HBW.out).trans o (fun k hk => by
    rcases hk with h | h
    · exact .inl h
    · exact .inr (by have := HS.out; omega)))
  have OG := Lib.hid og
  clear og HROWS
  rw [← HRR.out] at hB
  cases hr : R with
  | error y =>
    obtain ⟨rfl, o⟩ := hB.bad hr
    have o1 := OG.out _ o
    clear hB o
    subst hr
    go_wp2_with fail
    exact ⟨rfl, o1, rfl⟩
  | ok p =>
    obtain ⟨t, r⟩ := p
    obtain ⟨rfl, ⟨A1, c1, R1⟩, ⟨_, kx, ht⟩, o⟩ := hB.good hr
    have o1 := OG.out _ o
    have HT := Lib.hid ht
    have HZ := Lib.hid (show (tc t).size = 16 by rw [tc_size, ht])
    clear hB o ht
    subst hr
    go_wp2_with first
      | ((with_reducible refine wpList_ld rowT kx HZ.out ?_ ?_); rotate_left; (rfl))
      | ((with_reducible refine wpList_st rowT kx HZ.out HZ.out (tc_one t) ?_ ?_ ?_); rotate_left; (rfl); (rfl); intro w2 k2 g2 z2)
    have R2 : Rdr w2 g A1 r.length c1 r 0 := R1.below (only_Below g2 (by omega) (by have := R1.lt; omega))
    have o2 : w.grownBy w2 (some g) := only_grownBy ((Only.mk o1.os o1.tape o1.output o1.size (fun k hk hn => o1.block k hk (fun e => hn (by injection e)))).trans (Only.of_grown (F := fun k => k = s + 1) g2 rfl) (fun k hk => .inr (by have := HS.out; omega)))
    exact bodyPost_ret (v := .agg (tc t)) (results_blk rfl rowT k2 HZ.out rfl) rfl ⟨o2, _, rfl, ⟨rfl, HT.out⟩, A1, c1, R2⟩
end Go.Proofs.Ytocoohpekpkmkaa

/- The walk of the closure of board's Get: a plan is read. -/
namespace Go.Proofs.Ytocoohpekpkmkaa
set_option linter.unusedVariables false
set_option linter.unusedSimpArgs false
set_option maxRecDepth 100000
open Go.RowKit
open Reg (La Vl)
namespace Bo
/-- a plan's row -/
def stepP (p : Nat) (l : List La) (bs : List UInt8) : Except Nat (List La × List UInt8) :=
  match Vint.dec bs with
  | .error y => .error y
  | .ok (a, r) => match Vint.dec r with
    | .error y => .error y
    | .ok (c, r') => match Vint.dec r' with
      | .error y => .error y
      | .ok (d, r'') => .ok (l.set p ((a : Nat), (c : Nat), (d : Nat)), r'')
/-- a board whose plans are read -/
def pb (t : List Int) (l : List La) : Bd := ⟨t, l, [0, 0, 0, 0, 0, 0, 0, 0], []⟩
end Bo
def JP (g sR Y : Nat) (t : List Int) (l : List La) (w : World) : Prop := Blk w sR 129 #[.pointer (some ⟨g, 0, none⟩)] ∧ Blk w Y 83 (bc (Bo.pb t l) (.slice none 0 0)) ∧ Bo.Shaped (Bo.pb t l)
theorem JP.grown {g sR Y : Nat} {t : List Int} {l : List La} {w w' : World} (h : JP g sR Y t l w) (h1 : g < sR) (h2 : g < Y) (hg : w.grownBy w' (some g)) : JP g sR Y t l w' :=
  ⟨h.1.grown hg (by intro e; injection e with e; omega), h.2.1.grown hg (by intro e; injection e with e; omega), h.2.2⟩
set_option maxHeartbeats 800000 in
theorem get1_any (g sR Y : Nat) (hs : g < sR) (hY : g < Y) (hsY : sR ≠ Y) (t : List Int) (p : Nat) (l : List La) (bs : List UInt8) (A : Option Addr) (n c : Nat) (w : World) (hp : p < 8) (hR : Rdr w g A n c bs 0) (hJ : JP g sR Y t l w) :
    Calls Try.prog 68 #[.int .i64 (p : Nat), .pointer (some ⟨sR, 0, none⟩), .pointer (some ⟨Y, 0, none⟩)] w (StepB g (FT g Y) (JP g sR Y t) (Bo.stepP p l bs) w) := by
  obtain ⟨kr, ky, hsh⟩ := hJ
  have HSH := Lib.hid hsh
  have FG := Lib.hid (show FT g Y g from .inl rfl)
  have FY := Lib.hid (show FT g Y Y from .inr rfl)
  have FGY := Lib.hid fun (w w' : World) (h : w.grownBy w' (some g)) => (Only.of_grown h (.inl rfl) : Only (FT g Y) w w')
  obtain ⟨R, hRR⟩ : ∃ R, R = Bo.stepP p l bs := ⟨_, rfl⟩
  rw [← hRR]
  have HRR := Lib.hid hRR
  have hp8 : (p : Int) < 8 := by omega
  clear hsh hRR
  go_enter Try.func68, Try.ntmps68
  go_wp2_with ((with_reducible refine wpList_ld (n := 1) rowRd30 kr rfl ?_ ?_); rotate_left; (rfl))
  refine (bnum_any g A n c bs w hR).mono ?_
  intro e w1 hB
  cases hd : Vint.dec bs with
  | error y =>
    obtain ⟨rfl, gg⟩ := hB.bad hd
    have HE := Lib.hid (show R = .error y by rw [HRR.out]; unfold Bo.stepP; rw [hd])
    have o1 := FGY.out _ _ gg
    clear hd hB gg
    go_wp2_with fail
    refine ⟨rfl, o1, ?_⟩
    rw [HE.out]
  | ok q0 =>
  obtain ⟨a1, r1⟩ := q0
  obtain ⟨rfl, ⟨A1, c1, R1⟩, gg⟩ := hB.good hd
  have o1 := FGY.out _ _ gg
  have kr1 := kr.grown gg (by intro e; injection e with e; omega)
  have ky1 := ky.grown gg (by intro e; injection e with e; omega)
  have HD1 := Lib.hid hd
  clear hd hB gg kr ky
  go_upto_region 1 with ((with_reducible refine wpList_st (cs := #[.int .i64 (a1 : Nat), .int .i64 0, .int .i64 0]) rowLa (Blk.new _ _ _) (th_size _ _ _) ?_ (th_one _ _ _) ?_ ?_ ?_); (rfl); rotate_left; (rfl); (rfl); intro w2 kq g2 z2)
  obtain ⟨X, hX⟩ : ∃ X, X = w1.heap.size := ⟨_, rfl⟩
  rw [← hX] at kq ⊢
  have bq : Below w1.heap.size w1 w2 := new_below g2
  have kr2 := kr1.below bq kr1.lt
  have ky2 := ky1.below bq ky1.lt
  have R2 := R1.below (bq.mono (by have := R1.lt; omega))
  have o2 := o1.trans (Only.of_below (FT g Y) bq) (Grows.refl _ _)
  have hXg : g < X := by rw [hX]; exact R1.lt
  have hXY : Y < X := by rw [hX]; exact ky1.lt
  have hXs : sR < X := by rw [hX]; exact kr1.lt
  have hXw : w.heap.size ≤ X := by rw [hX]; exact o1.size
  clear g2 z2 bq kr1 ky1 R1 o1 hX
  go_wp2_with ((with_reducible refine wpList_ld (n := 1) rowRd30 kr2 rfl ?_ ?_); rotate_left; (rfl))
  refine (bnum_any g A1 _ c1 r1 w2 R2).mono ?_
  intro e w3 hB
  cases hd : Vint.dec r1 with
  | error y =>
    obtain ⟨rfl, gg⟩ := hB.bad hd
    have HE := Lib.hid (show R = .error y by rw [HRR.out]; unfold Bo.stepP; rw [HD1.out]; simp only [hd])
    have o3 := o2.trans (FGY.out _ _ gg) (Grows.refl _ _)
    clear hd hB gg
    go_wp2_with fail
    refine ⟨rfl, o3, ?_⟩
    rw [HE.out]
  | ok q1 =>
  obtain ⟨a2, r2⟩ := q1
  obtain ⟨rfl, ⟨A2, c2, R3⟩, gg⟩ := hB.good hd
  have o3 := o2.trans (FGY.out _ _ gg) (Grows.refl _ _)
  have kr3 := kr2.grown gg (by intro e; injection e with e; omega)
  have ky3 := ky2.grown gg (by intro e; injection e with e; omega)
  have kq3 := kq.grown gg (by intro e; injection e with e; omega)
  have c1' := kq3.cell 1
  have f1 := kq3.free 1
  have kq4 : Blk (w3.setCell ⟨X, 1, none⟩ (.int .i64 (a2 : Nat))) X 62 #[.int .i64 (a1 : Nat), .int .i64 (a2 : Nat), .int .i64 0] := kq3.set_ 1 (.int .i64 (a2 : Nat))
  have kr4 := kr3.far (p := ⟨X, 1, none⟩) (by show sR ≠ X; omega) (.int .i64 (a2 : Nat))
  have ky4 := ky3.far (p := ⟨X, 1, none⟩) (by show Y ≠ X; omega) (.int .i64 (a2 : Nat))
  have R4 : Rdr (w3.setCell ⟨X, 1, none⟩ (.int .i64 (a2 : Nat))) g A2 _ c2 r2 0 := R3.below ((Below.refl (g + 1) w3).setCell (by show g + 1 ≤ X; omega) _)
  have o4 := o3.setCell (p := ⟨X, 1, none⟩) (.inr hXw) (.int .i64 (a2 : Nat))
  obtain ⟨w4, hw4⟩ : ∃ w4, w4 = w3.setCell ⟨X, 1, none⟩ (.int .i64 (a2 : Nat)) := ⟨_, rfl⟩
  rw [← hw4] at kq4 kr4 ky4 R4 o4
  have HW4 := Lib.hid hw4
  have HD2 := Lib.hid hd
  clear hd hB gg kr2 ky2 kq R2 o2 kr3 ky3 R3 o3 hw4
  go_upto_region 2 with fail
  rw [← HW4.out]
  clear c1' f1 kq3
  go_wp2_with ((with_reducible refine wpList_ld (n := 1) rowRd30 kr4 rfl ?_ ?_); rotate_left; (rfl))
  refine (bnum_any g A2 _ c2 r2 w4 R4).mono ?_
  intro e w5 hB
  cases hd : Vint.dec r2 with
  | error y =>
    obtain ⟨rfl, gg⟩ := hB.bad hd
    have HE := Lib.hid (show R = .error y by rw [HRR.out]; unfold Bo.stepP; rw [HD1.out]; simp only [HD2.out, hd])
    have o5 := o4.trans (FGY.out _ _ gg) (Grows.refl _ _)
    clear hd hB gg
    go_wp2_with fail
    refine ⟨rfl, o5, ?_⟩
    rw [HE.out]
  | ok q2 =>
  obtain ⟨a3, r3⟩ := q2
  obtain ⟨rfl, ⟨A3, c3, R5⟩, gg⟩ := hB.good hd
  have HE := Lib.hid (show R = .ok (l.set p ((a1 : Nat), (a2 : Nat), (a3 : Nat)), r3) by rw [HRR.out]; unfold Bo.stepP; rw [HD1.out]; simp only [HD2.out, hd])
  have o5 := o4.trans (FGY.out _ _ gg) (Grows.refl _ _)
  have kr5 := kr4.grown gg (by intro e; injection e with e; omega)
  have ky5 := ky4.grown gg (by intro e; injection e with e; omega)
  have kq5 := kq4.grown gg (by intro e; injection e with e; omega)
  have c2' := kq5.cell 2
  have f2 := kq5.free 2
  have kq6 : Blk (w5.setCell ⟨X, 2, none⟩ (.int .i64 (a3 : Nat))) X 62 #[.int .i64 (a1 : Nat), .int .i64 (a2 : Nat), .int .i64 (a3 : Nat)] := kq5.set_ 2 (.int .i64 (a3 : Nat))
  have kr6 := kr5.far (p := ⟨X, 2, none⟩) (by show sR ≠ X; omega) (.int .i64 (a3 : Nat))
  have ky6 := ky5.far (p := ⟨X, 2, none⟩) (by show Y ≠ X; omega) (.int .i64 (a3 : Nat))
  have R6 : Rdr (w5.setCell ⟨X, 2, none⟩ (.int .i64 (a3 : Nat))) g A3 _ c3 r3 0 := R5.below ((Below.refl (g + 1) w5).setCell (by show g + 1 ≤ X; omega) _)
  have o6 := o5.setCell (p := ⟨X, 2, none⟩) (.inr hXw) (.int .i64 (a3 : Nat))
  obtain ⟨w6, hw6⟩ : ∃ w6, w6 = w5.setCell ⟨X, 2, none⟩ (.int .i64 (a3 : Nat)) := ⟨_, rfl⟩
  rw [← hw6] at kq6 kr6 ky6 R6 o6
  have HW6 := Lib.hid hw6
  clear hd hB gg kr4 ky4 kq4 R4 o4 kr5 ky5 R5 o5 hw6
  go_upto_region 3 with fail
  rw [← HW6.out]
  clear c2' f2 kq5
  have hth := ky6.there_ (o := 16 + p * 3) (n := 3) (by rw [bc_size HSH.out]; omega)
  go_wp2_with first
    | ((with_reducible refine wpList_ld rowLa kq6 (th_size _ _ _) ?_ ?_); rotate_left; (rfl))
    | ((with_reducible refine wpList_str (cs := #[.int .i64 (a1 : Nat), .int .i64 (a2 : Nat), .int .i64 (a3 : Nat)]) rowLa hth (th_size _ _ _) (th_one _ _ _) ?_ ?_ ?_); rotate_left; (rfl); (rfl); intro w9 hw9)
  go_end0
  have gS : w6.grownBy (w6.setCells Y (16 + p * 3) [.int .i64 (a1 : Nat), .int .i64 (a2 : Nat), .int .i64 (a3 : Nat)]) (some Y) := cells_grown w6 Y (16 + p * 3) [.int .i64 (a1 : Nat), .int .i64 (a2 : Nat), .int .i64 (a3 : Nat)]
  have hw9 : w9 = w6.setCells Y (16 + p * 3) [.int .i64 (a1 : Nat), .int .i64 (a2 : Nat), .int .i64 (a3 : Nat)] := hw9
  rw [← hw9] at gS
  have ky9 := ky6.setP HSH.out hp ((a1 : Nat), (a2 : Nat), (a3 : Nat))
  have ky9 : Blk w9 Y 83 (bc (Bo.pb t (l.set p ((a1 : Nat), (a2 : Nat), (a3 : Nat)))) (.slice none 0 0)) := by rw [hw9]; exact ky9
  have hB9 : Below (g + 1) w6 w9 := only_Below gS (by omega) (by have := R6.lt; omega)
  have R9 := R6.below hB9
  have kr9 := kr6.grown gS (by intro e; injection e with e; exact hsY e.symm)
  have o9 := o6.trans (Only.of_grown (F := FT g Y) gS FY.out) (Grows.refl _ _)
  clear gS
  subst hw9
  refine ⟨o9, ?_⟩
  rw [HE.out]
  exact ⟨rfl, ⟨A3, c3, R9⟩, kr9, ky9, HSH.out.t, by show (l.set p _).length = 8; rw [List.length_set]; exact HSH.out.p, HSH.out.u⟩
end Go.Proofs.Ytocoohpekpkmkaa

/- The walk of board's reader.notes. -/
namespace Go.Proofs.Ytocoohpekpkmkaa
set_option linter.unusedVariables false
set_option linter.unusedSimpArgs false
set_option maxRecDepth 100000
open Go.RowKit
open Reg (La Vl)
namespace Bo
def seenE : Nat → Nat → List Int → List UInt8 → Except Nat (List Int × List UInt8)
  | 0, _, U, bs => .ok (U, bs)
  | k + 1, i, U, bs => match Vint.dec bs with
    | .error y => .error y
    | .ok (x, r) => seenE k (i + 1) (U.set i (x : Nat)) r
def valE (bs : List UInt8) : Except Nat (Vl × List UInt8) :=
  match Vint.dec bs with
  | .error y => .error y
  | .ok (a, r) => match Vint.dec r with
    | .error y => .error y
    | .ok (c, r') => match Vint.dec r' with
      | .error y => .error y
      | .ok (d, r'') => .ok (((a : Nat), (c : Nat), (d : Nat)), r'')
def valsE : Nat → List Vl → List UInt8 → Except Nat (List Vl × List UInt8)
  | 0, l, bs => .ok (l, bs)
  | k + 1, l, bs => match valE bs with
    | .error y => .error y
    | .ok (v, r) => valsE k (l ++ [v]) r
def notesE (bs : List UInt8) : Except Nat ((List Int × List Vl) × List UInt8) :=
  match seenE 8 0 [0, 0, 0, 0, 0, 0, 0, 0] bs with
  | .error y => .error y
  | .ok (U, r) => match Vint.dec r with
    | .error y => .error y
    | .ok (n, r') => if n ≤ 8 then match valsE n [] r' with
        | .error y => .error y
        | .ok (l, r'') => .ok ((U, l), r'')
      else .error 6
end Bo
def ManV (p : List Int × List Vl) (w : World) (v : Value) : Prop := p.1.length = 8 ∧ p.2.length ≤ 8 ∧ ∃ A m c, v = .agg (uc p.1 (.slice A m c)) ∧ OwnV 49 w 0 A m c p.2
set_option maxHeartbeats 1600000 in
theorem notes_any (g : Nat) (A : Option Addr) (n c : Nat) (bs : List UInt8) (w : World) (hR : Rdr w g A n c bs 0) :
    Calls Try.prog 70 #[.agg #[.pointer (some ⟨g, 0, none⟩)]] w (ReadB g ManV (Bo.notesE bs) w) := by
  obtain ⟨s, hs⟩ : ∃ s, s = w.heap.size := ⟨_, rfl⟩
  have hgs : g < s := by rw [hs]; exact hR.lt
  obtain ⟨R, hRR⟩ : ∃ R, R = Bo.notesE bs := ⟨_, rfl⟩
  obtain ⟨R0, hR0⟩ : ∃ R0, R0 = Bo.seenE 8 0 [0, 0, 0, 0, 0, 0, 0, 0] bs := ⟨_, rfl⟩
  have HRR := Lib.hid hRR
  have HR0 := Lib.hid hR0
  have HS := Lib.hid hs
  have HR := Lib.hid hR
  rw [← hRR]
  have OG := Lib.hid fun (w' : World) (o : Only (fun k => k = g) w w') => only_grownBy o
  have OF := Lib.hid fun (w1 w2 : World) (h : w1.grownBy w2 (some g)) => (Only.of_grown h rfl : Only (fun k => k = g) w1 w2)
  clear hRR hR hs hR0
  go_enter Try.func70, Try.ntmps70
  go_upto_region 1 with fail
  refine nameW ?_
  intro W hW
  rw [← HS.out]
  have ks : Blk W s 129 #[.pointer (some ⟨g, 0, none⟩)] := by rw [hW, HS.out]; exact (Blk.new _ _ _).alloc _
  have kx : Blk W (s + 1) 31 (uc [0, 0, 0, 0, 0, 0, 0, 0] (.slice none 0 0)) := by
    have h := Blk.new (w.alloc (.cells #[.pointer (some ⟨g, 0, none⟩)] 129)) 31 #[.int .i64 0, .int .i64 0, .int .i64 0, .int .i64 0, .int .i64 0, .int .i64 0, .int .i64 0, .int .i64 0, .slice none 0 0]
    rw [hW, HS.out]
    simpa [uc] using h
  have hBW : Below w.heap.size w W := by rw [hW]; exact ((Below.refl _ _).alloc (Nat.le_refl _) _).alloc (by simp) _
  have hRW : Rdr W g A n c bs 0 := HR.out.below (hBW.mono (by have := HR.out.lt; omega))
  have o0 : Only (fun k => k = g) w W := Only.of_below _ hBW
  clear hW hBW
  go_wp2_with fail
  go_loopw [6] (fun i wr => ∃ (k j : Nat) (U : List Int) (r : List UInt8) (A' : Option Addr) (c' : Nat), i = .int .i64 (j : Nat) ∧ k + j = 8 ∧ R0 = Bo.seenE k j U r ∧ U.length = 8 ∧ Rdr wr g A' r.length c' r 0 ∧ Only (fun k => k = g) w wr ∧ Blk wr s 129 #[.pointer (some ⟨g, 0, none⟩)] ∧ Blk wr (s + 1) 31 (uc U (.slice none 0 0))) (fun i _ => 8 - (intOf i).toNat)
  case atStart => exact ⟨8, 0, _, bs, A, c, rfl, rfl, HR0.out, rfl, by have := hRW.2.1.1; subst this; exact hRW, o0, ks, kx⟩
  case round =>
    clear ks kx hRW o0
    obtain ⟨k, j, U, r, A1, c1, rfl, hkj, hR0, hU, R1, o1, kr1, kx1⟩ := hrel
    have HRE := Lib.hid hR0
    have HU := Lib.hid hU
    clear hR0 hU
    cases k with
    | succ k =>
      have hj8 : j < 8 := by omega
      have hj8' : (j : Int) < 8 := by omega
      go_wp2_with ((with_reducible refine wpList_ld (n := 1) rowRd30 kr1 rfl ?_ ?_); rotate_left; (rfl))
      refine (bnum_any g A1 _ c1 r wr R1).mono ?_
      intro e w2 hB
      cases hd : Vint.dec r with
      | error y =>
        obtain ⟨rfl, gg⟩ := hB.bad hd
        have HE := Lib.hid (show R = .error y by
          have h0 : R0 = .error y := by rw [HRE.out, Bo.seenE, hd]
          rw [HRR.out]; unfold Bo.notesE; rw [← HR0.out, h0])
        have o2 := OG.out _ (o1.trans (OF.out _ _ gg) (Grows.refl _ _))
        clear hd hB gg
        go_wp2_with fail
        refine ⟨rfl, o2, ?_⟩
        rw [HE.out]
      | ok q0 =>
        obtain ⟨x, r2⟩ := q0
        obtain ⟨rfl, ⟨A2, c2, R2⟩, gg⟩ := hB.good hd
        have HE := Lib.hid (show R0 = Bo.seenE k (j + 1) (U.set j (x : Nat)) r2 by rw [HRE.out, Bo.seenE, hd])
        have o2 := o1.trans (OF.out _ _ gg) (Grows.refl _ _)
        have kr2 := kr1.grown gg (by intro e; injection e with e; omega)
        have kx2 := kx1.grown gg (by intro e; injection e with e; omega)
        have cx := (kx2.cell j).trans (uc_at HU.out _ hj8)
        have fx := kx2.free j
        have kx3 := kx2.set_ j (.int .i64 (x : Nat))
        rw [uc_set HU.out _ hj8] at kx3
        have kr3 := kr2.far (p := ⟨s + 1, j, none⟩) (by show s ≠ s + 1; omega) (.int .i64 (x : Nat))
        have R3 : Rdr (w2.setCell ⟨s + 1, j, none⟩ (.int .i64 (x : Nat))) g A2 _ c2 r2 0 := R2.below ((Below.refl (g + 1) w2).setCell (by show g + 1 ≤ s + 1; omega) _)
        have o3 := o2.setCell (p := ⟨s + 1, j, none⟩) (.inr (by show w.heap.size ≤ s + 1; have := HS.out; omega)) (.int .i64 (x : Nat))
        generalize U.getD j 0 = old at cx
        have HH := Lib.hid (And.intro R3 (And.intro o3 (And.intro kr3 kx3)))
        clear hd hB gg o2 kr2 R2 kx3 kr3 R3 o3 kx1 kr1 R1 o1
        go_wp2_with fail
        go_roundw
        case rel => exact ⟨k, j + 1, _, r2, A2, c2, by go_num, by omega, HE.out, by rw [List.length_set]; exact HU.out, HH.out.1, HH.out.2.1, HH.out.2.2.1, HH.out.2.2.2⟩
        case measure => simp [intOf]; omega
    | zero =>
      obtain rfl : j = 8 := by omega
      go_wp2_with ((with_reducible refine wpList_ld (n := 1) rowRd30 kr1 rfl ?_ ?_); rotate_left; (rfl))
      refine (bnum_any g A1 _ c1 r wr R1).mono ?_
      intro e w2 hB
      have HUE := Lib.hid (show R0 = .ok (U, r) by rw [HRE.out, Bo.seenE])
      cases hd : Vint.dec r with
      | error y =>
        obtain ⟨rfl, gg⟩ := hB.bad hd
        have HE := Lib.hid (show R = .error y by rw [HRR.out]; unfold Bo.notesE; rw [← HR0.out, HUE.out]; simp only [hd])
        have o2 := OG.out _ (o1.trans (OF.out _ _ gg) (Grows.refl _ _))
        clear hd hB gg
        go_wp2_with fail
        refine ⟨rfl, o2, ?_⟩
        rw [HE.out]
      | ok q0 =>
      obtain ⟨m, r2⟩ := q0
      obtain ⟨rfl, ⟨A2, c2, R2⟩, gg⟩ := hB.good hd
      have o2 := o1.trans (OF.out _ _ gg) (Grows.refl _ _)
      have kr2 := kr1.grown gg (by intro e; injection e with e; omega)
      have kx2 := kx1.grown gg (by intro e; injection e with e; omega)
      have hmb := (Vint.dec_ok hd).2
      have HD := Lib.hid hd
      clear hd hB gg kr1 kx1 R1 o1
      by_cases hm8 : m ≤ 8
      case neg =>
        have HE := Lib.hid (show R = .error 6 by rw [HRR.out]; unfold Bo.notesE; rw [← HR0.out, HUE.out]; simp only [HD.out]; rw [if_neg hm8])
        have d1 : decide ((m : Int) ≤ 8) = false := decide_eq_false (by omega)
        have o3 := OG.out _ o2
        clear hmb
        go_wp2_with fail
        refine (bmust_bad _ _).mono ?_
        rintro e w4 ⟨rfl, rfl⟩
        go_wp2_with fail
        refine ⟨rfl, o3, ?_⟩
        rw [HE.out]
        show Ending.panicked [{ v := bflt 6, recovered := false }] = Ending.panicked [{ v := bflt ((6 : Nat) : Int), recovered := false }]
        rw [show ((6 : Nat) : Int) = 6 from rfl]
      case pos =>
      have d1 : decide ((m : Int) ≤ 8) = true := decide_eq_true (by omega)
      obtain ⟨Rv, hRv⟩ : ∃ Rv, Rv = Bo.valsE m [] r2 := ⟨_, rfl⟩
      have HRV := Lib.hid hRv
      clear hRv
      go_wp2_with fail
      refine (bmust_ok _ _).mono ?_
      rintro e w4 ⟨rfl, rfl⟩
      go_wp2_with fail
      have HM8 := Lib.hid hm8
      clear d1 hmb
      go_loopw [21] (fun i wq => ∃ (k j : Nat) (l : List Vl) (r' : List UInt8) (A' : Option Addr) (c' : Nat) (AS : Option Addr) (cS : Nat), i = .int .i64 (j : Nat) ∧ k + j = m ∧ Rv = Bo.valsE k l r' ∧ l.length = j ∧ Rdr wq g A' r'.length c' r' 0 ∧ Only (fun k => k = g) w wq ∧ Blk wq s 129 #[.pointer (some ⟨g, 0, none⟩)] ∧ OwnV 49 wq w.heap.size AS j cS l ∧ Blk wq (s + 1) 31 (uc U (.slice AS j cS))) (fun i _ => m - (intOf i).toNat)
      case atStart => exact ⟨m, 0, [], r2, A2, c2, none, 0, rfl, by omega, HRV.out, rfl, R2, o2, kr2, OwnV.nil _ _ _, kx2⟩
      case round =>
        clear R2 o2 kr2 kx2
        obtain ⟨k, j, l, r', A3, c3, AS, cS, rfl, hkj, hRv, hlj, R3, o3, kr3, ho3, kx3⟩ := hrel
        have HRE := Lib.hid hRv
        have HLJ := Lib.hid hlj
        clear hRv hlj
        cases k with
        | zero =>
          obtain rfl : j = m := by omega
          have HE := Lib.hid (show R = .ok ((U, l), r') by rw [HRR.out]; unfold Bo.notesE; rw [← HR0.out, HUE.out]; simp only [HD.out]; rw [if_pos HM8.out, ← HRV.out, HRE.out]; simp only [Bo.valsE])
          have SZ := Lib.hid (uc_size HU.out (.slice AS j cS))
          have S1 := Lib.hid (uc_one (U := U) (s := .slice AS j cS) rfl)
          have hne : AS.map (·.block) ≠ some (s + 1) := own_ne ho3.2 kx3 (by decide)
          go_wp2_with first
            | ((with_reducible refine wpList_ld rowM kx3 SZ.out ?_ ?_); rotate_left; (rfl))
            | ((with_reducible refine wpList_st rowM kx3 SZ.out SZ.out S1.out ?_ ?_ ?_); rotate_left; (rfl); (rfl); intro w5 k5 g5 z5)
          have R5 : Rdr w5 g A3 _ c3 r' 0 := R3.below (only_Below g5 (by omega) (by have := R3.lt; omega))
          have o5 := OG.out _ (o3.trans (Only.of_grown (F := fun k => k = s + 1) g5 rfl) (fun k hk => .inr (by have := HS.out; omega)))
          have ho5 := (ho3.grown g5 (.inr hne)).mono (base' := 0) (Nat.zero_le _)
          refine bodyPost_ret (v := .agg (uc U (.slice AS j cS))) (results_blk rfl rowM k5 SZ.out rfl) rfl ⟨o5, ?_⟩
          rw [HE.out]
          exact ⟨_, rfl, ⟨HU.out, by rw [HLJ.out]; exact HM8.out, AS, j, cS, rfl, ho5⟩, A3, c3, R5⟩
        | succ k =>
          have hjm : j < m := by omega
          have hjm' : (j : Int) < (m : Int) := by omega
          have BADV := Lib.hid (fun (y : Nat) (h : Bo.valE r' = .error y) => (show R = .error y by
            have h0 : Rv = .error y := by rw [HRE.out, Bo.valsE, h]
            rw [HRR.out]; unfold Bo.notesE; rw [← HR0.out, HUE.out]; simp only [HD.out]; rw [if_pos HM8.out, ← HRV.out, h0]))
          go_wp2_with ((with_reducible refine wpList_ld (n := 1) rowRd30 kr3 rfl ?_ ?_); rotate_left; (rfl))
          refine (bnum_any g A3 _ c3 r' _ R3).mono ?_
          intro e w5 hB
          cases hd : Vint.dec r' with
          | error y =>
            obtain ⟨rfl, gg⟩ := hB.bad hd
            have HE := Lib.hid (BADV.out y (by unfold Bo.valE; rw [hd]))
            have o5 := OG.out _ (o3.trans (OF.out _ _ gg) (Grows.refl _ _))
            clear hd hB gg
            go_wp2_with fail
            refine ⟨rfl, o5, ?_⟩
            rw [HE.out]
          | ok q1 =>
          obtain ⟨a1, r5⟩ := q1
          obtain ⟨rfl, ⟨A5, c5, R5⟩, gg⟩ := hB.good hd
          have o5 := o3.trans (OF.out _ _ gg) (Grows.refl _ _)
          have kr5 := kr3.grown gg (by intro e; injection e with e; omega)
          have kx5 := kx3.grown gg (by intro e; injection e with e; omega)
          have ho5 := ho3.grown gg (.inr (own_ne ho3.2 R3.1 (by decide)))
          have HD5 := Lib.hid hd
          clear hd hB gg kr3 kx3 R3 o3 ho3
          go_upto_region 11 with ((with_reducible refine wpList_st (cs := #[.int .i64 (a1 : Nat), .int .i64 0, .int .i64 0]) rowV (Blk.new _ _ _) (th_size _ _ _) ?_ (th_one _ _ _) ?_ ?_ ?_); (rfl); rotate_left; (rfl); (rfl); intro w6 kq g6 z6)
          obtain ⟨X, hX⟩ : ∃ X, X = w5.heap.size := ⟨_, rfl⟩
          rw [← hX] at kq ⊢
          have bq : Below w5.heap.size w5 w6 := new_below g6
          have kr6 := kr5.below bq kr5.lt
          have kx6 := kx5.below bq kx5.lt
          have ho6 := ho5.below bq (Nat.le_refl _)
          have R6 := R5.below (bq.mono (by have := R5.lt; omega))
          have o6 := o5.trans (Only.of_below (fun k => k = g) bq) (Grows.refl _ _)
          have hXg : g < X := by rw [hX]; exact R5.lt
          have hXx : s + 1 < X := by rw [hX]; exact kx5.lt
          have hXA : AS.map (·.block) ≠ some X := fun e => by have := (ho5.lt _ e).2; omega
          have hXw : w.heap.size ≤ X := by have := HS.out; omega
          clear g6 z6 bq kr5 kx5 R5 o5 ho5 hX
          go_wp2_with ((with_reducible refine wpList_ld (n := 1) rowRd30 kr6 rfl ?_ ?_); rotate_left; (rfl))
          refine (bnum_any g A5 _ c5 r5 w6 R6).mono ?_
          intro e w7 hB
          cases hd : Vint.dec r5 with
          | error y =>
            obtain ⟨rfl, gg⟩ := hB.bad hd
            have HE := Lib.hid (BADV.out y (by unfold Bo.valE; rw [HD5.out]; simp only [hd]))
            have o7 := OG.out _ (o6.trans (OF.out _ _ gg) (Grows.refl _ _))
            clear hd hB gg
            go_wp2_with fail
            refine ⟨rfl, o7, ?_⟩
            rw [HE.out]
          | ok q2 =>
          obtain ⟨a2, r7⟩ := q2
          obtain ⟨rfl, ⟨A7, c7, R7⟩, gg⟩ := hB.good hd
          have o7 := o6.trans (OF.out _ _ gg) (Grows.refl _ _)
          have kr7 := kr6.grown gg (by intro e; injection e with e; omega)
          have kx7 := kx6.grown gg (by intro e; injection e with e; omega)
          have kq7 := kq.grown gg (by intro e; injection e with e; omega)
          have ho7 := ho6.grown gg (.inr (own_ne ho6.2 R6.1 (by decide)))
          have q71 := kq7.cell 1
          have f71 := kq7.free 1
          have kq8 : Blk (w7.setCell ⟨X, 1, none⟩ (.int .i64 (a2 : Nat))) X 49 #[.int .i64 (a1 : Nat), .int .i64 (a2 : Nat), .int .i64 0] := kq7.set_ 1 (.int .i64 (a2 : Nat))
          have kr8 := kr7.far (p := ⟨X, 1, none⟩) (by show s ≠ X; omega) (.int .i64 (a2 : Nat))
          have kx8 := kx7.far (p := ⟨X, 1, none⟩) (by show s + 1 ≠ X; omega) (.int .i64 (a2 : Nat))
          have ho8 := ho7.setFar (p := ⟨X, 1, none⟩) hXA (.int .i64 (a2 : Nat))
          have R8 : Rdr (w7.setCell ⟨X, 1, none⟩ (.int .i64 (a2 : Nat))) g A7 _ c7 r7 0 := R7.below ((Below.refl (g + 1) w7).setCell (by show g + 1 ≤ X; omega) _)
          have o8 := o7.setCell (p := ⟨X, 1, none⟩) (.inr hXw) (.int .i64 (a2 : Nat))
          obtain ⟨w8, hw8⟩ : ∃ w8, w8 = w7.setCell ⟨X, 1, none⟩ (.int .i64 (a2 : Nat)) := ⟨_, rfl⟩
          rw [← hw8] at kq8 kr8 kx8 ho8 R8 o8
          have HW8 := Lib.hid hw8
          have HD7 := Lib.hid hd
          clear hd hB gg kr6 kx6 kq R6 o6 ho6 kr7 kx7 R7 o7 ho7 hw8
          go_upto_region 12 with fail
          rw [← HW8.out]
          clear q71 f71 kq7
          go_wp2_with ((with_reducible refine wpList_ld (n := 1) rowRd30 kr8 rfl ?_ ?_); rotate_left; (rfl))
          refine (bnum_any g A7 _ c7 r7 w8 R8).mono ?_
          intro e w9 hB
          cases hd : Vint.dec r7 with
          | error y =>
            obtain ⟨rfl, gg⟩ := hB.bad hd
            have HE := Lib.hid (BADV.out y (by unfold Bo.valE; rw [HD5.out]; simp only [HD7.out, hd]))
            have o9 := OG.out _ (o8.trans (OF.out _ _ gg) (Grows.refl _ _))
            clear hd hB gg
            go_wp2_with fail
            refine ⟨rfl, o9, ?_⟩
            rw [HE.out]
          | ok q3 =>
          obtain ⟨a3, r9⟩ := q3
          obtain ⟨rfl, ⟨A9, c9, R9⟩, gg⟩ := hB.good hd
          have HV := Lib.hid (show Rv = Bo.valsE k (l ++ [(((a1 : Nat) : Int), ((a2 : Nat) : Int), ((a3 : Nat) : Int))]) r9 by
            have : Bo.valE r' = .ok ((((a1 : Nat) : Int), ((a2 : Nat) : Int), ((a3 : Nat) : Int)), r9) := by unfold Bo.valE; rw [HD5.out]; simp only [HD7.out, hd]
            rw [HRE.out, Bo.valsE, this])
          have o9 := o8.trans (OF.out _ _ gg) (Grows.refl _ _)
          have kr9 := kr8.grown gg (by intro e; injection e with e; omega)
          have kx9 := kx8.grown gg (by intro e; injection e with e; omega)
          have kq9 := kq8.grown gg (by intro e; injection e with e; omega)
          have ho9 := ho8.grown gg (.inr (own_ne ho8.2 R8.1 (by decide)))
          have q92 := kq9.cell 2
          have f92 := kq9.free 2
          have kqA : Blk (w9.setCell ⟨X, 2, none⟩ (.int .i64 (a3 : Nat))) X 49 #[.int .i64 (a1 : Nat), .int .i64 (a2 : Nat), .int .i64 (a3 : Nat)] := kq9.set_ 2 (.int .i64 (a3 : Nat))
          have krA := kr9.far (p := ⟨X, 2, none⟩) (by show s ≠ X; omega) (.int .i64 (a3 : Nat))
          have kxA := kx9.far (p := ⟨X, 2, none⟩) (by show s + 1 ≠ X; omega) (.int .i64 (a3 : Nat))
          have hoA := ho9.setFar (p := ⟨X, 2, none⟩) hXA (.int .i64 (a3 : Nat))
          have RA : Rdr (w9.setCell ⟨X, 2, none⟩ (.int .i64 (a3 : Nat))) g A9 _ c9 r9 0 := R9.below ((Below.refl (g + 1) w9).setCell (by show g + 1 ≤ X; omega) _)
          have oA := o9.setCell (p := ⟨X, 2, none⟩) (.inr hXw) (.int .i64 (a3 : Nat))
          obtain ⟨wA, hwA⟩ : ∃ wA, wA = w9.setCell ⟨X, 2, none⟩ (.int .i64 (a3 : Nat)) := ⟨_, rfl⟩
          rw [← hwA] at kqA krA kxA hoA RA oA
          have HWA := Lib.hid hwA
          clear hd hB gg kr8 kx8 kq8 R8 o8 ho8 kr9 kx9 R9 o9 ho9 hwA
          go_upto_region 13 with fail
          rw [← HWA.out]
          clear q92 f92 kq9
          have c8 : wA.cell? ⟨s + 1, 8, none⟩ = some (.slice AS j cS) := (kxA.cell 8).trans (uc_last HU.out _)
          have hne : AS.map (·.block) ≠ some (s + 1) := own_ne hoA.2 kxA (by decide)
          have hns : AS.map (·.block) ≠ some s := own_ne hoA.2 krA (by decide)
          have hAw : w.heap.size ≤ wA.heap.size := oA.size
          have hm8b := HM8.out
          go_wp2_with first
            | ((with_reducible refine wpList_ld rowV kqA (th_size _ _ _) ?_ ?_); rotate_left; (rfl))
            | (at_builtin; refine wpList_appV rfl (.tmp 33) (.tmp 35) rfl rfl (hoA.alloc _) (news := [(((a1 : Nat) : Int), ((a2 : Nat) : Int), ((a3 : Nat) : Int))]) rfl (Rd.made _ _ _ _) rfl ?h2 ?h3 ?h4)
          case h2 => simp; omega
          case h3 => simp; omega
          intro AB cB wB oB gB mB bB
          have kxB : Blk wB (s + 1) 31 (uc U (.slice AS j cS)) := (kxA.alloc _).grown gB hne
          have krB : Blk wB s 129 #[.pointer (some ⟨g, 0, none⟩)] := (krA.alloc _).grown gB hns
          have hgw : g + 1 ≤ w.heap.size := by have := HS.out; omega
          have RB : Rdr wB g A9 _ c9 r9 0 := (RA.below ((Below.refl (g + 1) wA).alloc (by have := RA.lt; omega) _)).below (bB.mono hgw)
          have oB2 := (oA.alloc (.cells #[.int .i64 (a1 : Nat), .int .i64 (a2 : Nat), .int .i64 (a3 : Nat)] 49)).then_below bB
          have c8B : wB.cell? ⟨s + 1, 8, none⟩ = some (.slice AS j cS) := (kxB.cell 8).trans (uc_last HU.out _)
          have f8B := kxB.free 8
          have hnB : AB.map (·.block) ≠ some (s + 1) := own_ne oB.2 kxB (by decide)
          have kxC := kxB.set_ 8 (.slice AB (j + 1) cB)
          rw [uc_set8 HU.out] at kxC
          have krC := krB.far (p := ⟨s + 1, 8, none⟩) (by show s ≠ s + 1; omega) (.slice AB (j + 1) cB)
          have RC : Rdr (wB.setCell ⟨s + 1, 8, none⟩ (.slice AB (j + 1) cB)) g A9 _ c9 r9 0 := RB.below ((Below.refl (g + 1) wB).setCell (by show g + 1 ≤ s + 1; omega) _)
          have oC := oB2.setCell (p := ⟨s + 1, 8, none⟩) (.inr (by show w.heap.size ≤ s + 1; have := HS.out; omega)) (.slice AB (j + 1) cB)
          have vC := oB.setFar (p := ⟨s + 1, 8, none⟩) hnB (.slice AB (j + 1) cB)
          have HH := Lib.hid (And.intro RC (And.intro oC (And.intro krC (And.intro vC kxC))))
          clear kxA krA hoA RA oA kqA c8 kxB krB RB oB2 kxC krC RC oC vC gB mB bB oB
          go_wp2_with fail
          go_roundw
          case rel => exact ⟨k, j + 1, _, r9, A9, c9, AB, cB, by go_num, by omega, HV.out, by rw [List.length_append, HLJ.out]; rfl, HH.out.1, HH.out.2.1, HH.out.2.2.1, HH.out.2.2.2.1, HH.out.2.2.2.2⟩
          case measure => simp [intOf]; omega
end Go.Proofs.Ytocoohpekpkmkaa

/- The walk of board.body. -/
namespace Go.Proofs.Ytocoohpekpkmkaa
set_option linter.unusedVariables false
set_option linter.unusedSimpArgs false
set_option maxRecDepth 100000
open Go.RowKit
open Reg (La Vl)
def plA (p : List La) : Array Value := (plansC p).toArray
theorem plA_size {p : List La} (h : p.length = 8) : (plA p).size = 24 := by unfold plA; rw [List.size_toArray, plansC_len, h]
theorem plA_at {p : List La} {k : Nat} (hp : p.length = 8) (hk : k < 8) : (plA p).extract (k * 3) (k * 3 + 3) = (pc (p.getD k (0, 0, 0))).toArray := by
  have hs := plA_size hp
  apply Array.ext_getElem?
  intro i
  by_cases hi : i < 3
  · rw [Array.getElem?_extract, if_pos (by omega)]
    unfold plA
    rw [List.getElem?_toArray, plansC_at p k i (by omega) hi, List.getElem?_toArray]
  · rw [Array.getElem?_eq_none (by rw [Array.size_extract]; omega), Array.getElem?_eq_none (by show 3 ≤ i; omega)]
theorem run_indexP (w : World) (p : List La) (hp : p.length = 8) (k : Nat) (hk : k < 8) : (Instr.index 81 (.agg (plA p)) (.int .i64 (k : Nat))).run Try.prog w = .ok (v3 (p.getD k (0, 0, 0))) w := by
  have hsz : (sizeOf 62).run Try.prog w = .ok 3 w := by kernel_rfl
  have hx := plA_at hp hk
  have hag : (isAgg 62).run Try.prog w = .ok true w := by kernel_rfl
  simp only [Instr.index, asIntOf, Sem.run_bind, Sem.run_pure, Result.andThen_ok, run_underlying Try.underlying81, hsz]
  rw [if_pos (by omega)]
  simp [part, hag, hsz, hx, v3, pc]
def bodyL (b : Bd) : List UInt8 := encs (Tally.numsL b.t 8 ++ [0] ++ Bo.restN b)
theorem encs_app (a b : List Int) : encs (a ++ b) = encs a ++ encs b := by unfold encs; rw [List.flatMap_append]
theorem plansN_succ (p : List La) (k : Nat) : Bo.plansN p (k + 1) = Bo.plansN p k ++ if p.getD k (0, 0, 0) = (0, 0, 0) then [] else [(k : Int) + 1, (p.getD k (0, 0, 0)).1, (p.getD k (0, 0, 0)).2.1, (p.getD k (0, 0, 0)).2.2] := rfl
theorem valsN_snoc (l : List Vl) {k : Nat} (h : k < l.length) : Bo.valsN (l.take (k + 1)) = Bo.valsN (l.take k) ++ [l[k].1, l[k].2.1, l[k].2.2] := by
  unfold Bo.valsN
  rw [take_snoc l h, List.flatMap_append]
  rfl
theorem step_appI {w : World} {o : Oper} {a : Act} {K : Act → World → Prop} {Q : Exit → Act → World → Prop} (s x : Operand)
    (ho : o.op = .call { callee := .builtin .append, args := #[s, x], argTypes := #[45, 45] })
    {base : Nat} {A : Option Addr} {n c : Nat} {bs : List Int} (hs : a.eval s = .slice A n c) (hown : OwnI w base A n c bs)
    {B : Nat} {D : Option Addr} {m d : Nat} {news : List Int} (hx : a.eval x = .slice D m d) (hr : RdI w B D m news)
    (hbytes : n + m ≤ 17592186044416) (hbase : base ≤ w.heap.size)
    (h : ∀ A' c' w', OwnI w' base A' (n + m) c' (bs ++ news) → w.grownBy w' (A.map (·.block)) → Moved A' (A.map (·.block)) w.heap.size → Below base w w' →
      K (a.put o.dst (.slice A' (n + m) c')) w') : Oper.wp Try.prog o a w K Q := by
  obtain ⟨i0, hi, hz0, hz1, hz2⟩ := info_parts infoI
  have hob : (Value.slice A n c).ownBlock = A.map (·.block) := by cases A <;> rfl
  obtain ⟨v', w', hrun, h2, h3, h4⟩ := run_app (P := Try.prog) w base 45 o.type 3 i0 (.int .i64 0) 1 8 Try.underlying45 hi hz0 hz1 hz2 rfl (by decide) (.slice A n c) n _ hown.2 B D m d (news.map iv) hr.2 (by simp [hr.1]) (iv_one _) (by unfold maxLen; omega) (by omega) hbase
  unfold Oper.wp execOp
  simp only [ho, resolve, invoke, builtin, Sem.run_bind, Sem.run_pure, Result.andThen_ok, List.map_toArray, List.map_cons, List.map_nil, hs, hx, hrun]
  have hv : ∃ A' c', v' = .slice A' (n + m) c' ∧ v'.ownBlock = A'.map (·.block) := by
    rcases h2.2 with ⟨rfl, h0⟩ | ⟨g, cap, cur, rfl, _⟩
    · exact ⟨none, 0, by rw [h0], rfl⟩
    · exact ⟨_, _, rfl, rfl⟩
  obtain ⟨A', c', rfl, hb⟩ := hv
  rw [hb] at h4
  rw [hob] at h3 h4
  exact h _ _ _ ⟨by simp [hown.1, hr.1], by simpa using h2⟩ h3 h4 ((Below.refl _ _).grown h3 hbase (fun g hg => (hown.lt g hg).1))
theorem Blk.seen {b : Bd} {s : Value} {w : World} {g : Nat} {T : TypeId} (k : Blk w g T (bc b s)) (h : Bo.Shaped b) : RdI w (g + 1) (some ⟨g, 40, none⟩) 8 b.u := ⟨h.u.symm, fun j u hu => by
  have hj : j < 8 := by
    have := (List.getElem?_eq_some_iff.1 hu).1
    rwa [List.length_map, h.u] at this
  refine ⟨_, rfl, Nat.lt_succ_self _, ?_⟩
  have hc := k.cell (40 + j)
  rw [bc_n h (by omega)] at hc
  rw [add_mk]
  refine hc.trans ?_
  rw [← hu]
  unfold uc
  rw [List.getElem?_toArray, List.getElem?_append_left (by rw [List.length_map, h.u]; exact hj)]⟩
set_option maxHeartbeats 8000000 in
theorem bbody_any (b : Bd) (hs : Bo.Shaped b) (hright : Bo.rightB b = true) (q : Value) (w : World) (hq : FrBo b q w) : Calls Try.prog 59 #[q] w fun e w' => ∃ A n c, e = .returned (.slice A n c) ∧ OwnB w' w.heap.size A n c (bodyL b) ∧ Below w.heap.size w w' := by
  obtain ⟨A, m, c, rfl, hr, hm⟩ := hq
  have HRV := Lib.hid fun (w' : World) (hb : Below w.heap.size w w') => hr.below hb
  have HM := Lib.hid (show m = b.l.length from hr.1)
  have HS := Lib.hid hs
  have HR := Lib.hid hright
  have h49 := Lib.hid (bc_size (s := .slice A m c) hs)
  have HL8 := Lib.hid (right_len (Reg.right_facts ((Bo.right_iff b).1 hright).2.2.2))
  clear hr hm hs hright
  go_enter Try.func59, Try.ntmps59
  go_upto_region 1 with fail
  refine nameW ?_
  intro wv hwv
  obtain ⟨g, hg⟩ : ∃ g, g = w.heap.size := ⟨_, rfl⟩
  rw [← hg]
  have k0 : Blk wv g 83 (bc b (.slice A m c)) := by rw [hwv, hg]; exact Blk.new w _ _
  have gb : Below w.heap.size w wv := by rw [hwv]; exact (Below.refl _ _).alloc (Nat.le_refl _) _
  have HG := Lib.hid hg
  clear hwv hg
  have S16 := Lib.hid (show (tc b.t).size = 16 by rw [tc_size, HS.out.t])
  have S24 := Lib.hid (plA_size HS.out.p)
  go_wp2_with ((with_reducible refine wpList_ldr rowT (k0.tal HS.out) S16.out ?_ ?_); rotate_left; (rfl))
  refine (tput_any b.t wv HS.out.t ((Bo.right_iff b).1 HR.out).2.2.1).mono ?_
  rintro e w1 ⟨Ab, nb, cb, rfl, ob, b1⟩
  have ob := ob.mono gb.size
  have k0 := k0.below b1 k0.lt
  have gb := gb.trans (b1.mono gb.size)
  clear b1
  have hpl : w1.rangeAt g 16 (plA b.p).toList := k0.plans HS.out
  go_wp2_with ((with_reducible refine wpList_ldr rowPl hpl S24.out ?_ ?_); rotate_left; (rfl))
  go_loopw [5, 20] (fun s i wr => ∃ (k : Nat) (A : Option Addr) (n c : Nat), k ≤ 8 ∧ i = .int .i64 k ∧ s = .slice A n c ∧ OwnI wr w1.heap.size A n c (Bo.plansN b.p k) ∧ Below w1.heap.size w1 wr) (fun _ i _ => 8 - (intOf i).toNat)
  case atStart => exact ⟨0, none, 0, 0, by omega, rfl, rfl, OwnI.nil _ _, Below.refl _ _⟩
  case round =>
    obtain ⟨k, A1, n1, c1, hk, rfl, rfl, ho, bl⟩ := hrel
    by_cases hlt : k < 8
    · have hix := fun w' => run_indexP w' b.p HS.out.p k hlt
      have hst := plansN_succ b.p k
      have hnl := Bo.plans_len b.p k
      have hn1 : n1 ≤ 32 := by rw [ho.1]; omega
      have hps : ∃ q, q = b.p.getD k (0, 0, 0) := ⟨_, rfl⟩
      obtain ⟨q, hq⟩ := hps
      have hqb : Bo.planB q = true := by
        have hm : q ∈ b.p := by rw [hq, List.getD_eq_getElem?_getD, List.getElem?_eq_getElem (by rw [HS.out.p]; exact hlt)]; exact List.getElem_mem _
        exact ((Bo.right_iff b).1 HR.out).1 q hm
      have hqs := (Bo.planB_iff q).1 hqb
      rw [← hq] at hix hst
      obtain ⟨x, y, z⟩ := q
      simp only at hst hqs
      unfold v3 at hix
      simp only at hix
      have HIX := Lib.hid hix
      have HST := Lib.hid hst
      have HO := Lib.hid ho
      have hk0 : (0 : Int) ≤ (k : Int) := by omega
      have hk1 : (k : Int) < 8 := by omega
      have ew : IntKind.i64.wrap ((k : Int) + 1) = (k : Int) + 1 := IntWalk.i64_in _ (by omega)
      clear hix hst hnl hq hqb ho
      go_upto_region 6 with first
        | ((with_reducible refine wpList_ix (HIX.out _) ?_ ?_ ?_); rotate_left; (rfl); (rfl))
        | ((with_reducible refine wpList_st (cs := #[.int .i64 x, .int .i64 y, .int .i64 z]) rowLa (Blk.new _ _ _) (th_size _ _ _) ?_ (th_one _ _ _) ?_ ?_ ?_); (rfl); rotate_left; (rfl); (rfl); intro w3 kq g3 z3)
      have bq : Below wr.heap.size wr w3 := new_below g3
      have HO3 := Lib.hid (HO.out.below bq (Nat.le_refl _))
      have b3 := bl.trans (bq.mono bl.size)
      have q0 := kq.cell 0
      have q1 := kq.cell 1
      have q2 := kq.cell 2
      clear g3 z3 bq HIX bl
      by_cases hz : x = 0 ∧ y = 0 ∧ z = 0
      · obtain ⟨rfl, rfl, rfl⟩ := hz
        go_wp2_with ((with_reducible refine wpList_ld rowLa kq (th_size _ _ _) ?_ ?_); rotate_left; (rfl))
        go_roundw
        case rel => exact ⟨k + 1, A1, n1, c1, by omega, by go_num, rfl, by rw [HST.out, if_pos rfl, List.append_nil]; exact HO3.out, b3⟩
        case measure => simp [intOf]; omega
      · have hzz : ¬ ((x, y, z) : La) = (0, 0, 0) := fun h => hz (by injection h with h1 h2; injection h2 with h2 h3; exact ⟨h1, h2, h3⟩)
        have hxyz : (1 ≤ x ∧ x ≤ 1099511627776) ∧ (0 ≤ y ∧ y ≤ 7) ∧ 0 ≤ z ∧ z ≤ 1000 := by
          rcases hqs with h | h
          · exact absurd h hzz
          · exact h
        have HZZ := Lib.hid hzz
        have hx0 : ¬ x = 0 := by omega
        clear hz hzz hqs
        go_wp2_with first
          | ((with_reducible refine wpList_ld rowLa kq (th_size _ _ _) ?_ ?_); rotate_left; (rfl))
          | (at_builtin; refine stop ?_)
        unfold Stop
        have ba := b3.alloc b3.size (.cells #[.int .i64 ((k : Int) + 1), .int .i64 x, .int .i64 y, .int .i64 z] 3)
        refine wpList_appI rfl (.tmp 27) (.tmp 36) rfl (by rfl) (HO3.out.alloc _) (by rfl) (RdI.made w3 [(k : Int) + 1, x, y, z] _ _ _ rfl) (by simp; omega) ba.size ?_
        intro A2 c2 w4 ho4 _ _ b4
        have HO4 := Lib.hid ho4
        have b5 := ba.trans b4
        clear ho4 b4 ba b3
        go_wp2_with fail
        go_roundw
        case rel => exact ⟨k + 1, A2, _, c2, by omega, by go_num, rfl, by rw [HST.out, if_neg HZZ.out]; exact HO4.out, b5⟩
        case measure => simp [intOf]; omega
    · obtain rfl : k = 8 := by omega
      have HO := Lib.hid ho
      have hpn := Bo.plans_len b.p 8
      have hn1 : n1 ≤ 32 := by rw [ho.1]; omega
      clear hpn ho
      obtain ⟨PL, hPL⟩ : ∃ PL, PL = Bo.plansN b.p 8 := ⟨_, rfl⟩
      rw [← hPL] at HO
      have HPL := Lib.hid hPL
      clear hPL hk hlt hpl
      go_upto_region 9 with fail
      refine wp_region_tail 6 (fun L v w => v 1 = .pointer (some ⟨g, 0, none⟩) ∧ v 5 = .slice A1 n1 c1 ∧ Below w1.heap.size w1 w ∧ ((L 2 = false → OwnI w w1.heap.size A1 n1 c1 PL ∧ (L 1 = true → ∃ D, v 40 = .slice (some D) 1 1 ∧ RdI w w.heap.size (some D) 1 [0])) ∧ (L 2 = true → ∃ A2 c2, v 41 = .slice A2 (n1 + 1) c2 ∧ OwnI w w1.heap.size A2 (n1 + 1) c2 (PL ++ [0]))) ∧ (L 0 = true → v 39 = .slice A1 n1 c1) ∧ (L 3 = true → v 42 = .pointer (some ⟨g, 40, none⟩)) ∧ (L 4 = true → v 43 = .pointer (some ⟨g, 40, none⟩)) ∧ (L 5 = true → v 44 = .slice (some ⟨g, 40, none⟩) 8 8)) [39, 40, 41, 42, 43, 44] (by kernel_rfl) (by kernel_rfl) (by kernel_rfl) (by kernel_rfl) (by kernel_rfl) (by kernel_rfl) ?h0 ?hst ?hend
      case h0 =>
        intro L h0
        have h0 : ∀ i, i < 6 → L i = false := h0
        exact ⟨rfl, rfl, (bl.trans (Below.refl _ _).drew), ⟨fun _ => ⟨HO.out.drew, offF h0 (i := 1) (by decide)⟩, offF h0 (i := 2) (by decide)⟩, offF h0 (i := 0) (by decide), offF h0 (i := 3) (by decide), offF h0 (i := 4) (by decide), offF h0 (i := 5) (by decide)⟩
      case hst =>
        show FactSteps _ _ _ _ [0, 1, 2, 3, 4, 5]
        refine @FactSteps.cons _ _ _ _ 0 _ [] _ rfl (by kernel_rfl) ?s0 ?_
        rotate_left
        refine @FactSteps.cons _ _ _ _ 1 _ [] _ rfl (by kernel_rfl) ?s1 ?_
        rotate_left
        refine @FactSteps.cons _ _ _ _ 2 _ [0, 1] _ rfl (by kernel_rfl) ?s2 ?_
        rotate_left
        refine @FactSteps.cons _ _ _ _ 3 _ [] _ rfl (by kernel_rfl) ?s3 ?_
        rotate_left
        refine @FactSteps.cons _ _ _ _ 4 _ [3] _ rfl (by kernel_rfl) ?s4 ?_
        rotate_left
        refine @FactSteps.cons _ _ _ _ 5 _ [4] _ rfl (by kernel_rfl) ?s5 ?_
        rotate_left
        exact FactSteps.nil
        case s0 =>
          rintro L a v w hv hg hL hd hcl ⟨e1, e5, hb, kI, f0, f3, f4, f5⟩ K hK
          refine step_do rfl ?_
          clear hv
          go_simp
          exact hK.out _ _ ⟨e1, e5, hb, kI, fun _ => rfl, f3, f4, f5⟩
        case s1 =>
          rintro L a v w hv hg hL hd hcl ⟨e1, e5, hb, kI, f0, f3, f4, f5⟩ K hK
          have c2 : L 2 = false := off_of hcl (j := 2) (by kernel_rfl : waitsAt _ 2 = [0, 1]) (d := 1) (by decide) hL
          have ho := (kI.1 c2).1
          refine step_do rfl ?_
          clear hv
          go_simp
          exact hK.out _ _ ⟨e1, e5, (hb.alloc hb.size _), ⟨fun _ => ⟨ho.alloc _, fun _ => ⟨_, rfl, (RdI.made w [0] _ _ _ rfl).size⟩⟩, offC c2⟩, f0, f3, f4, f5⟩
        case s2 =>
          rintro L a v w hv hg hL hd hcl ⟨e1, e5, hb, kI, f0, f3, f4, f5⟩ K hK
          have g0 := f0 (hd 0 (by decide))
          have hI := kI.1 hL
          obtain ⟨D, ed, hr⟩ := hI.2 (hd 1 (by decide))
          have ho := hI.1
          refine step_do rfl ?_
          refine step_appI (.tmp 39) (.tmp 40) rfl ((hv 39).trans g0) ho ((hv 40).trans ed) hr (by omega) hb.size ?_
          intro A2 c2 w4 ho2 hg2 _ b4
          exact hK.out _ _ ⟨e1, e5, (hb.trans b4), ⟨fun h => (by cases h), fun _ => ⟨A2, c2, rfl, ho2⟩⟩, f0, f3, f4, f5⟩
        case s3 =>
          rintro L a v w hv hg hL hd hcl ⟨e1, e5, hb, kI, f0, f3, f4, f5⟩ K hK
          refine step_do rfl ?_
          clear hv
          go_simp
          exact hK.out _ _ ⟨e1, e5, hb, kI, f0, fun _ => rfl, f4, f5⟩
        case s4 =>
          rintro L a v w hv hg hL hd hcl ⟨e1, e5, hb, kI, f0, f3, f4, f5⟩ K hK
          have g3 := f3 (hd 3 (by decide))
          refine step_do rfl ?_
          clear hv
          go_simp
          exact hK.out _ _ ⟨e1, e5, hb, kI, f0, f3, fun _ => rfl, f5⟩
        case s5 =>
          rintro L a v w hv hg hL hd hcl ⟨e1, e5, hb, kI, f0, f3, f4, f5⟩ K hK
          have g4 := f4 (hd 4 (by decide))
          refine step_do rfl ?_
          clear hv
          go_simp
          exact hK.out _ _ ⟨e1, e5, hb, kI, f0, f3, f4, fun _ => rfl⟩
      case hend =>
      rintro L v wx hall ⟨e1, e5, hb, kI, f0, f3, f4, f5⟩
      have hL : ∀ i, i < 6 → L i = true := hall
      have f0 := f0 (hL 0 (by decide))
      have f3 := f3 (hL 3 (by decide))
      have f4 := f4 (hL 4 (by decide))
      have f5 := f5 (hL 5 (by decide))
      obtain ⟨A2, c2, e41, ho2⟩ := kI.2 (hL 2 (by decide))
      simp only [finA, List.foldl_cons, List.foldl_nil, Act.put, List.setIfInBounds_toArray, List.set_cons_succ, List.set_cons_zero, f0, f3, f4, f5, e41]
      have kw := k0.below hb k0.lt
      have HO2 := Lib.hid ho2
      clear e1 e5 f0 f3 f4 f5 hL hall ho2 e41
      show wpList _ _ _ [_, _] _ _
      refine wpList_appI rfl (.tmp 41) (.tmp 44) rfl (by rfl) HO2.out (by rfl) (kw.seen HS.out) (by omega) hb.size ?_
      intro A3 c3 w5 ho3 _ _ b5
      have hb5 := hb.trans b5
      have k5 := k0.below hb5 k0.lt
      have HO3 := Lib.hid ho3
      clear HO2 ho3 b5 hb kw
      have c48 : w5.cell? ⟨g, 48, none⟩ = some (.slice A m c) := (k5.cell 48).trans (bc_last HS.out)
      have hm8 : m ≤ 8 := by rw [HM.out]; exact HL8.out
      have HM8 := Lib.hid hm8
      clear hm8
      go_upto_region 11 with (at_builtin; refine wpList_appI rfl (.tmp 46) (.tmp 51) rfl (by rfl) (HO3.out.alloc _) (by rfl) (RdI.made _ [(m : Int)] _ _ _ rfl) (by simp; omega) (hb5.alloc hb5.size _).size ?_; intro A4 c4 w6 ho4 _ _ b6)
      have hb6 := (hb5.alloc hb5.size (.cells #[.int .i64 (m : Int)] 3)).trans b6
      have k6 := k0.below hb6 k0.lt
      have c48 : w6.cell? ⟨g, 48, none⟩ = some (.slice A m c) := (k6.cell 48).trans (bc_last HS.out)
      have HO4 := Lib.hid ho4
      clear ho4 b6 k5 hb5 HO3
      go_wp2_with fail
      obtain ⟨Z, hZ⟩ : ∃ Z, Z = PL ++ [0] ++ b.u ++ [(m : Int)] := ⟨_, rfl⟩
      obtain ⟨nz, hnz⟩ : ∃ nz, nz = n1 + 1 + 8 + [(m : Int)].length := ⟨_, rfl⟩
      have hnz2 : nz ≤ 42 := by rw [hnz]; simp; omega
      have HNZ := Lib.hid (show nz = n1 + 1 + 8 + 1 from hnz)
      rw [← hZ, ← hnz] at HO4
      have HZ := Lib.hid hZ
      have hzl : nz = Z.length := HO4.out.1
      have HZL := Lib.hid hzl
      clear hZ hnz kI f0 f3 f4 f5 c48 hzl hn1 HO
      go_loopw [5, 57] (fun s i wr => ∃ (k : Nat) (A' : Option Addr) (n c' : Nat), k ≤ m ∧ i = .int .i64 k ∧ s = .slice A' n c' ∧ OwnI wr w1.heap.size A' n c' (Z ++ Bo.valsN (b.l.take k)) ∧ Below w1.heap.size w1 wr) (fun _ i _ => m - (intOf i).toNat)
      case atStart => exact ⟨0, A4, n1 + 1 + 8 + 1, c4, by omega, rfl, rfl, by rw [← HNZ.out]; simpa [Bo.valsN] using HO4.out, hb6⟩
      case round =>
        obtain ⟨k, A5, n5, c5, hk, rfl, rfl, ho, bk⟩ := hrel
        have hn5 : n5 = nz + 3 * k := by
          rw [ho.1, HZL.out, List.length_append, Bo.vals_len, List.length_take, Nat.min_eq_left (by rw [← HM.out]; exact hk)]
        have hm8 := HM8.out
        have hn9 : n5 ≤ 70 := by omega
        clear hn5
        by_cases hlt : k < m
        · have hkl : k < b.l.length := by rw [← HM.out]; exact hlt
          obtain ⟨ad, hA, q5, q0, q1, q2⟩ := (HRV.out _ (gb.trans (bk.mono gb.size))).2 k _ (List.getElem?_eq_getElem hkl)
          have hst := valsN_snoc b.l hkl
          have hk0 : (0 : Int) ≤ (k : Int) := by omega
          have hkn : (k : Int) < (m : Int) := by omega
          have HO5 := Lib.hid ho
          generalize b.l[k] = d at *
          obtain ⟨x, y, z⟩ := d
          simp only at q0 q1 q2 hst
          subst hA
          have HST := Lib.hid hst
          clear hst ho
          go_upto_region 14 with ((with_reducible refine wpList_st (cs := #[.int .i64 x, .int .i64 y, .int .i64 z]) rowV (Blk.new _ _ _) (th_size _ _ _) ?_ (th_one _ _ _) ?_ ?_ ?_); (rfl); rotate_left; (rfl); (rfl); intro w7 kq g7 z7)
          have bq : Below wr.heap.size wr w7 := new_below g7
          have HO6 := Lib.hid (HO5.out.below bq (Nat.le_refl _))
          have b7 := bk.trans (bq.mono bk.size)
          have c0 := kq.cell 0
          have c1' := kq.cell 1
          have c2 := kq.cell 2
          clear g7 z7 bq bk HO5 q5 q0 q1 q2
          go_wp2_with (at_builtin; refine stop ?_)
          unfold Stop
          have ba := b7.alloc b7.size (.cells #[.int .i64 x, .int .i64 y, .int .i64 z] 3)
          refine wpList_appI rfl (.tmp 61) (.tmp 68) rfl (by rfl) (HO6.out.alloc _) (by rfl) (RdI.made w7 [x, y, z] _ _ _ rfl) (by simp; omega) ba.size ?_
          intro A8 c8 w8 ho8 _ _ b8
          have HO8 := Lib.hid ho8
          have b9 := ba.trans b8
          clear ho8 b8 ba b7
          go_wp2_with fail
          go_roundw
          case rel => exact ⟨k + 1, A8, _, c8, by omega, by go_num, rfl, by rw [HST.out, ← List.append_assoc]; exact HO8.out, b9⟩
          case measure => simp [intOf]; omega
        · obtain rfl : k = m := by omega
          have hfull : b.l.take k = b.l := List.take_of_length_le (by rw [← HM.out]; omega)
          rw [hfull] at ho
          have hms : Bo.restN b = Z ++ Bo.valsN b.l := by rw [HZ.out, HPL.out, HM.out]; rfl
          rw [← hms] at ho
          have hall : ∀ x ∈ Bo.restN b, 0 ≤ x ∧ x ≤ 1099511627776 := Bo.rest_small HS.out HR.out
          have HALL := Lib.hid hall
          obtain ⟨ms, hmsd⟩ : ∃ ms, ms = Bo.restN b := ⟨_, rfl⟩
          rw [← hmsd] at ho HALL
          have HMS := Lib.hid hmsd
          have hnb1 : nb ≤ 162 := by
            rw [ob.1]
            have h1 := encs_len (Tally.numsL b.t 8 ++ [0])
            have h2 := Tally.nums_len b.t 8
            simp at h1
            omega
          have ob3 := ob.below bk (Nat.le_refl _)
          have HOB := Lib.hid ob3
          have hmle := ownsRow_le ho.2
          have ho2 := ho
          clear hall hms hmsd hfull ho ob ob3 hk hlt HO4 hm8
          go_wp2_with fail
          obtain ⟨w9, rfl⟩ : ∃ w9, w9 = wr := ⟨_, rfl⟩
          go_loopw [3, 73] (fun s i wq => ∃ (j : Nat) (A' : Option Addr) (nc cc : Nat), j ≤ n5 ∧ i = .int .i64 j ∧ s = .slice A' nc cc ∧ OwnB wq w.heap.size A' nc cc (encs (Tally.numsL b.t 8 ++ [0]) ++ encs (ms.take j)) ∧ Below w9.heap.size w9 wq) (fun _ i _ => n5 - (intOf i).toNat)
          case atStart => exact ⟨0, Ab, nb, cb, by omega, rfl, rfl, by simpa [encs] using HOB.out, Below.refl _ _⟩
          case round =>
            obtain ⟨j, A', nc, cc, hj, rfl, rfl, ob, bl2⟩ := hrel
            by_cases hjm : j < n5
            · have hjl : j < ms.length := by rw [← ho2.1]; exact hjm
              obtain ⟨ad, rfl, _, c1⟩ := (ho2.rd.below bl2).at_ hjl
              have hxb := HALL.out _ (List.getElem_mem hjl)
              have hes := encs_snoc ms hjl
              have HES := Lib.hid hes
              have hel := encs_len (ms.take j)
              have hnb : nc ≤ 600 := by
                have h1 := ob.1
                have h2 : (ms.take j).length ≤ j := List.length_take_le _ _
                have h3 := HOB.out.1
                rw [List.length_append] at h1
                omega
              clear hes hel
              generalize ms[j] = x at *
              obtain ⟨x, rfl⟩ := Int.eq_ofNat_of_zero_le hxb.1
              rw [Int.toNat_natCast] at HES
              have hj0 : (0 : Int) ≤ (j : Int) := by omega
              have hj1 : (j : Int) < (n5 : Int) := by omega
              go_wp2_with fail
              refine (put_ok A' nc cc _ x _ _ ob.rd (Nat.le_refl _) (by omega) (by omega)).mono ?_
              rintro e w4 ⟨A4, n4, c4, rfl, o4, b4⟩
              have O4 : OwnB w4 w.heap.size A4 n4 c4 (encs (Tally.numsL b.t 8 ++ [0]) ++ encs (ms.take (j + 1))) := by rw [HES.out, ← List.append_assoc]; exact o4.mono (Nat.le_trans gb.size (Nat.le_trans bk.size bl2.size))
              have B4 := bl2.trans (b4.mono bl2.size)
              have HO := Lib.hid O4
              clear O4 o4 b4 ob bl2
              go_wp2_with fail
              go_roundw
              case rel => exact ⟨j + 1, A4, n4, c4, by omega, by go_num, rfl, HO.out, B4⟩
              case measure => simp [intOf]; omega
            · have hfull : ms.take j = ms := List.take_of_length_le (by rw [← ho2.1]; omega)
              have HFL := Lib.hid hfull
              clear hfull
              go_wp2_with fail
              go_ret
              refine ⟨A', nc, cc, rfl, ?_, gb.trans ((bk.trans (bl2.mono bk.size)).mono gb.size)⟩
              rw [HFL.out, HMS.out, ← encs_app] at ob
              exact ob
end Go.Proofs.Ytocoohpekpkmkaa

/- The walk of board.Put. -/
namespace Go.Proofs.Ytocoohpekpkmkaa
set_option linter.unusedVariables false
set_option linter.unusedSimpArgs false
set_option maxRecDepth 100000
open Go.RowKit
open Reg (La Vl)
theorem restN_len {b : Bd} (hs : Bo.Shaped b) (hl : b.l.length ≤ 8) : (Bo.restN b).length ≤ 66 := by
  unfold Bo.restN
  have h1 := Bo.plans_len b.p 8
  have h2 := Bo.vals_len b.l
  have h3 := hs.u
  simp only [List.length_append, List.length_cons, List.length_nil]
  omega
theorem bodyL_len {b : Bd} (hs : Bo.Shaped b) (hl : b.l.length ≤ 8) : (bodyL b).length ≤ 546 := by
  unfold bodyL
  have h1 := encs_len (Tally.numsL b.t 8 ++ [0] ++ Bo.restN b)
  have h2 := Tally.nums_len b.t 8
  have h3 := restN_len hs hl
  simp only [List.length_append, List.length_cons, List.length_nil] at h1
  omega
theorem right_l8 {b : Bd} (h : Bo.rightB b = true) : b.l.length ≤ 8 := right_len (Reg.right_facts ((Bo.right_iff b).1 h).2.2.2)
/-- a board's frame; an error's number -/
def putBo (b : Bd) : List UInt8 × Nat := if Bo.rightB b then (Frame.frm (bodyL b), 0) else ([], 2)
set_option maxHeartbeats 400000 in
theorem bput_any (b : Bd) (hs : Bo.Shaped b) (q : Value) (w : World) (hq : FrBo b q w) : Calls Try.prog 30 #[q] w (GiveBE w (putBo b).1 (putBo b).2) := by
  obtain ⟨A, m, c, rfl, hr, hm⟩ := hq
  obtain ⟨R, hR⟩ : ∃ R, R = Bo.rightB b := ⟨_, rfl⟩
  have HC1 := Lib.hid fun (w' : World) (hb : Below w.heap.size w w') => (hR ▸ boRight_any b hs (.agg (bc b (.slice A m c))) w' ⟨A, m, c, rfl, (hr.below hb).size, hm⟩ : Calls Try.prog _ _ w' (GiveBo w' R))
  have HC2 := Lib.hid fun (h : Bo.rightB b = true) (w' : World) (hb : Below w.heap.size w w') => bbody_any b hs h (.agg (bc b (.slice A m c))) w' ⟨A, m, c, rfl, (hr.below hb).size, hm⟩
  have h49 := Lib.hid (bc_size (s := .slice A m c) hs)
  have HP := Lib.hid (show putBo b = if R then (Frame.frm (bodyL b), 0) else ([], 2) by rw [hR]; rfl)
  have HR := Lib.hid hR
  have HL := Lib.hid fun (h : Bo.rightB b = true) => bodyL_len hs (right_l8 h)
  clear hR hr hm hs
  go_enter Try.func30, Try.ntmps30
  go_upto_region 1 with fail
  refine nameW ?_
  intro wv hwv
  obtain ⟨g, hg⟩ : ∃ g, g = w.heap.size := ⟨_, rfl⟩
  rw [← hg]
  have k0 : Blk wv g 83 (bc b (.slice A m c)) := by rw [hwv, hg]; exact Blk.new w _ _
  have gb : Below w.heap.size w wv := by rw [hwv]; exact (Below.refl _ _).alloc (Nat.le_refl _) _
  clear hwv hg
  go_wp2_with ((with_reducible refine wpList_ld rowBo k0 h49.out ?_ ?_); rotate_left; (rfl))
  refine (HC1.out wv gb).mono ?_
  rintro e w1 ⟨rfl, b1⟩
  have k0 := k0.below b1 k0.lt
  have gb := gb.trans (b1.mono gb.size)
  clear b1
  cases R
  case false =>
    go_wp2_with fail
    go_ret2
    rw [HP.out]
    exact ⟨none, 0, 0, rfl, OwnB.nil _ _, gb⟩
  case true =>
    go_wp2_with ((with_reducible refine wpList_ld rowBo k0 h49.out ?_ ?_); rotate_left; (rfl))
    refine (HC2.out HR.out.symm w1 gb).mono ?_
    rintro e w2 ⟨A2, n2, c2, rfl, o, b1⟩
    have hn : n2 ≤ 4096 := Nat.le_trans (Nat.le_of_eq o.1) (Nat.le_trans (HL.out HR.out.symm) (by decide))
    have HN := Lib.hid hn
    clear hn
    have gb2 := gb.trans (b1.mono gb.size)
    clear b1
    go_wp2_with fail
    refine (Frame.put_ok A2 n2 c2 (bodyL b) w2.heap.size w2 o.rd (Nat.le_refl _) HN.out).mono ?_
    rintro e w3 ⟨A3, n3, c3, rfl, o3, b3⟩
    have gb3 := gb2.trans (b3.mono gb2.size)
    have o3' := o3.mono (base' := w.heap.size) gb2.size
    clear o o3 b3
    go_wp2_with fail
    go_ret2
    rw [HP.out]
    exact ⟨A3, n3, c3, rfl, o3', gb3⟩
end Go.Proofs.Ytocoohpekpkmkaa

/- The walk of board.Get. -/
namespace Go.Proofs.Ytocoohpekpkmkaa
set_option linter.unusedVariables false
set_option linter.unusedSimpArgs false
set_option maxRecDepth 100000
open Go.RowKit
open Reg (La Vl)
namespace Bo
def z8l : List La := List.replicate 8 (0, 0, 0)
/-- the board of a frame's body -/
def getX (xs : List UInt8) : Except Nat Bd :=
  match rows stepT Tally.zero xs with
  | .error y => .error y
  | .ok (t, r) => match rows stepP z8l r with
    | .error y => .error y
    | .ok (p, r') => match notesE r' with
      | .error y => .error y
      | .ok ((U, l), _) => if rightB ⟨t, p, U, l⟩ = true ∧ bodyL ⟨t, p, U, l⟩ = xs then .ok ⟨t, p, U, l⟩ else .error 4
def getE (bs : List UInt8) : Except Nat Bd :=
  match Frame.dec bs with
  | .error y => .error y
  | .ok (xs, r) => if r = [] then getX xs else .error 4
end Bo
def getBo (bs : List UInt8) : Bd × Nat := match Bo.getE bs with
  | .error y => (Bo.zero, y)
  | .ok b => (b, 0)
theorem getBo_err {bs : List UInt8} {y : Nat} (h : Bo.getE bs = .error y) : getBo bs = (Bo.zero, y) := by unfold getBo; rw [h]
theorem getBo_ok {bs : List UInt8} {b : Bd} (h : Bo.getE bs = .ok b) : getBo bs = (b, 0) := by unfold getBo; rw [h]
theorem getE_dec {bs : List UInt8} {y : Nat} (h : Frame.dec bs = .error y) : Bo.getE bs = .error y := by unfold Bo.getE; rw [h]
theorem getE_rest {bs xs r : List UInt8} (h : Frame.dec bs = .ok (xs, r)) (hr : r ≠ []) : Bo.getE bs = .error 4 := by unfold Bo.getE; rw [h]; simp only; rw [if_neg hr]
theorem getE_x {bs xs : List UInt8} (h : Frame.dec bs = .ok (xs, [])) : Bo.getE bs = Bo.getX xs := by unfold Bo.getE; rw [h]; simp only; rw [if_pos trivial]
theorem equal_ne (A1 A2 : Option Addr) (n1 c1 n2 c2 : Nat) (w : World) (hne : n1 ≠ n2) :
    Calls Try.prog 71 #[.slice A1 n1 c1, .slice A2 n2 c2] w fun e w' => e = .returned (.bool false) ∧ w' = w := by
  have hq : (((n1 : Nat) : Int) != (n2 : Nat)) = true := by rw [bne_iff_ne]; omega
  go_enter Try.func71, Try.ntmps71
  go_wp2_with fail
  go_ret
  exact ⟨rfl, rfl⟩
theorem equal_both (A1 A2 : Option Addr) (n1 c1 n2 c2 : Nat) (xs ys : List UInt8) (B1 B2 : Nat) (w : World) (h1 : RdB w B1 A1 n1 xs) (h2 : RdB w B2 A2 n2 ys) (hl : n1 ≤ 9223372036854775807) :
    Calls Try.prog 71 #[.slice A1 n1 c1, .slice A2 n2 c2] w fun e w' => e = .returned (.bool (decide (xs = ys))) ∧ ∃ m, w' = w.drewN m := by
  by_cases hne : n1 = n2
  · exact Frame.equal_any A1 A2 n1 c1 n2 c2 xs ys B1 B2 w h1 h2 hl hne
  · refine (equal_ne A1 A2 n1 c1 n2 c2 w hne).mono ?_
    rintro e w' ⟨rfl, rfl⟩
    have hd : ¬ xs = ys := fun e => hne (by rw [h1.1, h2.1, e])
    exact ⟨by rw [decide_eq_false hd], 0, rfl⟩
set_option maxHeartbeats 1600000 in
theorem bget_any (A : Option Addr) (n c : Nat) (bs : List UInt8) (w : World) (hb : RdB w w.heap.size A n bs) (hl : n ≤ 1000000) (hc : n ≤ c) (hm : c ≤ maxLen) :
    Calls Try.prog 34 #[.slice A n c] w (GiveBdE 49 w (getBo bs).1 (getBo bs).2) := by
  obtain ⟨x, k, hx⟩ : ∃ x k, getBo bs = (x, k) := ⟨_, _, rfl⟩
  rw [hx]
  have HX := Lib.hid hx
  have HRB := Lib.hid hb
  have HL := Lib.hid hl
  have HC := Lib.hid hc
  have HM := Lib.hid hm
  have z49 := Lib.hid (bc_size (s := .slice none 0 0) Bo.zero_shaped)
  clear hx hb hl hc hm
  go_enter_defers Try.func34, Try.ntmps34
  go_upto_region 2 with fail
  refine nameW ?_
  intro W hW
  obtain ⟨B, hB⟩ : ∃ B, B = w.heap.size := ⟨_, rfl⟩
  rw [← hB]
  have ke : Blk W B 83 (bc Bo.zero (.slice none 0 0)) := by rw [hW, hB, zbo]; exact (Blk.new w _ _).alloc _
  have kf : Blk W (B + 1) 33 #[.int .i64 0] := by
    have h := Blk.new (w.alloc (.cells (bc Bo.zero (.slice none 0 0)) 83)) 33 #[.int .i64 0]
    rw [zbo] at h
    rw [hW, hB]
    simpa using h
  have gb : Below B w W := by rw [hW, hB]; exact ((Below.refl _ _).alloc (Nat.le_refl _) _).alloc (by simp) _
  have HB := Lib.hid hB
  clear hW hB
  have hfr := HRB.out.below (by rw [← HB.out]; exact gb)
  go_wp2_with fail
  refine (Frame.get_any A n c bs w.heap.size W hfr (by have := gb.size; have := HB.out; have := kf.lt; omega) (by have := HL.out; omega) HC.out HM.out).mono ?_
  rintro e w1 ⟨b1, he⟩
  have ke := ke.below b1 ke.lt
  have kf := kf.below b1 kf.lt
  have gb := gb.trans (b1.mono (by have := kf.lt; have := ke.lt; have := gb.size; have := HB.out; omega))
  clear hfr
  rcases hd : Frame.dec bs with y | ⟨xs, r⟩
  · rw [hd] at he
    simp only at he
    subst he
    have hy := Frame.dec_err hd
    have hq : ((y : Int) == 0) = false := by rw [beq_eq_false_iff_ne]; omega
    have HD := Lib.hid hd
    clear hd hy b1
    go_wp2_with fail
    refine (bmust_bad _ _).mono ?_
    rintro e w2 ⟨rfl, rfl⟩
    have hxk : Bo.zero = x ∧ (y : Nat) = k := by
      have := HX.out
      rw [getBo_err (show Bo.getE bs = .error y by exact getE_dec HD.out)] at this
      injection this with h1 h2
      exact ⟨h1, h2⟩
    obtain ⟨rfl, rfl⟩ := hxk
    go_wp2_with fail
    refine leaves_cons (f := 62) (args := #[.pointer (some ⟨B + 1, 0, none⟩)]) (by simp) (by simp [go_sem]) ?_
    refine (bcaught_panic _ _ _ _ _ (kf.cell 0) (kf.free 0)).mono ?_
    rintro e u' wZ ⟨rfl, rfl, rfl⟩
    have k4 := (kf.alloc (.cells #[.int .i64 ((y : Nat) : Int)] 171)).set_ 0 (.int .i64 ((y : Nat) : Int))
    have e4 := (ke.alloc (.cells #[.int .i64 ((y : Nat) : Int)] 171)).far (p := ⟨B + 1, 0, none⟩) (by show B ≠ B + 1; omega) (.int .i64 ((y : Nat) : Int))
    have c4 := k4.cell 0
    have g4 := (gb.alloc (by have := gb.size; have := HB.out; omega) (.cells #[.int .i64 ((y : Nat) : Int)] 171)).setCell (p := ⟨B + 1, 0, none⟩) (by show B ≤ B + 1; omega) (.int .i64 ((y : Nat) : Int))
    exact ⟨.tuple #[.agg (bc Bo.zero (.slice none 0 0)), .int .i64 ((y : Nat) : Int)], results_cc30 rfl rowBo e4 z49.out rfl rfl (by simp [go_sem, c4]), .agg (bc Bo.zero (.slice none 0 0)), rfl, ⟨none, 0, 0, rfl, OwnV.nil _ _ _, by omega⟩, by rw [← HB.out]; exact g4⟩
  rw [hd] at he
  simp only at he
  obtain ⟨A1, c1, A2, c2, rfl, o1, o2, _⟩ := he
  have HD := Lib.hid hd
  have hxl := (Frame.dec_ok hd).2
  have HXL := Lib.hid hxl
  clear hd hxl b1
  go_wp2_with fail
  refine (bmust_ok _ _).mono ?_
  rintro e w2 ⟨rfl, rfl⟩
  by_cases hr : r = []
  case neg =>
    have hrl : ((r.length : Nat) : Int) ≠ 0 := by
      intro h
      exact hr (List.eq_nil_of_length_eq_zero (by omega))
    have hq : (((r.length : Nat) : Int) == 0) = false := by rw [beq_eq_false_iff_ne]; exact hrl
    have hrn : ¬ r.length = 0 := by omega
    have HRR := Lib.hid hr
    clear hr hrl
    go_wp2_with fail
    refine (bmust_no (by simp [HRR.out]) _ _).mono ?_
    rintro e w2 ⟨rfl, rfl⟩
    have hxk : Bo.zero = x ∧ (4 : Nat) = k := by
      have := HX.out
      rw [getBo_err (show Bo.getE bs = .error 4 by exact getE_rest HD.out HRR.out)] at this
      injection this with h1 h2
      exact ⟨h1, h2⟩
    obtain ⟨rfl, rfl⟩ := hxk
    go_wp2_with fail
    refine leaves_cons (f := 62) (args := #[.pointer (some ⟨B + 1, 0, none⟩)]) (by simp) (by simp [go_sem]) ?_
    refine (bcaught_panic _ _ _ _ _ (kf.cell 0) (kf.free 0)).mono ?_
    rintro e u' wZ ⟨rfl, rfl, rfl⟩
    have k4 := (kf.alloc (.cells #[.int .i64 4] 171)).set_ 0 (.int .i64 4)
    have e4 := (ke.alloc (.cells #[.int .i64 4] 171)).far (p := ⟨B + 1, 0, none⟩) (by show B ≠ B + 1; omega) (.int .i64 4)
    have c4 := k4.cell 0
    have g4 := (gb.alloc (by have := gb.size; have := HB.out; omega) (.cells #[.int .i64 4] 171)).setCell (p := ⟨B + 1, 0, none⟩) (by show B ≤ B + 1; omega) (.int .i64 4)
    exact ⟨.tuple #[.agg (bc Bo.zero (.slice none 0 0)), .int .i64 4], results_cc30 rfl rowBo e4 z49.out rfl rfl (by simp [go_sem, c4]), .agg (bc Bo.zero (.slice none 0 0)), rfl, ⟨none, 0, 0, rfl, OwnV.nil _ _ _, by omega⟩, by rw [← HB.out]; exact g4⟩
  case pos =>
  subst hr
  go_wp2_with fail
  refine (bmust_yes (by simp) _ _).mono ?_
  rintro e w2 ⟨rfl, rfl⟩
  have hxr := o1.rd
  clear o2
  go_wp2_with fail
  refine (new_any A1 _ c1 xs _ w1 hxr (Nat.le_refl _) (by have := HXL.out; omega)).mono ?_
  rintro e w2 ⟨A3, c3, g, rfl, hg, R2, b2⟩
  obtain ⟨L1, hL1⟩ : ∃ L1, L1 = w1.heap.size := ⟨_, rfl⟩
  have hgB : B + 1 < g := by have := kf.lt; omega
  have hLB : B + 1 < L1 := by have := kf.lt; omega
  have ke := ke.below b2 ke.lt
  have kf := kf.below b2 kf.lt
  have gb := gb.trans (b2.mono (by have := gb.size; have := HB.out; omega))
  have gA : Below L1 w1 w2 := by rw [hL1]; exact b2
  have hgL : L1 ≤ g := by omega
  have HX1 := Lib.hid (show RdB w1 L1 A1 xs.length xs by rw [hL1]; exact hxr)
  have HL1 := Lib.hid hL1
  clear b2 hg hxr hL1
  go_upto_region 7 with fail
  refine nameW ?_
  intro W2 hW2
  obtain ⟨v, hv⟩ : ∃ v, v = w2.heap.size := ⟨_, rfl⟩
  rw [← hv]
  have kv : Blk W2 v 129 #[.pointer (some ⟨g, 0, none⟩)] := by rw [hW2, hv]; exact (Blk.new w2 _ _).alloc _
  have kY : Blk W2 (v + 1) 83 (bc Bo.zero (.slice none 0 0)) := by
    have h := Blk.new (w2.alloc (.cells #[.pointer (some ⟨g, 0, none⟩)] 129)) 83 (bc Bo.zero (.slice none 0 0))
    rw [zbo] at h ⊢
    rw [hW2, hv]
    simpa using h
  have bA : Below w2.heap.size w2 W2 := by rw [hW2]; exact ((Below.refl _ _).alloc (Nat.le_refl _) _).alloc (by simp) _
  have ke := ke.below bA ke.lt
  have kf := kf.below bA kf.lt
  have gb := gb.trans (bA.mono (by have := gb.size; have := HB.out; omega))
  have gA := gA.trans (bA.mono (by have := gA.size; have := HL1.out; omega))
  have R2 := R2.below (bA.mono (by have := R2.lt; omega))
  have hgv : g < v := by have := R2.lt; rw [hv]; have := kv.lt; exact Nat.lt_of_lt_of_le (lt_of_block ‹Rdr w2 g A3 xs.length c3 xs 0›.1) (Nat.le_refl _)
  clear hW2 bA hv
  go_wp2_with ((with_reducible refine wpList_ld (n := 1) rowRd30 kv rfl ?_ ?_); rotate_left; (rfl))
  refine (writes_any g A3 _ c3 xs W2 R2).mono ?_
  intro e w3 hBB
  cases hR1 : Bo.rows Bo.stepT Tally.zero xs with
  | error y =>
    obtain ⟨rfl, gg⟩ := hBB.bad hR1
    have ke := ke.grown gg (by intro e; injection e with e; omega)
    have kf := kf.grown gg (by intro e; injection e with e; omega)
    have gb := gb.grown gg (by have := gb.size; have := HB.out; omega) (fun q hq => by injection hq; omega)
    have gA := gA.trans (only_Below gg (by omega) (by have := gA.size; have := HL1.out; omega))
    have HR1 := Lib.hid hR1
    clear hBB hR1 gg
    have hxk : Bo.zero = x ∧ (y : Nat) = k := by
      have := HX.out
      rw [getBo_err (show Bo.getE bs = .error y by rw [getE_x HD.out]; unfold Bo.getX; rw [HR1.out])] at this
      injection this with h1 h2
      exact ⟨h1, h2⟩
    obtain ⟨rfl, rfl⟩ := hxk
    go_wp2_with fail
    refine leaves_cons (f := 62) (args := #[.pointer (some ⟨B + 1, 0, none⟩)]) (by simp) (by simp [go_sem]) ?_
    refine (bcaught_panic _ _ _ _ _ (kf.cell 0) (kf.free 0)).mono ?_
    rintro e u' wZ ⟨rfl, rfl, rfl⟩
    have k4 := (kf.alloc (.cells #[.int .i64 ((y : Nat) : Int)] 171)).set_ 0 (.int .i64 ((y : Nat) : Int))
    have e4 := (ke.alloc (.cells #[.int .i64 ((y : Nat) : Int)] 171)).far (p := ⟨B + 1, 0, none⟩) (by show B ≠ B + 1; omega) (.int .i64 ((y : Nat) : Int))
    have c4 := k4.cell 0
    have g4 := (gb.alloc (by have := gb.size; have := HB.out; omega) (.cells #[.int .i64 ((y : Nat) : Int)] 171)).setCell (p := ⟨B + 1, 0, none⟩) (by show B ≤ B + 1; omega) (.int .i64 ((y : Nat) : Int))
    exact ⟨.tuple #[.agg (bc Bo.zero (.slice none 0 0)), .int .i64 ((y : Nat) : Int)], results_cc30 rfl rowBo e4 z49.out rfl rfl (by simp [go_sem, c4]), .agg (bc Bo.zero (.slice none 0 0)), rfl, ⟨none, 0, 0, rfl, OwnV.nil _ _ _, by omega⟩, by rw [← HB.out]; exact g4⟩
  | ok p0 =>
  obtain ⟨t, r1⟩ := p0
  obtain ⟨_, rfl, ⟨rfl, ht16⟩, ⟨A4, c4, R4⟩, gg⟩ := hBB.good hR1
  have ke := ke.grown gg (by intro e; injection e with e; omega)
  have kf := kf.grown gg (by intro e; injection e with e; omega)
  have kv := kv.grown gg (by intro e; injection e with e; omega)
  have kY := kY.grown gg (by intro e; injection e with e; omega)
  have gb := gb.grown gg (by have := gb.size; have := HB.out; omega) (fun q hq => by injection hq; omega)
  have gA := gA.trans (only_Below gg (by omega) (by have := gA.size; have := HL1.out; omega))
  have HR1 := Lib.hid hR1
  have T16 := Lib.hid ht16
  have S16 := Lib.hid (show (tc t).size = 16 by rw [tc_size, ht16])
  have O16 := Lib.hid (tc_one t)
  have hth := kY.there_ (o := 0) (n := 16) (by rw [z49.out]; omega)
  clear hBB hR1 gg ht16 R2
  go_upto_region 8 with ((with_reducible refine wpList_str rowT hth S16.out O16.out ?_ ?_ ?_); rotate_left; (rfl); (rfl); intro w4 hw4)
  have gx := cells_grown w3 (v + 1) 0 (tc t).toList
  rw [← hw4] at gx
  have kY := kY.setT Bo.zero_shaped T16.out
  have kY : Blk w4 (v + 1) 83 (bc (Bo.pb t Bo.z8l) (.slice none 0 0)) := by rw [hw4]; exact kY
  have ke := ke.grown gx (by intro e; injection e with e; omega)
  have kf := kf.grown gx (by intro e; injection e with e; omega)
  have kv := kv.grown gx (by intro e; injection e with e; omega)
  have R4 := R4.below (only_Below gx (by omega) (by have := R4.lt; omega) : Below (g + 1) w3 w4)
  have gb := gb.grown gx (by have := gb.size; have := HB.out; omega) (fun q hq => by injection hq; omega)
  have gA := gA.trans (only_Below gx (by omega) (by have := gA.size; have := HL1.out; omega))
  clear gx hw4 hth
  have hmf : ∀ (fn : Fn) (first cap : Array Value) (w : World), (Instr.makeFunc fn first cap).run Try.prog w = .ok (.func fn first cap) w := fun _ _ _ _ => rfl
  have hck : ∀ args w, (callFunc 68 args).run Try.prog w = .ok (.enter 68 args) w := by
    intro args w
    simp [go_sem]
  have hrows := rows_any Bo.stepP (JP g v (v + 1) t) g (FT g (v + 1)) (show FT g (v + 1) g from .inl rfl) 68 #[.pointer (some ⟨v, 0, none⟩), .pointer (some ⟨v + 1, 0, none⟩)] hck
    (fun st w w' h hg => h.grown hgv (by omega) hg)
    (fun p st bs A n c w hp hr hj _ => get1_any g v (v + 1) hgv (by omega) (by omega) t p st bs A n c w hp hr hj)
    A4 _ c4 r1 Bo.z8l w4 R4 ⟨kv, kY, T16.out, rfl, rfl⟩ (fun k hk => by
      rcases hk with rfl | rfl
      · exact R4.lt
      · exact kY.lt)
  have HROWS := Lib.hid hrows
  clear hrows
  go_wp2_with ((with_reducible refine wpList_ld (n := 1) rowRd30 kv rfl ?_ ?_); rotate_left; (rfl))
  refine HROWS.out.mono ?_
  intro e w5 hBB
  have OO := Lib.hid (fun (o : Only (FT g (v + 1)) w4 w5) => And.intro (ke.keptOnly o (by rintro (h | h) <;> omega)) (And.intro (kf.keptOnly o (by rintro (h | h) <;> omega)) (And.intro (gb.trans (o.to_below (B := B) (by rintro k (h | h) <;> omega) (by have := ke.lt; omega))) (gA.trans (o.to_below (B := L1) (by rintro k (h | h) <;> omega) (by have := R4.lt; omega))))))
  clear HROWS hck kY kv R4
  cases hR2 : Bo.rows Bo.stepP Bo.z8l r1 with
  | error y =>
    obtain ⟨rfl, o⟩ := hBB.bad hR2
    obtain ⟨ke, kf, gb, gA⟩ := OO.out o
    have HR2 := Lib.hid hR2
    clear hBB hR2 o OO
    have hxk : Bo.zero = x ∧ (y : Nat) = k := by
      have := HX.out
      rw [getBo_err (show Bo.getE bs = .error y by rw [getE_x HD.out]; unfold Bo.getX; rw [HR1.out]; simp only [HR2.out])] at this
      injection this with h1 h2
      exact ⟨h1, h2⟩
    obtain ⟨rfl, rfl⟩ := hxk
    go_wp2_with fail
    refine leaves_cons (f := 62) (args := #[.pointer (some ⟨B + 1, 0, none⟩)]) (by simp) (by simp [go_sem]) ?_
    refine (bcaught_panic _ _ _ _ _ (kf.cell 0) (kf.free 0)).mono ?_
    rintro e u' wZ ⟨rfl, rfl, rfl⟩
    have k4 := (kf.alloc (.cells #[.int .i64 ((y : Nat) : Int)] 171)).set_ 0 (.int .i64 ((y : Nat) : Int))
    have e4 := (ke.alloc (.cells #[.int .i64 ((y : Nat) : Int)] 171)).far (p := ⟨B + 1, 0, none⟩) (by show B ≠ B + 1; omega) (.int .i64 ((y : Nat) : Int))
    have c4 := k4.cell 0
    have g4 := (gb.alloc (by have := gb.size; have := HB.out; omega) (.cells #[.int .i64 ((y : Nat) : Int)] 171)).setCell (p := ⟨B + 1, 0, none⟩) (by show B ≤ B + 1; omega) (.int .i64 ((y : Nat) : Int))
    exact ⟨.tuple #[.agg (bc Bo.zero (.slice none 0 0)), .int .i64 ((y : Nat) : Int)], results_cc30 rfl rowBo e4 z49.out rfl rfl (by simp [go_sem, c4]), .agg (bc Bo.zero (.slice none 0 0)), rfl, ⟨none, 0, 0, rfl, OwnV.nil _ _ _, by omega⟩, by rw [← HB.out]; exact g4⟩
  | ok p1 =>
  obtain ⟨pl, r2⟩ := p1
  obtain ⟨rfl, ⟨A5, c5, R5⟩, ⟨kv, kY, hsp⟩, o⟩ := hBB.good hR2
  obtain ⟨ke, kf, gb, gA⟩ := OO.out o
  have HR2 := Lib.hid hR2
  have HSP := Lib.hid hsp
  clear hBB hR2 o OO hsp
  go_wp2_with ((with_reducible refine wpList_ld (n := 1) rowRd30 kv rfl ?_ ?_); rotate_left; (rfl))
  refine (notes_any g A5 _ c5 r2 w5 R5).mono ?_
  intro e w6 hBB
  cases hR3 : Bo.notesE r2 with
  | error y =>
    obtain ⟨rfl, gg⟩ := hBB.bad hR3
    have ke := ke.grown gg (by intro e; injection e with e; omega)
    have kf := kf.grown gg (by intro e; injection e with e; omega)
    have gb := gb.grown gg (by have := gb.size; have := HB.out; omega) (fun q hq => by injection hq; omega)
    have gA := gA.trans (only_Below gg (by omega) (by have := gA.size; have := HL1.out; omega))
    have HR3 := Lib.hid hR3
    clear hBB hR3 gg
    have hxk : Bo.zero = x ∧ (y : Nat) = k := by
      have := HX.out
      rw [getBo_err (show Bo.getE bs = .error y by rw [getE_x HD.out]; unfold Bo.getX; rw [HR1.out]; simp only [HR2.out, HR3.out])] at this
      injection this with h1 h2
      exact ⟨h1, h2⟩
    obtain ⟨rfl, rfl⟩ := hxk
    go_wp2_with fail
    refine leaves_cons (f := 62) (args := #[.pointer (some ⟨B + 1, 0, none⟩)]) (by simp) (by simp [go_sem]) ?_
    refine (bcaught_panic _ _ _ _ _ (kf.cell 0) (kf.free 0)).mono ?_
    rintro e u' wZ ⟨rfl, rfl, rfl⟩
    have k4 := (kf.alloc (.cells #[.int .i64 ((y : Nat) : Int)] 171)).set_ 0 (.int .i64 ((y : Nat) : Int))
    have e4 := (ke.alloc (.cells #[.int .i64 ((y : Nat) : Int)] 171)).far (p := ⟨B + 1, 0, none⟩) (by show B ≠ B + 1; omega) (.int .i64 ((y : Nat) : Int))
    have c4 := k4.cell 0
    have g4 := (gb.alloc (by have := gb.size; have := HB.out; omega) (.cells #[.int .i64 ((y : Nat) : Int)] 171)).setCell (p := ⟨B + 1, 0, none⟩) (by show B ≤ B + 1; omega) (.int .i64 ((y : Nat) : Int))
    exact ⟨.tuple #[.agg (bc Bo.zero (.slice none 0 0)), .int .i64 ((y : Nat) : Int)], results_cc30 rfl rowBo e4 z49.out rfl rfl (by simp [go_sem, c4]), .agg (bc Bo.zero (.slice none 0 0)), rfl, ⟨none, 0, 0, rfl, OwnV.nil _ _ _, by omega⟩, by rw [← HB.out]; exact g4⟩
  | ok p2 =>
  obtain ⟨⟨U, l⟩, r3⟩ := p2
  obtain ⟨_, rfl, ⟨hU, hl8, AS, m, cS, rfl, os⟩, ⟨A6, c6, R6⟩, gg⟩ := hBB.good hR3
  have ke := ke.grown gg (by intro e; injection e with e; omega)
  have kf := kf.grown gg (by intro e; injection e with e; omega)
  have kv := kv.grown gg (by intro e; injection e with e; omega)
  have kY := kY.grown gg (by intro e; injection e with e; omega)
  have gb := gb.grown gg (by have := gb.size; have := HB.out; omega) (fun q hq => by injection hq; omega)
  have gA := gA.trans (only_Below gg (by omega) (by have := gA.size; have := HL1.out; omega))
  have HR3 := Lib.hid hR3
  have HU := Lib.hid hU
  have HL8 := Lib.hid hl8
  have S9 := Lib.hid (uc_size hU (.slice AS m cS))
  have O9 := Lib.hid (uc_one (U := U) (s := .slice AS m cS) rfl)
  have hth := kY.there_ (o := 40) (n := 9) (by rw [bc_size HSP.out]; omega)
  clear hBB hR3 gg hU hl8 R5 R6
  go_upto_region 10 with ((with_reducible refine wpList_str rowM hth S9.out O9.out ?_ ?_ ?_); rotate_left; (rfl); (rfl); intro w7 hw7)
  have gx := cells_grown w6 (v + 1) 40 (uc U (.slice AS m cS)).toList
  rw [← hw7] at gx
  have os := os.grown gx (.inr (own_ne os.2 kY (by decide)))
  have kY := kY.setN HSP.out (l := l) (s' := .slice AS m cS) HU.out
  obtain ⟨b, hbd⟩ : ∃ b : Bd, b = ⟨t, pl, U, l⟩ := ⟨_, rfl⟩
  have kY : Blk w7 (v + 1) 83 (bc b (.slice AS m cS)) := by rw [hw7, hbd]; exact kY
  have hsb : Bo.Shaped b := by rw [hbd]; exact ⟨T16.out, HSP.out.p, HU.out⟩
  have hbl : b.l = l := by rw [hbd]
  rw [← hbl] at os
  have ke := ke.grown gx (by intro e; injection e with e; omega)
  have kf := kf.grown gx (by intro e; injection e with e; omega)
  have gb := gb.grown gx (by have := gb.size; have := HB.out; omega) (fun q hq => by injection hq; omega)
  have gA := gA.trans (only_Below gx (by omega) (by have := gA.size; have := HL1.out; omega))
  have hm8 : m ≤ 100000 := by rw [os.1, hbl]; have := HL8.out; omega
  have HGX := Lib.hid (show Bo.getX xs = if Bo.rightB b = true ∧ bodyL b = xs then .ok b else .error 4 by unfold Bo.getX; rw [HR1.out]; simp only [HR2.out, HR3.out]; rw [← hbd])
  have HSB := Lib.hid hsb
  have HBL := Lib.hid hbl
  have HM8 := Lib.hid hm8
  have N49 := Lib.hid (bc_size (s := .slice AS m cS) hsb)
  have N1 := Lib.hid (bc_one (b := b) (s := .slice AS m cS) rfl)
  clear gx hw7 hth hbd hsb hbl hm8 kv HR1 HR2 HR3
  obtain ⟨R, hR⟩ : ∃ R, R = Bo.rightB b := ⟨_, rfl⟩
  have HRI := Lib.hid hR
  have hrt : Calls Try.prog _ _ w7 (GiveBo w7 R) := hR ▸ boRight_any b HSB.out (.agg (bc b (.slice AS m cS))) w7 ⟨AS, m, cS, rfl, os.rd, HM8.out⟩
  have HRT := Lib.hid hrt
  clear hR hrt
  go_wp2_with ((with_reducible refine wpList_ld rowBo kY N49.out ?_ ?_); rotate_left; (rfl))
  refine HRT.out.mono ?_
  rintro e w8 ⟨rfl, b8⟩
  have ke := ke.below b8 ke.lt
  have kf := kf.below b8 kf.lt
  have kY := kY.below b8 kY.lt
  have os := os.below b8 (Nat.le_refl _)
  have gb := gb.trans (b8.mono (by have := gb.size; have := HB.out; omega))
  have gA := gA.trans (b8.mono (by have := gA.size; have := HL1.out; omega))
  clear b8 HRT
  cases R
  case false =>
    go_wp2_with fail
    refine (bmust_bad 4 _).mono ?_
    rintro e w9 ⟨rfl, rfl⟩
    have hxk : Bo.zero = x ∧ (4 : Nat) = k := by
      have := HX.out
      rw [getBo_err (show Bo.getE bs = .error 4 by rw [getE_x HD.out, HGX.out, if_neg (by rw [← HRI.out]; simp)])] at this
      injection this with h1 h2
      exact ⟨h1, h2⟩
    obtain ⟨rfl, rfl⟩ := hxk
    go_wp2_with fail
    refine leaves_cons (f := 62) (args := #[.pointer (some ⟨B + 1, 0, none⟩)]) (by simp) (by simp [go_sem]) ?_
    refine (bcaught_panic _ _ _ _ _ (kf.cell 0) (kf.free 0)).mono ?_
    rintro e u' wZ ⟨rfl, rfl, rfl⟩
    have k4 := (kf.alloc (.cells #[.int .i64 4] 171)).set_ 0 (.int .i64 4)
    have e4 := (ke.alloc (.cells #[.int .i64 4] 171)).far (p := ⟨B + 1, 0, none⟩) (by show B ≠ B + 1; omega) (.int .i64 4)
    have c4 := k4.cell 0
    have g4 := (gb.alloc (by have := gb.size; have := HB.out; omega) (.cells #[.int .i64 4] 171)).setCell (p := ⟨B + 1, 0, none⟩) (by show B ≤ B + 1; omega) (.int .i64 4)
    exact ⟨.tuple #[.agg (bc Bo.zero (.slice none 0 0)), .int .i64 4], results_cc30 rfl rowBo e4 z49.out rfl rfl (by simp [go_sem, c4]), .agg (bc Bo.zero (.slice none 0 0)), rfl, ⟨none, 0, 0, rfl, OwnV.nil _ _ _, by omega⟩, by rw [← HB.out]; exact g4⟩
  case true =>
  go_wp2_with ((with_reducible refine wpList_ldg rowBo kY N49.out ?_ ?_ ?_); rotate_left; (rfl); (rfl))
  refine (bbody_any b HSB.out HRI.out.symm (.agg (bc b (.slice AS m cS))) w8 ⟨AS, m, cS, rfl, os.rd, HM8.out⟩).mono ?_
  rintro e w9 ⟨A7, n7, c7, rfl, o7, b9⟩
  have ke := ke.below b9 ke.lt
  have kf := kf.below b9 kf.lt
  have kY := kY.below b9 kY.lt
  have os := os.below b9 (Nat.le_refl _)
  have gb := gb.trans (b9.mono (by have := gb.size; have := HB.out; omega))
  have gA := gA.trans (b9.mono (by have := gA.size; have := HL1.out; omega))
  clear b9
  have hxs : RdB w9 L1 A1 xs.length xs := HX1.out.below gA
  have heq := equal_both A7 A1 n7 c7 xs.length c1 (bodyL b) xs _ _ w9 o7.rd hxs (Nat.le_trans (Nat.le_of_eq o7.1) (Nat.le_trans (bodyL_len HSB.out (right_l8 HRI.out.symm)) (by decide)))
  have HEQ := Lib.hid heq
  clear o7 hxs heq
  by_cases hq : bodyL b = xs
  case neg =>
    have HQ := Lib.hid hq
    clear hq
    go_wp2_with fail
    refine HEQ.out.mono ?_
    rintro e wD ⟨rfl, mm, rfl⟩
    rw [decide_eq_false HQ.out]
    have ke : Blk (w9.drewN mm) B 83 (bc Bo.zero (.slice none 0 0)) := ke
    have kf : Blk (w9.drewN mm) (B + 1) 33 #[.int .i64 0] := kf
    have gb := below_drewN gb mm
    clear HEQ kY os gA
    go_wp2_with fail
    refine (bmust_bad 4 _).mono ?_
    rintro e wE ⟨rfl, rfl⟩
    have hxk : Bo.zero = x ∧ (4 : Nat) = k := by
      have := HX.out
      rw [getBo_err (show Bo.getE bs = .error 4 by rw [getE_x HD.out, HGX.out, if_neg (fun h => HQ.out h.2)])] at this
      injection this with h1 h2
      exact ⟨h1, h2⟩
    obtain ⟨rfl, rfl⟩ := hxk
    go_wp2_with fail
    refine leaves_cons (f := 62) (args := #[.pointer (some ⟨B + 1, 0, none⟩)]) (by simp) (by simp [go_sem]) ?_
    refine (bcaught_panic _ _ _ _ _ (kf.cell 0) (kf.free 0)).mono ?_
    rintro e u' wZ ⟨rfl, rfl, rfl⟩
    have k4 := (kf.alloc (.cells #[.int .i64 4] 171)).set_ 0 (.int .i64 4)
    have e4 := (ke.alloc (.cells #[.int .i64 4] 171)).far (p := ⟨B + 1, 0, none⟩) (by show B ≠ B + 1; omega) (.int .i64 4)
    have c4 := k4.cell 0
    have g4 := (gb.alloc (by have := gb.size; have := HB.out; omega) (.cells #[.int .i64 4] 171)).setCell (p := ⟨B + 1, 0, none⟩) (by show B ≤ B + 1; omega) (.int .i64 4)
    exact ⟨.tuple #[.agg (bc Bo.zero (.slice none 0 0)), .int .i64 4], results_cc30 rfl rowBo e4 z49.out rfl rfl (by simp [go_sem, c4]), .agg (bc Bo.zero (.slice none 0 0)), rfl, ⟨none, 0, 0, rfl, OwnV.nil _ _ _, by omega⟩, by rw [← HB.out]; exact g4⟩
  case pos =>
  have hxk : b = x ∧ 0 = k := by
    have := HX.out
    rw [getBo_ok (show Bo.getE bs = .ok b by rw [getE_x HD.out, HGX.out, if_pos ⟨HRI.out.symm, hq⟩])] at this
    injection this with h1 h2
    exact ⟨h1, h2⟩
  obtain ⟨rfl, rfl⟩ := hxk
  have HQ := Lib.hid hq
  clear hq
  go_wp2_with fail
  refine HEQ.out.mono ?_
  rintro e wD ⟨rfl, mm, rfl⟩
  rw [decide_eq_true HQ.out]
  have ke : Blk (w9.drewN mm) B 83 (bc Bo.zero (.slice none 0 0)) := ke
  have kf : Blk (w9.drewN mm) (B + 1) 33 #[.int .i64 0] := kf
  have kY : Blk (w9.drewN mm) (v + 1) 83 (bc b (.slice AS m cS)) := kY
  have gb := below_drewN gb mm
  have os : OwnV 49 (w9.drewN mm) 0 AS m cS b.l := os
  generalize w9.drewN mm = wD at *
  clear HEQ gA
  go_wp2_with fail
  refine (bmust_ok 4 _).mono ?_
  rintro e wE ⟨rfl, rfl⟩
  have cf := kf.cell 0
  have ff := kf.free 0
  go_wp2_with first
    | ((with_reducible refine wpList_ld rowBo kY N49.out ?_ ?_); rotate_left; (rfl))
    | ((with_reducible refine wpList_st rowBo ke N49.out z49.out N1.out ?_ ?_ ?_); rotate_left; (rfl); (rfl); intro w10 k10 g10 z10; have kf := kf.grown g10 (fun h => by injection h; omega); have cf := kf.cell 0; have ff := kf.free 0)
  have os := os.grown g10 (.inr (own_ne os.2 ke (by decide)))
  have gb := gb.grown g10 (by have := gb.size; have := HB.out; omega) (fun q hq => by injection hq; have := HB.out; omega)
  refine leaves_cons (f := 62) (args := #[.pointer (some ⟨B + 1, 0, none⟩)]) (by simp) (by simp [go_sem]) ?_
  refine (bcaught_none _ _).mono ?_
  rintro e u' w11 ⟨rfl, rfl, rfl⟩
  have k12 := k10.far (p := ⟨B + 1, 0, none⟩) (by show B ≠ B + 1; omega) (.int .i64 0)
  have f12 := kf.set_ 0 (.int .i64 0)
  have c12 := f12.cell 0
  have o12 := os.setFar (p := ⟨B + 1, 0, none⟩) (own_ne os.2 kf (by decide)) (.int .i64 0)
  have g12 := gb.setCell (p := ⟨B + 1, 0, none⟩) (by show B ≤ B + 1; omega) (.int .i64 0)
  exact ⟨.tuple #[.agg (bc b (.slice AS m cS)), .int .i64 0], results_cc30 rfl rowBo k12 N49.out rfl rfl (by simp [go_sem, c12]), .agg (bc b (.slice AS m cS)), rfl, ⟨AS, m, cS, rfl, o12, HM8.out⟩, by rw [← HB.out]; exact g12⟩
end Go.Proofs.Ytocoohpekpkmkaa

/- The walks of the law's To and From of boards. -/
namespace Go.Proofs.Ytocoohpekpkmkaa
set_option linter.unusedVariables false
set_option linter.unusedSimpArgs false
set_option maxRecDepth 100000
open Go.RowKit
open Reg (La Vl)
theorem run_indexRP (w : World) (p : List La) (hp : p.length = 8) (k : Nat) (hk : k < 8) : (Instr.index 74 (.agg (plA p)) (.int .i64 (k : Nat))).run Try.prog w = .ok (v3 (p.getD k (0, 0, 0))) w := by
  have hsz : (sizeOf 61).run Try.prog w = .ok 3 w := by kernel_rfl
  have hx := plA_at hp hk
  have hag : (isAgg 61).run Try.prog w = .ok true w := by kernel_rfl
  simp only [Instr.index, asIntOf, Sem.run_bind, Sem.run_pure, Result.andThen_ok, run_underlying Try.underlying74, hsz]
  rw [if_pos (by omega)]
  simp [part, hag, hsz, hx, v3, pc]
theorem half_len {p : List La} (hp : p.length = 8) {k : Nat} (hk : k ≤ 8) : (p.take k ++ Bo.z8l.drop k).length = 8 := by
  rw [List.length_append, List.length_take, List.length_drop, hp]
  show min k 8 + (8 - k) = 8
  omega
theorem half_succ {p : List La} (hp : p.length = 8) {k : Nat} (hk : k < 8) : (p.take k ++ Bo.z8l.drop k).set k (p.getD k (0, 0, 0)) = p.take (k + 1) ++ Bo.z8l.drop (k + 1) := by
  have h1 : (p.take k).length = k := by rw [List.length_take, hp]; omega
  have h2 : Bo.z8l.drop k = (0, 0, 0) :: Bo.z8l.drop (k + 1) := by
    rw [List.drop_eq_getElem_cons (show k < Bo.z8l.length from hk)]
    congr 1
    unfold Bo.z8l
    rw [List.getElem_replicate]
  rw [List.set_append_right _ _ (by omega), h1, Nat.sub_self, h2, List.set_cons_zero, take_snoc p (by omega), List.append_assoc, List.getD_eq_getElem?_getD, List.getElem?_eq_getElem (by omega)]
  rfl
theorem wp_bd {P : Program} {o : Oper} {a : Act} {w w' : World} {v : Value} {K : Act → World → Prop} {Q : Exit → Act → World → Prop} (t : TypeId) (parts : Array (Nat × Operand)) (ho : o.op = .build t parts)
    (hrun : (Instr.build t (parts.map fun (i, x) => (i, a.eval x))).run P w = .ok v w') (h : K (a.put o.dst v) w') : Oper.wp P o a w K Q := by
  unfold Oper.wp execOp
  simp only [ho, Sem.run_bind, hrun, Result.andThen_ok]
  exact h
theorem sixteen {l : List Int} (h : l.length = 16) : ∃ a b c d e f g i a' b' c' d' e' f' g' i', l = [a, b, c, d, e, f, g, i, a', b', c', d', e', f', g', i'] := by
  obtain ⟨a, b, c, d, e, f, g, i, h1⟩ := eight (U := l.take 8) (by rw [List.length_take]; omega)
  obtain ⟨a', b', c', d', e', f', g', i', h2⟩ := eight (U := l.drop 8) (by rw [List.length_drop]; omega)
  refine ⟨a, b, c, d, e, f, g, i, a', b', c', d', e', f', g', i', ?_⟩
  rw [← List.take_append_drop 8 l, h1, h2]
  rfl
theorem buildBo {t u : List Int} {l : List Vl} (ht : t.length = 16) (hu : u.length = 8) (s : Value) (w : World) : (Instr.build 83 #[(0, .agg (tc t)), (2, .agg (uc u s))]).run Try.prog w = .ok (.agg (bc ⟨t, Bo.z8l, u, l⟩ s)) w := by
  obtain ⟨a, b, c, d, e, f, g, i, a', b', c', d', e', f', g', i', rfl⟩ := sixteen ht
  obtain ⟨j1, j2, j3, j4, j5, j6, j7, j8, rfl⟩ := eight hu
  kernel_rfl
theorem buildRBo {t u : List Int} {l : List Vl} (ht : t.length = 16) (hu : u.length = 8) (s : Value) (w : World) : (Instr.build 76 #[(0, .agg (tc t)), (2, .agg (uc u s))]).run Try.prog w = .ok (.agg (bc ⟨t, Bo.z8l, u, l⟩ s)) w := by
  obtain ⟨a, b, c, d, e, f, g, i, a', b', c', d', e', f', g', i', rfl⟩ := sixteen ht
  obtain ⟨j1, j2, j3, j4, j5, j6, j7, j8, rfl⟩ := eight hu
  kernel_rfl
set_option maxHeartbeats 1600000 in
theorem boTo_any (b : Bd) (hs : Bo.Shaped b) (q : Value) (w : World) (hq : FrBo b q w) : Calls Try.prog 31 #[q] w (GiveBd 49 w b) := by
  obtain ⟨A, m, c, rfl, hr, hm⟩ := hq
  have HFR := Lib.hid fun (w' : World) (hb : Below w.heap.size w w') => (⟨A, m, c, rfl, (hr.below hb).size, hm⟩ : Fresh b.u b.l (.agg (uc b.u (.slice A m c))) w')
  have HS := Lib.hid hs
  have h49 := Lib.hid (bc_size (s := .slice A m c) hs)
  have z49 := Lib.hid (bc_size (s := .slice none 0 0) Bo.zero_shaped)
  have S16 := Lib.hid (show (tc b.t).size = 16 by rw [tc_size, hs.t])
  have S9 := Lib.hid (uc_size hs.u (.slice A m c))
  have S24 := Lib.hid (plA_size hs.p)
  have HBD := Lib.hid fun (s : Value) (w : World) => buildBo (l := b.l) hs.t hs.u s w
  clear hr hm hs
  go_enter Try.func31, Try.ntmps31
  go_upto_region 1 with fail
  refine nameW ?_
  intro wv hwv
  obtain ⟨g, hg⟩ : ∃ g, g = w.heap.size := ⟨_, rfl⟩
  rw [← hg]
  have k0 : Blk wv g 76 (bc b (.slice A m c)) := by rw [hwv, hg]; exact (Blk.new w _ _).alloc _
  have kz : Blk wv (g + 1) 83 (bc Bo.zero (.slice none 0 0)) := by
    have h := Blk.new (w.alloc (.cells (bc b (.slice A m c)) 76)) 83 (bc Bo.zero (.slice none 0 0))
    rw [zbo] at h ⊢
    rw [hwv, hg]
    simpa using h
  have gb : Below w.heap.size w wv := by rw [hwv]; exact ((Below.refl _ _).alloc (Nat.le_refl _) _).alloc (by simp) _
  have HG := Lib.hid hg
  clear hwv hg
  refine wp_region_tail 7 (fun L v w => v 1 = .pointer (some ⟨g, 0, none⟩) ∧ Below wv.heap.size wv w ∧ (L 0 = true → v 6 = .pointer (some ⟨g, 0, none⟩)) ∧ (L 1 = true → v 7 = .agg (tc b.t)) ∧ (L 2 = true → v 8 = .pointer (some ⟨g, 40, none⟩)) ∧ (L 3 = true → v 9 = .agg (uc b.u (.slice A m c))) ∧ (L 4 = true → FreshO 49 b.u b.l (v 10) w) ∧ (L 5 = true → FoBo 49 ⟨b.t, Bo.z8l, b.u, b.l⟩ (v 11) w) ∧ Al 83 49 wv.heap.size (L 6) false (v 3) undef w) [6, 7, 8, 9, 10, 11, 3] (by kernel_rfl) (by kernel_rfl) (by kernel_rfl) (by kernel_rfl) (by kernel_rfl) (by kernel_rfl) ?h0 ?hst ?hend
  case h0 =>
    intro L h0
    have h0 : ∀ i, i < 7 → L i = false := h0
    exact ⟨rfl, (Below.refl _ _).drew, offF h0 (i := 0) (by decide), offF h0 (i := 1) (by decide), offF h0 (i := 2) (by decide), offF h0 (i := 3) (by decide), offF h0 (i := 4) (by decide), offF h0 (i := 5) (by decide), Al.none_ (h0 6 (by decide)) rfl⟩
  case hst =>
    show FactSteps _ _ _ _ [0, 1, 2, 3, 4, 5, 6]
    refine @FactSteps.cons _ _ _ _ 0 _ [] _ rfl (by kernel_rfl) ?s0 ?_
    rotate_left
    refine @FactSteps.cons _ _ _ _ 1 _ [0] _ rfl (by kernel_rfl) ?s1 ?_
    rotate_left
    refine @FactSteps.cons _ _ _ _ 2 _ [] _ rfl (by kernel_rfl) ?s2 ?_
    rotate_left
    refine @FactSteps.cons _ _ _ _ 3 _ [2] _ rfl (by kernel_rfl) ?s3 ?_
    rotate_left
    refine @FactSteps.cons _ _ _ _ 4 _ [3] _ rfl (by kernel_rfl) ?s4 ?_
    rotate_left
    refine @FactSteps.cons _ _ _ _ 5 _ [1, 4] _ rfl (by kernel_rfl) ?s5 ?_
    rotate_left
    refine @FactSteps.cons _ _ _ _ 6 _ [] _ rfl (by kernel_rfl) ?s6 ?_
    rotate_left
    exact FactSteps.nil
    case s0 =>
      rintro L a v w hv hg hL hd hcl ⟨e1, hb, f0, f1, f2, f3, f4, f5, f6⟩ K hK
      refine step_do rfl ?_
      clear hv
      go_simp
      exact hK.out _ _ ⟨e1, hb, fun _ => rfl, f1, f2, f3, f4, f5, f6⟩
    case s1 =>
      rintro L a v w hv hg hL hd hcl ⟨e1, hb, f0, f1, f2, f3, f4, f5, f6⟩ K hK
      have g0 := f0 (hd 0 (by decide))
      refine step_do rfl ?_
      refine wp_ldr rowRT (.tmp 6) rfl ((hv 6).trans g0) ((k0.below hb k0.lt).tal HS.out) S16.out ?_
      exact hK.out _ _ ⟨e1, hb, f0, fun _ => rfl, f2, f3, f4, f5, f6⟩
    case s2 =>
      rintro L a v w hv hg hL hd hcl ⟨e1, hb, f0, f1, f2, f3, f4, f5, f6⟩ K hK
      refine step_do rfl ?_
      clear hv
      go_simp
      exact hK.out _ _ ⟨e1, hb, f0, f1, fun _ => rfl, f3, f4, f5, f6⟩
    case s3 =>
      rintro L a v w hv hg hL hd hcl ⟨e1, hb, f0, f1, f2, f3, f4, f5, f6⟩ K hK
      have g2 := f2 (hd 2 (by decide))
      refine step_do rfl ?_
      refine wp_ldr rowRM (.tmp 8) rfl ((hv 8).trans g2) ((k0.below hb k0.lt).notes HS.out) S9.out ?_
      exact hK.out _ _ ⟨e1, hb, f0, f1, f2, fun _ => rfl, f4, f5, f6⟩
    case s4 =>
      rintro L a v w hv hg hL hd hcl ⟨e1, hb, f0, f1, f2, f3, f4, f5, f6⟩ K hK
      have h3 := f3 (hd 3 (by decide))
      refine step_do rfl ?_
      clear hv
      go_simp
      refine (toF HS.out.u ((HFR.out w (gb.trans (hb.mono gb.size))))).mono ?_
      rintro e wy ⟨q, rfl, hq, bb⟩
      exact hK.out _ _ ⟨e1, (hb.trans (bb.mono hb.size)), f0, f1, f2, f3, fun _ => hq, (fun h => (f5 h).below bb), f6.below bb⟩
    case s5 =>
      rintro L a v w hv hg hL hd hcl ⟨e1, hb, f0, f1, f2, f3, f4, f5, f6⟩ K hK
      have g1 := f1 (hd 1 (by decide))
      have h4 := f4 (hd 4 (by decide))
      obtain ⟨A4, m4, c4, ev, ho4, hm4⟩ := h4
      refine step_do rfl ?_
      refine wp_bd (v := .agg (bc ⟨b.t, Bo.z8l, b.u, b.l⟩ (.slice A4 m4 c4))) (w' := w) 83 #[(0, .tmp 7), (2, .tmp 10)] rfl ?_ ?_
      · simp only [List.map_toArray, List.map_cons, List.map_nil, hv, g1, ev]; exact HBD.out _ _
      exact hK.out _ _ ⟨e1, hb, f0, f1, f2, f3, f4, fun _ => ⟨A4, m4, c4, rfl, ho4, hm4⟩, f6⟩
    case s6 =>
      rintro L a v w hv hg hL hd hcl ⟨e1, hb, f0, f1, f2, f3, f4, f5, f6⟩ K hK
      refine step_do rfl ?_
      go_simp
      have bb : Below w.heap.size w (w.alloc (.cells (bc Bo.zero (.slice none 0 0)) 83)) := (Below.refl _ _).alloc (Nat.le_refl _) _
      rw [hL] at f6
      exact hK.out _ _ ⟨e1, (hb.trans (bb.mono hb.size)), f0, f1, f2, f3, (fun h => (f4 h).below bb), (fun h => (f5 h).below bb), f6.alloc_ hb.size rfl⟩
  case hend =>
  rintro L v w1 hall ⟨e1, hb, f0, f1, f2, f3, f4, f5, f6⟩
  have hL : ∀ i, i < 7 → L i = true := hall
  have f0 := f0 (hL 0 (by decide))
  have f1 := f1 (hL 1 (by decide))
  have f2 := f2 (hL 2 (by decide))
  have f3 := f3 (hL 3 (by decide))
  have f4 := f4 (hL 4 (by decide))
  have f5 := f5 (hL 5 (by decide))
  rw [hL 6 (by decide)] at f6
  obtain ⟨A5, m5, c5, e11, o5, hm5⟩ := f5
  obtain ⟨X, ds, eX, hX, kX, hds, _⟩ := f6.2 rfl
  simp only [finA, List.foldl_cons, List.foldl_nil, Act.put, List.setIfInBounds_toArray, List.set_cons_succ, List.set_cons_zero, f0, f1, f2, f3, e11, eX]
  have hgz : g + 1 < wv.heap.size := kz.lt
  have k0 := k0.below hb k0.lt
  have kz := kz.below hb kz.lt
  have gb := gb.trans (hb.mono gb.size)
  have HM5 := Lib.hid hm5
  have HX := Lib.hid (show g + 1 < X by have := hX; omega)
  clear hgz
  obtain ⟨b0, hb0⟩ : ∃ b0 : Bd, b0 = ⟨b.t, Bo.z8l, b.u, b.l⟩ := ⟨_, rfl⟩
  have hs0 : Bo.Shaped b0 := by rw [hb0]; exact ⟨HS.out.t, rfl, HS.out.u⟩
  have T49 := Lib.hid (bc_size (s := .slice A5 m5 c5) hs0)
  have T1 := Lib.hid (bc_one (b := b0) (s := .slice A5 m5 c5) rfl)
  have HB0 := Lib.hid hb0
  have HS0 := Lib.hid hs0
  rw [← hb0] at o5 ⊢
  clear hs0 hb0
  clear e1 f0 f1 f2 f3 f4 f5 hL hall f6 e11 eX hb hm5 hX
  show wpList _ _ _ [_] _ _
  refine wpList_st rowBo kX T49.out hds T1.out (fun w2 k2 g2 z2 => ?_) rfl rfl
  have hne : A5.map (·.block) ≠ some X := own_ne o5.2 kX (by decide)
  have k0 := k0.grown g2 (by intro e; injection e with e; have := HX.out; omega)
  have kz := kz.grown g2 (by intro e; injection e with e; have := HX.out; omega)
  have o2 := o5.grown g2 (.inr hne)
  have gb := gb.grown g2 gb.size (fun q hq => by injection hq; have := HX.out; have := HG.out; omega)
  have hpl : w2.rangeAt g 16 (plA b.p).toList := k0.plans HS.out
  clear kX g2 z2 hds o5 hne
  go_wp2_with first
    | ((with_reducible refine wpList_ldr rowRPl hpl S24.out ?_ ?_); rotate_left; (rfl))
  go_loopw [14] (fun i wr => ∃ k : Nat, k ≤ 8 ∧ i = .int .i64 (k : Nat) ∧ Blk wr X 83 (bc { b0 with p := b.p.take k ++ Bo.z8l.drop k } (.slice A5 m5 c5)) ∧ OwnV 49 wr 0 A5 m5 c5 b0.l ∧ Blk wr (g + 1) 83 (bc Bo.zero (.slice none 0 0)) ∧ Below w.heap.size w wr) (fun i _ => 8 - (intOf i).toNat)
  case atStart => exact ⟨0, by omega, rfl, by have := k2; rw [HB0.out] at this ⊢; exact this, o2, kz, gb⟩
  case round =>
    clear k2 o2 kz gb k0 hpl
    obtain ⟨k, hk, rfl, kX, o, kz, gb⟩ := hrel
    by_cases hlt : k < 8
    · have hk0 : (0 : Int) ≤ (k : Int) := by omega
      have hk1 : (k : Int) < 8 := by omega
      have hix := fun w' => run_indexRP w' b.p HS.out.p k hlt
      have hst := half_succ HS.out.p hlt
      obtain ⟨q, hq⟩ : ∃ q, q = b.p.getD k (0, 0, 0) := ⟨_, rfl⟩
      rw [← hq] at hix hst
      obtain ⟨x, y, z⟩ := q
      unfold v3 at hix
      simp only at hix
      have HIX := Lib.hid hix
      have HST := Lib.hid hst
      have HSS := Lib.hid (show Bo.Shaped { b0 with p := b.p.take k ++ Bo.z8l.drop k } from ⟨HS0.out.t, half_len HS.out.p hk, HS0.out.u⟩)
      clear hix hst hq
      go_upto_region 5 with first
        | ((with_reducible refine wpList_ix (HIX.out _) ?_ ?_ ?_); rotate_left; (rfl); (rfl))
        | ((with_reducible refine wpList_st (cs := #[.int .i64 x, .int .i64 y, .int .i64 z]) rowRLa (Blk.new _ _ _) (th_size _ _ _) ?_ (th_one _ _ _) ?_ ?_ ?_); (rfl); rotate_left; (rfl); (rfl); intro w3 kq g3 z3)
      have bq : Below wr.heap.size wr w3 := new_below g3
      have kX := kX.below bq kX.lt
      have kz := kz.below bq kz.lt
      have o := o.below bq (Nat.le_refl _)
      have gb := gb.trans (bq.mono gb.size)
      have hth := kX.there_ (o := 16 + k * 3) (n := 3) (by rw [bc_size HSS.out]; omega)
      have gS := cells_grown w3 X (16 + k * 3) [.int .i64 x, .int .i64 y, .int .i64 z]
      have hXg := HX.out
      have o4 := o.grown gS (.inr (own_ne o.2 kX (by decide)))
      have kz4 := kz.grown gS (by intro e; injection e with e; omega)
      have gb4 := gb.grown gS gb.size (fun q hq => by injection hq; have := HG.out; omega)
      have kX4 := kX.setP HSS.out hlt (x, y, z)
      rw [HST.out] at kX4
      have HH := Lib.hid (And.intro kX4 (And.intro o4 (And.intro kz4 gb4)))
      clear g3 z3 bq gS o4 kz4 gb4 kX4 hXg kz gb o kX
      go_wp2_with first
        | ((with_reducible refine wpList_ld rowRLa kq (th_size _ _ _) ?_ ?_); rotate_left; (rfl))
        | ((with_reducible refine wpList_str (cs := #[.int .i64 x, .int .i64 y, .int .i64 z]) rowLa hth (th_size _ _ _) (th_one _ _ _) ?_ ?_ ?_); rotate_left; (rfl); (rfl); intro w4 hw4)
      go_roundw
      case rel => exact ⟨k + 1, by omega, by go_num, HH.out.1, HH.out.2.1, HH.out.2.2.1, HH.out.2.2.2⟩
      case measure => simp [intOf]; omega
    · obtain rfl : k = 8 := by omega
      have hb8 : ({ b0 with p := b.p.take 8 ++ Bo.z8l.drop 8 } : Bd) = b := by
        rw [HB0.out, List.take_of_length_le (by rw [HS.out.p]; exact Nat.le_refl _), show Bo.z8l.drop 8 = [] from rfl, List.append_nil]
      have kX : Blk wr X 83 (bc b (.slice A5 m5 c5)) := by rw [← hb8]; exact kX
      have hbl : b0.l = b.l := by rw [HB0.out]
      rw [hbl] at o
      have B49 := Lib.hid (bc_size (s := .slice A5 m5 c5) HS.out)
      have B1 := Lib.hid (bc_one (b := b) (s := .slice A5 m5 c5) rfl)
      clear hb8 hbl
      go_wp2_with first
        | ((with_reducible refine wpList_ld rowBo kX B49.out ?_ ?_); rotate_left; (rfl))
        | ((with_reducible refine wpList_st rowBo kz B49.out z49.out B1.out ?_ ?_ ?_); rotate_left; (rfl); (rfl); intro w5 k5 g5 z5)
      exact bodyPost_ret (v := .agg (bc b (.slice A5 m5 c5))) (results_blk rfl rowBo k5 B49.out rfl) rfl ⟨_, rfl, ⟨A5, m5, c5, rfl, o.grown g5 (.inr (own_ne o.2 kz (by decide))), HM5.out⟩, gb.grown g5 gb.size (fun q hq => by injection hq; have := HG.out; omega)⟩
set_option maxHeartbeats 1600000 in
theorem boFrom_any (b : Bd) (hs : Bo.Shaped b) (q : Value) (w : World) (hq : FrBo b q w) : Calls Try.prog 36 #[q] w (GiveBd 105 w b) := by
  obtain ⟨A, m, c, rfl, hr, hm⟩ := hq
  have HFR := Lib.hid fun (w' : World) (hb : Below w.heap.size w w') => (⟨A, m, c, rfl, (hr.below hb).size, hm⟩ : Fresh b.u b.l (.agg (uc b.u (.slice A m c))) w')
  have HS := Lib.hid hs
  have h49 := Lib.hid (bc_size (s := .slice A m c) hs)
  have z49 := Lib.hid (bc_size (s := .slice none 0 0) Bo.zero_shaped)
  have S16 := Lib.hid (show (tc b.t).size = 16 by rw [tc_size, hs.t])
  have S9 := Lib.hid (uc_size hs.u (.slice A m c))
  have S24 := Lib.hid (plA_size hs.p)
  have HBD := Lib.hid fun (s : Value) (w : World) => buildRBo (l := b.l) hs.t hs.u s w
  clear hr hm hs
  go_enter Try.func36, Try.ntmps36
  go_upto_region 1 with fail
  refine nameW ?_
  intro wv hwv
  obtain ⟨g, hg⟩ : ∃ g, g = w.heap.size := ⟨_, rfl⟩
  rw [← hg]
  have k0 : Blk wv g 83 (bc b (.slice A m c)) := by rw [hwv, hg]; exact (Blk.new w _ _).alloc _
  have kz : Blk wv (g + 1) 76 (bc Bo.zero (.slice none 0 0)) := by
    have h := Blk.new (w.alloc (.cells (bc b (.slice A m c)) 83)) 76 (bc Bo.zero (.slice none 0 0))
    rw [zbo] at h ⊢
    rw [hwv, hg]
    simpa using h
  have gb : Below w.heap.size w wv := by rw [hwv]; exact ((Below.refl _ _).alloc (Nat.le_refl _) _).alloc (by simp) _
  have HG := Lib.hid hg
  clear hwv hg
  refine wp_region_tail 7 (fun L v w => v 1 = .pointer (some ⟨g, 0, none⟩) ∧ Below wv.heap.size wv w ∧ (L 0 = true → v 6 = .pointer (some ⟨g, 0, none⟩)) ∧ (L 1 = true → v 7 = .agg (tc b.t)) ∧ (L 2 = true → v 8 = .pointer (some ⟨g, 40, none⟩)) ∧ (L 3 = true → v 9 = .agg (uc b.u (.slice A m c))) ∧ (L 4 = true → FreshO 105 b.u b.l (v 10) w) ∧ (L 5 = true → FoBo 105 ⟨b.t, Bo.z8l, b.u, b.l⟩ (v 11) w) ∧ Al 76 49 wv.heap.size (L 6) false (v 3) undef w) [6, 7, 8, 9, 10, 11, 3] (by kernel_rfl) (by kernel_rfl) (by kernel_rfl) (by kernel_rfl) (by kernel_rfl) (by kernel_rfl) ?h0 ?hst ?hend
  case h0 =>
    intro L h0
    have h0 : ∀ i, i < 7 → L i = false := h0
    exact ⟨rfl, (Below.refl _ _).drew, offF h0 (i := 0) (by decide), offF h0 (i := 1) (by decide), offF h0 (i := 2) (by decide), offF h0 (i := 3) (by decide), offF h0 (i := 4) (by decide), offF h0 (i := 5) (by decide), Al.none_ (h0 6 (by decide)) rfl⟩
  case hst =>
    show FactSteps _ _ _ _ [0, 1, 2, 3, 4, 5, 6]
    refine @FactSteps.cons _ _ _ _ 0 _ [] _ rfl (by kernel_rfl) ?s0 ?_
    rotate_left
    refine @FactSteps.cons _ _ _ _ 1 _ [0] _ rfl (by kernel_rfl) ?s1 ?_
    rotate_left
    refine @FactSteps.cons _ _ _ _ 2 _ [] _ rfl (by kernel_rfl) ?s2 ?_
    rotate_left
    refine @FactSteps.cons _ _ _ _ 3 _ [2] _ rfl (by kernel_rfl) ?s3 ?_
    rotate_left
    refine @FactSteps.cons _ _ _ _ 4 _ [3] _ rfl (by kernel_rfl) ?s4 ?_
    rotate_left
    refine @FactSteps.cons _ _ _ _ 5 _ [1, 4] _ rfl (by kernel_rfl) ?s5 ?_
    rotate_left
    refine @FactSteps.cons _ _ _ _ 6 _ [] _ rfl (by kernel_rfl) ?s6 ?_
    rotate_left
    exact FactSteps.nil
    case s0 =>
      rintro L a v w hv hg hL hd hcl ⟨e1, hb, f0, f1, f2, f3, f4, f5, f6⟩ K hK
      refine step_do rfl ?_
      clear hv
      go_simp
      exact hK.out _ _ ⟨e1, hb, fun _ => rfl, f1, f2, f3, f4, f5, f6⟩
    case s1 =>
      rintro L a v w hv hg hL hd hcl ⟨e1, hb, f0, f1, f2, f3, f4, f5, f6⟩ K hK
      have g0 := f0 (hd 0 (by decide))
      refine step_do rfl ?_
      refine wp_ldr rowT (.tmp 6) rfl ((hv 6).trans g0) ((k0.below hb k0.lt).tal HS.out) S16.out ?_
      exact hK.out _ _ ⟨e1, hb, f0, fun _ => rfl, f2, f3, f4, f5, f6⟩
    case s2 =>
      rintro L a v w hv hg hL hd hcl ⟨e1, hb, f0, f1, f2, f3, f4, f5, f6⟩ K hK
      refine step_do rfl ?_
      clear hv
      go_simp
      exact hK.out _ _ ⟨e1, hb, f0, f1, fun _ => rfl, f3, f4, f5, f6⟩
    case s3 =>
      rintro L a v w hv hg hL hd hcl ⟨e1, hb, f0, f1, f2, f3, f4, f5, f6⟩ K hK
      have g2 := f2 (hd 2 (by decide))
      refine step_do rfl ?_
      refine wp_ldr rowM (.tmp 8) rfl ((hv 8).trans g2) ((k0.below hb k0.lt).notes HS.out) S9.out ?_
      exact hK.out _ _ ⟨e1, hb, f0, f1, f2, fun _ => rfl, f4, f5, f6⟩
    case s4 =>
      rintro L a v w hv hg hL hd hcl ⟨e1, hb, f0, f1, f2, f3, f4, f5, f6⟩ K hK
      have h3 := f3 (hd 3 (by decide))
      refine step_do rfl ?_
      clear hv
      go_simp
      refine (fromF HS.out.u ((HFR.out w (gb.trans (hb.mono gb.size))))).mono ?_
      rintro e wy ⟨q, rfl, hq, bb⟩
      exact hK.out _ _ ⟨e1, (hb.trans (bb.mono hb.size)), f0, f1, f2, f3, fun _ => hq, (fun h => (f5 h).below bb), f6.below bb⟩
    case s5 =>
      rintro L a v w hv hg hL hd hcl ⟨e1, hb, f0, f1, f2, f3, f4, f5, f6⟩ K hK
      have g1 := f1 (hd 1 (by decide))
      have h4 := f4 (hd 4 (by decide))
      obtain ⟨A4, m4, c4, ev, ho4, hm4⟩ := h4
      refine step_do rfl ?_
      refine wp_bd (v := .agg (bc ⟨b.t, Bo.z8l, b.u, b.l⟩ (.slice A4 m4 c4))) (w' := w) 76 #[(0, .tmp 7), (2, .tmp 10)] rfl ?_ ?_
      · simp only [List.map_toArray, List.map_cons, List.map_nil, hv, g1, ev]; exact HBD.out _ _
      exact hK.out _ _ ⟨e1, hb, f0, f1, f2, f3, f4, fun _ => ⟨A4, m4, c4, rfl, ho4, hm4⟩, f6⟩
    case s6 =>
      rintro L a v w hv hg hL hd hcl ⟨e1, hb, f0, f1, f2, f3, f4, f5, f6⟩ K hK
      refine step_do rfl ?_
      go_simp
      have bb : Below w.heap.size w (w.alloc (.cells (bc Bo.zero (.slice none 0 0)) 76)) := (Below.refl _ _).alloc (Nat.le_refl _) _
      rw [hL] at f6
      exact hK.out _ _ ⟨e1, (hb.trans (bb.mono hb.size)), f0, f1, f2, f3, (fun h => (f4 h).below bb), (fun h => (f5 h).below bb), f6.alloc_ hb.size rfl⟩
  case hend =>
  rintro L v w1 hall ⟨e1, hb, f0, f1, f2, f3, f4, f5, f6⟩
  have hL : ∀ i, i < 7 → L i = true := hall
  have f0 := f0 (hL 0 (by decide))
  have f1 := f1 (hL 1 (by decide))
  have f2 := f2 (hL 2 (by decide))
  have f3 := f3 (hL 3 (by decide))
  have f4 := f4 (hL 4 (by decide))
  have f5 := f5 (hL 5 (by decide))
  rw [hL 6 (by decide)] at f6
  obtain ⟨A5, m5, c5, e11, o5, hm5⟩ := f5
  obtain ⟨X, ds, eX, hX, kX, hds, _⟩ := f6.2 rfl
  simp only [finA, List.foldl_cons, List.foldl_nil, Act.put, List.setIfInBounds_toArray, List.set_cons_succ, List.set_cons_zero, f0, f1, f2, f3, e11, eX]
  have hgz : g + 1 < wv.heap.size := kz.lt
  have k0 := k0.below hb k0.lt
  have kz := kz.below hb kz.lt
  have gb := gb.trans (hb.mono gb.size)
  have HM5 := Lib.hid hm5
  have HX := Lib.hid (show g + 1 < X by have := hX; omega)
  clear hgz
  obtain ⟨b0, hb0⟩ : ∃ b0 : Bd, b0 = ⟨b.t, Bo.z8l, b.u, b.l⟩ := ⟨_, rfl⟩
  have hs0 : Bo.Shaped b0 := by rw [hb0]; exact ⟨HS.out.t, rfl, HS.out.u⟩
  have T49 := Lib.hid (bc_size (s := .slice A5 m5 c5) hs0)
  have T1 := Lib.hid (bc_one (b := b0) (s := .slice A5 m5 c5) rfl)
  have HB0 := Lib.hid hb0
  have HS0 := Lib.hid hs0
  rw [← hb0] at o5 ⊢
  clear hs0 hb0
  clear e1 f0 f1 f2 f3 f4 f5 hL hall f6 e11 eX hb hm5 hX
  show wpList _ _ _ [_] _ _
  refine wpList_st rowRBo kX T49.out hds T1.out (fun w2 k2 g2 z2 => ?_) rfl rfl
  have hne : A5.map (·.block) ≠ some X := own_ne o5.2 kX (by decide)
  have k0 := k0.grown g2 (by intro e; injection e with e; have := HX.out; omega)
  have kz := kz.grown g2 (by intro e; injection e with e; have := HX.out; omega)
  have o2 := o5.grown g2 (.inr hne)
  have gb := gb.grown g2 gb.size (fun q hq => by injection hq; have := HX.out; have := HG.out; omega)
  have hpl : w2.rangeAt g 16 (plA b.p).toList := k0.plans HS.out
  clear kX g2 z2 hds o5 hne
  go_wp2_with first
    | ((with_reducible refine wpList_ldr rowPl hpl S24.out ?_ ?_); rotate_left; (rfl))
  go_loopw [14] (fun i wr => ∃ k : Nat, k ≤ 8 ∧ i = .int .i64 (k : Nat) ∧ Blk wr X 76 (bc { b0 with p := b.p.take k ++ Bo.z8l.drop k } (.slice A5 m5 c5)) ∧ OwnV 105 wr 0 A5 m5 c5 b0.l ∧ Blk wr (g + 1) 76 (bc Bo.zero (.slice none 0 0)) ∧ Below w.heap.size w wr) (fun i _ => 8 - (intOf i).toNat)
  case atStart => exact ⟨0, by omega, rfl, by have := k2; rw [HB0.out] at this ⊢; exact this, o2, kz, gb⟩
  case round =>
    clear k2 o2 kz gb k0 hpl
    obtain ⟨k, hk, rfl, kX, o, kz, gb⟩ := hrel
    by_cases hlt : k < 8
    · have hk0 : (0 : Int) ≤ (k : Int) := by omega
      have hk1 : (k : Int) < 8 := by omega
      have hix := fun w' => run_indexP w' b.p HS.out.p k hlt
      have hst := half_succ HS.out.p hlt
      obtain ⟨q, hq⟩ : ∃ q, q = b.p.getD k (0, 0, 0) := ⟨_, rfl⟩
      rw [← hq] at hix hst
      obtain ⟨x, y, z⟩ := q
      unfold v3 at hix
      simp only at hix
      have HIX := Lib.hid hix
      have HST := Lib.hid hst
      have HSS := Lib.hid (show Bo.Shaped { b0 with p := b.p.take k ++ Bo.z8l.drop k } from ⟨HS0.out.t, half_len HS.out.p hk, HS0.out.u⟩)
      clear hix hst hq
      go_upto_region 5 with first
        | ((with_reducible refine wpList_ix (HIX.out _) ?_ ?_ ?_); rotate_left; (rfl); (rfl))
        | ((with_reducible refine wpList_st (cs := #[.int .i64 x, .int .i64 y, .int .i64 z]) rowLa (Blk.new _ _ _) (th_size _ _ _) ?_ (th_one _ _ _) ?_ ?_ ?_); (rfl); rotate_left; (rfl); (rfl); intro w3 kq g3 z3)
      have bq : Below wr.heap.size wr w3 := new_below g3
      have kX := kX.below bq kX.lt
      have kz := kz.below bq kz.lt
      have o := o.below bq (Nat.le_refl _)
      have gb := gb.trans (bq.mono gb.size)
      have hth := kX.there_ (o := 16 + k * 3) (n := 3) (by rw [bc_size HSS.out]; omega)
      have gS := cells_grown w3 X (16 + k * 3) [.int .i64 x, .int .i64 y, .int .i64 z]
      have hXg := HX.out
      have o4 := o.grown gS (.inr (own_ne o.2 kX (by decide)))
      have kz4 := kz.grown gS (by intro e; injection e with e; omega)
      have gb4 := gb.grown gS gb.size (fun q hq => by injection hq; have := HG.out; omega)
      have kX4 := kX.setP HSS.out hlt (x, y, z)
      rw [HST.out] at kX4
      have HH := Lib.hid (And.intro kX4 (And.intro o4 (And.intro kz4 gb4)))
      clear g3 z3 bq gS o4 kz4 gb4 kX4 hXg kz gb o kX
      go_wp2_with first
        | ((with_reducible refine wpList_ld rowLa kq (th_size _ _ _) ?_ ?_); rotate_left; (rfl))
        | ((with_reducible refine wpList_str (cs := #[.int .i64 x, .int .i64 y, .int .i64 z]) rowRLa hth (th_size _ _ _) (th_one _ _ _) ?_ ?_ ?_); rotate_left; (rfl); (rfl); intro w4 hw4)
      go_roundw
      case rel => exact ⟨k + 1, by omega, by go_num, HH.out.1, HH.out.2.1, HH.out.2.2.1, HH.out.2.2.2⟩
      case measure => simp [intOf]; omega
    · obtain rfl : k = 8 := by omega
      have hb8 : ({ b0 with p := b.p.take 8 ++ Bo.z8l.drop 8 } : Bd) = b := by
        rw [HB0.out, List.take_of_length_le (by rw [HS.out.p]; exact Nat.le_refl _), show Bo.z8l.drop 8 = [] from rfl, List.append_nil]
      have kX : Blk wr X 76 (bc b (.slice A5 m5 c5)) := by rw [← hb8]; exact kX
      have hbl : b0.l = b.l := by rw [HB0.out]
      rw [hbl] at o
      have B49 := Lib.hid (bc_size (s := .slice A5 m5 c5) HS.out)
      have B1 := Lib.hid (bc_one (b := b) (s := .slice A5 m5 c5) rfl)
      clear hb8 hbl
      go_wp2_with first
        | ((with_reducible refine wpList_ld rowRBo kX B49.out ?_ ?_); rotate_left; (rfl))
        | ((with_reducible refine wpList_st rowRBo kz B49.out z49.out B1.out ?_ ?_ ?_); rotate_left; (rfl); (rfl); intro w5 k5 g5 z5)
      exact bodyPost_ret (v := .agg (bc b (.slice A5 m5 c5))) (results_blk rfl rowRBo k5 B49.out rfl) rfl ⟨_, rfl, ⟨A5, m5, c5, rfl, o.grown g5 (.inr (own_ne o.2 kz (by decide))), HM5.out⟩, gb.grown g5 gb.size (fun q hq => by injection hq; have := HG.out; omega)⟩
end Go.Proofs.Ytocoohpekpkmkaa

/- '==' between two boards' plans. -/
namespace Go.Proofs.Ytocoohpekpkmkaa
set_option linter.unusedVariables false
set_option linter.unusedSimpArgs false
set_option maxRecDepth 100000
open Go.RowKit
open Reg (La Vl)
/-- Each number of the plans is one of an int64. -/
def WfP (p : List La) : Prop := ∀ q ∈ p, (Lit.int .i64 q.1).wf = true ∧ (Lit.int .i64 q.2.1).wf = true ∧ (Lit.int .i64 q.2.2).wf = true
def lit3 (q : La) : List Lit := [Lit.int .i64 q.1, Lit.int .i64 q.2.1, Lit.int .i64 q.2.2]
theorem cellsLR : (Try.prog).cellsOf 61 = 3 := by kernel_rfl
theorem cellsPR : (Try.prog).cellsOf 74 = 24 := by kernel_rfl
theorem keyLits_last (d : Nat) (q : La) (h : (Lit.int .i64 q.1).wf = true ∧ (Lit.int .i64 q.2.1).wf = true ∧ (Lit.int .i64 q.2.2).wf = true) : (Try.prog).keyLits (d + 2) 61 (pc q) = some (lit3 q) := by
  obtain ⟨a, b, c⟩ := q
  obtain ⟨h1, h2, h3⟩ := h
  simp only at h1 h2 h3
  unfold Program.keyLits
  simp [Try.underlying61, cellsLR, cellsI, pc, Program.keyLits, Try.underlying3, h1, h2, h3, lit3]
theorem mapM_last (d : Nat) (p : List La) (hw : WfP p) : ((List.range p.length).mapM fun i => (Try.prog).keyLits (d + 2) 61 (((plansC p).drop (i * 3)).take 3)) = some (p.map lit3) := by
  induction p with
  | nil => rfl
  | cons x r ih =>
    rw [List.length_cons, List.range_succ_eq_map, List.mapM_cons]
    have h0 : (Try.prog).keyLits (d + 2) 61 (((plansC (x :: r)).drop (0 * 3)).take 3) = some (lit3 x) := keyLits_last d x (hw x (by simp))
    rw [h0]
    have hm : ((List.range r.length).map Nat.succ).mapM (fun i => (Try.prog).keyLits (d + 2) 61 (((plansC (x :: r)).drop (i * 3)).take 3)) = some (r.map lit3) := by
      rw [List.mapM_map]
      have := ih (fun y hy => hw y (by simp [hy]))
      refine Eq.trans ?_ this
      refine congrArg (fun f => (List.range r.length).mapM f) (funext fun i => ?_)
      show (Try.prog).keyLits (d + 2) 61 (((plansC (x :: r)).drop ((i + 1) * 3)).take 3) = _
      rw [show (plansC (x :: r)).drop ((i + 1) * 3) = (plansC r).drop (i * 3) from by
        rw [show (i + 1) * 3 = 3 + i * 3 by omega, ← List.drop_drop]
        rfl]
    simp only [Option.pure_def, Option.bind_eq_bind, Option.bind_some]
    rw [hm]
    rfl
theorem keyLits_plans (d : Nat) (p : List La) (hl : p.length = 8) (hw : WfP p) : (Try.prog).keyLits (d + 3) 74 (plansC p) = some (p.map lit3).flatten := by
  have h := mapM_last d p hw
  rw [hl] at h
  have hc := plansC_len p
  rw [hl] at hc
  unfold Program.keyLits
  simp only [Try.underlying74, cellsPR, cellsLR, hc, if_true]
  rw [h]
  simp only [Option.map_some]
theorem lit3_inj {p q : List La} (h : (p.map lit3).flatten = (q.map lit3).flatten) (hl : p.length = q.length) : p = q := by
  induction p generalizing q with
  | nil => exact (List.eq_nil_of_length_eq_zero hl.symm).symm
  | cons x r ih =>
    cases q with
    | nil => simp at hl
    | cons y s =>
      simp [lit3] at h
      obtain ⟨h1, h2, h3, h4⟩ := h
      rw [ih h4 (by simpa using hl)]
      obtain ⟨a, b, c⟩ := x
      obtain ⟨a', b', c'⟩ := y
      simp only at h1 h2 h3
      rw [h1, h2, h3]
theorem eq_runP (w : World) (a b : List La) (ha : a.length = 8) (hb : b.length = 8) (wa : WfP a) (wb : WfP b) :
    (binOp .eql 74 (.agg (plA a)) (.agg (plA b))).run Try.prog w = .ok (.bool (decide (a = b))) w := by
  have hk : (Try.prog).keyTypeAt 4 74 = true := by kernel_rfl
  have hfm : ∀ l : List La, l.length = 8 → (Value.agg (plA l)).formed Try.prog 74 = true := fun l hl => by
    simp [Value.formed, Try.underlying74, cellsPR, plA_size hl]
  obtain ⟨r, h1, h2⟩ := run_equalIn_deep (P := Try.prog) 9996 4 74 hk w 3 3 (.agg (plA a)) (.agg (plA b)) _ _ (hfm a ha) (hfm b hb) (keyLits_plans 0 a ha wa) (keyLits_plans 0 b hb wb)
  rw [run_eql_struct, h1]
  have : r = decide (a = b) := by
    rw [Bool.eq_iff_iff, h2, decide_eq_true_eq]
    constructor
    · intro h
      exact lit3_inj h (by rw [ha, hb])
    · intro h; rw [h]
  rw [this]
  rfl
section
variable {ops : Array Oper} {rest : List Oper} {d : Option Tmp} {ty : TypeId} {pos : String} {aft : Array Edge} {gd : Option (Nat × Bool)} {x y : Operand} {z : TypeId} {A B : List La}
theorem exec_eqP {a : Act} (ha : A.length = 8) (hb : B.length = 8) (wa : WfP A) (wb : WfP B) (hx : a.eval x = .agg (plA A)) (hy : a.eval y = .agg (plA B)) (w : World) : (execOp a.eval ⟨d, .binOp .eql 74 x y z, ty, pos, aft, gd⟩).run Try.prog w = .ok (.value (.bool (decide (A = B)))) w := by
  unfold execOp
  simp only [hx, hy, Sem.run_bind, run_eqGuard_agg w .eql 74 x y (plA A) (plA B) (show (Try.prog).eqGuardType (Try.prog).depth 74 = false by kernel_rfl), Result.andThen_ok, eq_runP w A B ha hb wa wb, Sem.run_pure]
theorem wpList_eqP {a : Act} {w : World} {Q : Exit → Act → World → Prop} (ha : A.length = 8) (hb : B.length = 8) (wa : WfP A) (wb : WfP B)
    (h : wpList Try.prog ops Q rest (a.put d (.bool (decide (A = B)))) w) (hx : a.eval x = .agg (plA A)) (hy : a.eval y = .agg (plA B)) (hw : Region.wanted ⟨d, .binOp .eql 74 x y z, ty, pos, aft, gd⟩ (yielded ops a.tmps) = true) : wpList Try.prog ops Q (⟨d, .binOp .eql 74 x y z, ty, pos, aft, gd⟩ :: rest) a w := by
  refine wpList_step fun K hK => ?_
  rw [if_pos hw]
  unfold Oper.wp
  rw [exec_eqP ha hb wa wb hx hy w]
  exact hK _ _ h
end
end Go.Proofs.Ytocoohpekpkmkaa

namespace Go.Proofs.Ytocoohpekpkmkaa
set_option linter.unusedVariables false
set_option linter.unusedSimpArgs false
set_option maxRecDepth 100000
open Go.RowKit
open Reg (La Vl)
theorem bwrote_bad {b : Bd} {x y z : Int} (h : (Bo.rightB b && Reg.inB x 0 7 && Reg.inB y 0 7 && Reg.inB z 0 1000) = false) : Bo.wrote b x y z = (Bo.zero, 2) := by
  unfold Bo.wrote
  rw [if_pos]
  simp only [Bool.and_eq_false_iff] at h
  rcases h with ((h | h) | h) | h
  · exact .inl h
  · exact .inr (.inl h)
  · exact .inr (.inr (.inl h))
  · exact .inr (.inr (.inr h))
set_option maxHeartbeats 4000000 in
theorem bwrote_anyB (b : Bd) (hs : Bo.Shaped b) (nd wk rp : Int) (q : Value) (w : World) (hq : FrBo b q w) : Calls Try.prog 39 #[q, .int .i64 nd, .int .i64 wk, .int .i64 rp] w (GiveBdEB 49 w (Bo.wrote b nd wk rp).1 (Bo.wrote b nd wk rp).2) := by
  obtain ⟨x, k, hx⟩ : ∃ x k, Bo.wrote b nd wk rp = (x, k) := ⟨_, _, rfl⟩
  rw [hx]
  have HX := Lib.hid hx
  clear hx
  obtain ⟨A, m, c, rfl, hr, hm⟩ := hq
  obtain ⟨R, hR⟩ : ∃ R, R = Bo.rightB b := ⟨_, rfl⟩
  have HC1 := Lib.hid fun (w' : World) (hb : Below w.heap.size w w') => (hR ▸ boRight_any b hs (.agg (bc b (.slice A m c))) w' ⟨A, m, c, rfl, (hr.below hb).size, hm⟩ : Calls Try.prog _ _ w' (GiveBo w' R))
  have HC2 := Lib.hid fun (hr1 : Bo.rightB b = true) (w' : World) (hb : Below w.heap.size w w') => (Bo.own_of hr1 ▸ boOwn_anyB b hs (.agg (bc b (.slice A m c))) w' ⟨A, m, c, rfl, (hr.below hb).size, hm⟩ : Calls Try.prog _ _ w' (GiveBdB 49 w' b))
  have HS := Lib.hid hs
  have h49 := Lib.hid (bc_size (s := .slice A m c) hs)
  have z49 := Lib.hid (bc_size (s := .slice none 0 0) Bo.zero_shaped)
  have o49 := Lib.hid (bc_one (b := b) (s := .slice A m c) rfl)
  have HR := Lib.hid hR
  clear hr hm hs hR
  obtain ⟨r1, hr1⟩ : ∃ r1, Reg.inB nd 0 7 = r1 := ⟨_, rfl⟩
  obtain ⟨r2, hr2⟩ : ∃ r2, Reg.inB wk 0 7 = r2 := ⟨_, rfl⟩
  obtain ⟨r3, hr3⟩ : ∃ r3, Reg.inB rp 0 1000 = r3 := ⟨_, rfl⟩
  have H1 := Lib.hid hr1
  have H2 := Lib.hid hr2
  have H3 := Lib.hid hr3
  clear hr1 hr2 hr3
  have bad : (R && r1 && r2 && r3) = false → x = Bo.zero ∧ k = 2 := fun h => by
    have := HX.out
    rw [bwrote_bad (by rw [H1.out, H2.out, H3.out, ← HR.out]; exact h)] at this
    injection this with h1 h2
    exact ⟨h1.symm, h2.symm⟩
  have BAD := Lib.hid bad
  clear bad
  go_enter_defers Try.func39, Try.ntmps39
  go_upto_region 2 with fail
  refine nameW ?_
  intro wv hwv
  obtain ⟨B, hB⟩ : ∃ B, B = w.heap.size := ⟨_, rfl⟩
  rw [← hB]
  have k0 : Blk wv B 83 (bc b (.slice A m c)) := by rw [hwv, hB]; exact ((Blk.new w _ _).alloc _).alloc _
  have ke : Blk wv (B + 1) 83 (bc Bo.zero (.slice none 0 0)) := by
    have h := Blk.new (w.alloc (.cells (bc b (.slice A m c)) 83)) 83 (bc Bo.zero (.slice none 0 0))
    rw [zbo] at h ⊢
    rw [hwv, hB]
    exact (by simpa using h : Blk _ (w.heap.size + 1) _ _).alloc _
  have kf : Blk wv (B + 2) 33 #[.int .i64 0] := by
    have h := Blk.new ((w.alloc (.cells (bc b (.slice A m c)) 83)).alloc (.cells (bc Bo.zero (.slice none 0 0)) 83)) 33 #[.int .i64 0]
    rw [zbo] at h
    rw [hwv, hB]
    simpa using h
  have gb : Below B w wv := by rw [hwv, hB]; exact (((Below.refl _ _).alloc (Nat.le_refl _) _).alloc (by simp) _).alloc (by simp; omega) _
  have HB := Lib.hid hB
  clear hwv hB
  go_wp2_with ((with_reducible refine wpList_ld rowBo k0 h49.out ?_ ?_); rotate_left; (rfl))
  refine (HC1.out wv (by rw [← HB.out]; exact gb)).mono ?_
  rintro e w1 ⟨rfl, b1⟩
  have k0 := k0.below b1 k0.lt
  have ke := ke.below b1 ke.lt
  have kf := kf.below b1 kf.lt
  have gb := gb.trans (b1.mono (by have := gb.size; have := HB.out; omega))
  clear b1
  cases R
  case false =>
    go_wp2_with fail
    refine (bmust_bad 2 _).mono ?_
    rintro e w2 ⟨rfl, rfl⟩
    go_wp2_with fail
    obtain ⟨rfl, rfl⟩ := BAD.out (by simp)
    refine leaves_cons (f := 62) (args := #[.pointer (some ⟨B + 2, 0, none⟩)]) (by simp) (by simp [go_sem]) ?_
    refine (bcaught_panic _ _ _ _ _ (kf.cell 0) (kf.free 0)).mono ?_
    rintro e u' w4 ⟨rfl, rfl, rfl⟩
    have k4 := (kf.alloc (.cells #[.int .i64 2] 171)).set_ 0 (.int .i64 2)
    have e4 := (ke.alloc (.cells #[.int .i64 2] 171)).far (p := ⟨B + 2, 0, none⟩) (by show B + 1 ≠ B + 2; omega) (.int .i64 2)
    have c4 := k4.cell 0
    have g4 := (gb.alloc (by have := gb.size; have := HB.out; omega) (.cells #[.int .i64 2] 171)).setCell (p := ⟨B + 2, 0, none⟩) (by show B ≤ B + 2; omega) (.int .i64 2)
    exact ⟨.tuple #[.agg (bc Bo.zero (.slice none 0 0)), .int .i64 2], results_cc30 rfl rowBo e4 z49.out rfl rfl (by simp [go_sem, c4]), .agg (bc Bo.zero (.slice none 0 0)), rfl, ⟨none, 0, 0, rfl, OwnV.nil _ _ _, by omega⟩, by rw [← HB.out]; exact g4⟩
  case true =>
  go_wp2_with fail
  refine (nodeB_any nd _ H1.out).mono ?_
  rintro e w2 ⟨rfl, rfl⟩
  cases r1
  case false =>
    go_wp2_with fail
    refine (bmust_bad 2 _).mono ?_
    rintro e w2 ⟨rfl, rfl⟩
    go_wp2_with fail
    obtain ⟨rfl, rfl⟩ := BAD.out (by simp)
    refine leaves_cons (f := 62) (args := #[.pointer (some ⟨B + 2, 0, none⟩)]) (by simp) (by simp [go_sem]) ?_
    refine (bcaught_panic _ _ _ _ _ (kf.cell 0) (kf.free 0)).mono ?_
    rintro e u' w4 ⟨rfl, rfl, rfl⟩
    have k4 := (kf.alloc (.cells #[.int .i64 2] 171)).set_ 0 (.int .i64 2)
    have e4 := (ke.alloc (.cells #[.int .i64 2] 171)).far (p := ⟨B + 2, 0, none⟩) (by show B + 1 ≠ B + 2; omega) (.int .i64 2)
    have c4 := k4.cell 0
    have g4 := (gb.alloc (by have := gb.size; have := HB.out; omega) (.cells #[.int .i64 2] 171)).setCell (p := ⟨B + 2, 0, none⟩) (by show B ≤ B + 2; omega) (.int .i64 2)
    exact ⟨.tuple #[.agg (bc Bo.zero (.slice none 0 0)), .int .i64 2], results_cc30 rfl rowBo e4 z49.out rfl rfl (by simp [go_sem, c4]), .agg (bc Bo.zero (.slice none 0 0)), rfl, ⟨none, 0, 0, rfl, OwnV.nil _ _ _, by omega⟩, by rw [← HB.out]; exact g4⟩
  case true =>
  go_wp2_with fail
  refine (withinB_any wk 0 7 _ (by omega) H2.out).mono ?_
  rintro e w2 ⟨rfl, rfl⟩
  cases r2
  case false =>
    go_wp2_with fail
    refine (bmust_bad 2 _).mono ?_
    rintro e w2 ⟨rfl, rfl⟩
    go_wp2_with fail
    obtain ⟨rfl, rfl⟩ := BAD.out (by simp)
    refine leaves_cons (f := 62) (args := #[.pointer (some ⟨B + 2, 0, none⟩)]) (by simp) (by simp [go_sem]) ?_
    refine (bcaught_panic _ _ _ _ _ (kf.cell 0) (kf.free 0)).mono ?_
    rintro e u' w4 ⟨rfl, rfl, rfl⟩
    have k4 := (kf.alloc (.cells #[.int .i64 2] 171)).set_ 0 (.int .i64 2)
    have e4 := (ke.alloc (.cells #[.int .i64 2] 171)).far (p := ⟨B + 2, 0, none⟩) (by show B + 1 ≠ B + 2; omega) (.int .i64 2)
    have c4 := k4.cell 0
    have g4 := (gb.alloc (by have := gb.size; have := HB.out; omega) (.cells #[.int .i64 2] 171)).setCell (p := ⟨B + 2, 0, none⟩) (by show B ≤ B + 2; omega) (.int .i64 2)
    exact ⟨.tuple #[.agg (bc Bo.zero (.slice none 0 0)), .int .i64 2], results_cc30 rfl rowBo e4 z49.out rfl rfl (by simp [go_sem, c4]), .agg (bc Bo.zero (.slice none 0 0)), rfl, ⟨none, 0, 0, rfl, OwnV.nil _ _ _, by omega⟩, by rw [← HB.out]; exact g4⟩
  case true =>
  go_wp2_with fail
  refine (withinB_any rp 0 1000 _ (by omega) H3.out).mono ?_
  rintro e w2 ⟨rfl, rfl⟩
  cases r3
  case false =>
    go_wp2_with fail
    refine (bmust_bad 2 _).mono ?_
    rintro e w2 ⟨rfl, rfl⟩
    go_wp2_with fail
    obtain ⟨rfl, rfl⟩ := BAD.out (by simp)
    refine leaves_cons (f := 62) (args := #[.pointer (some ⟨B + 2, 0, none⟩)]) (by simp) (by simp [go_sem]) ?_
    refine (bcaught_panic _ _ _ _ _ (kf.cell 0) (kf.free 0)).mono ?_
    rintro e u' w4 ⟨rfl, rfl, rfl⟩
    have k4 := (kf.alloc (.cells #[.int .i64 2] 171)).set_ 0 (.int .i64 2)
    have e4 := (ke.alloc (.cells #[.int .i64 2] 171)).far (p := ⟨B + 2, 0, none⟩) (by show B + 1 ≠ B + 2; omega) (.int .i64 2)
    have c4 := k4.cell 0
    have g4 := (gb.alloc (by have := gb.size; have := HB.out; omega) (.cells #[.int .i64 2] 171)).setCell (p := ⟨B + 2, 0, none⟩) (by show B ≤ B + 2; omega) (.int .i64 2)
    exact ⟨.tuple #[.agg (bc Bo.zero (.slice none 0 0)), .int .i64 2], results_cc30 rfl rowBo e4 z49.out rfl rfl (by simp [go_sem, c4]), .agg (bc Bo.zero (.slice none 0 0)), rfl, ⟨none, 0, 0, rfl, OwnV.nil _ _ _, by omega⟩, by rw [← HB.out]; exact g4⟩
  case true =>
  clear BAD
  go_wp2_with fail
  refine (bmust_ok 2 _).mono ?_
  rintro e w2 ⟨rfl, rfl⟩
  go_wp2_with ((with_reducible refine wpList_ld rowBo k0 h49.out ?_ ?_); rotate_left; (rfl))
  have HW1 := gb.size
  refine (HC2.out HR.out.symm w1 (by rw [← HB.out]; exact gb)).mono ?_
  rintro e w2 ⟨_, rfl, ⟨A', m', c', rfl, o, hm'⟩, b1⟩
  have k0 := k0.below b1 k0.lt
  have ke := ke.below b1 ke.lt
  have kf := kf.below b1 kf.lt
  have gb := gb.trans (b1.mono (by have := gb.size; have := HB.out; omega))
  clear b1
  have HM := Lib.hid hm'
  have n49 := Lib.hid (bc_size (b := b) (s := .slice A' m' c') HS.out)
  have n1 := Lib.hid (bc_one (b := b) (s := .slice A' m' c') rfl)
  clear hm' HC1 HC2 h49 o49
  go_upto_region 4 with ((with_reducible refine wpList_st rowBo (Blk.new _ _ _) n49.out ?_ n1.out ?_ ?_ ?_); (rfl); rotate_left; (rfl); (rfl); intro w3 kx g3 z3)
  obtain ⟨X, hX⟩ : ∃ X, X = w2.heap.size := ⟨_, rfl⟩
  rw [← hX] at kx g3 ⊢
  have hXB : B + 2 < X := by have := kf.lt; omega
  have bx : Below w2.heap.size w2 w3 := new_below (hX ▸ g3)
  have k0 := k0.below bx k0.lt
  have ke := ke.below bx ke.lt
  have kf := kf.below bx kf.lt
  have o := o.below bx (Nat.le_refl _)
  have gb := gb.trans (bx.mono (by have := gb.size; have := HB.out; omega))
  clear bx
  clear g3 z3 hX
  obtain ⟨n, hn8, rfl⟩ : ∃ n : Nat, n < 8 ∧ wk = n := by
    have := (Reg.inB_iff wk 0 7).1 H2.out
    exact ⟨wk.toNat, by omega, by omega⟩
  obtain ⟨t', kt, ht⟩ : ∃ t' kt, Tally.addL b.t nd 1 = (t', kt) := ⟨_, _, rfl⟩
  have had := add_any b.t nd 1 w3 HS.out.t
  unfold AddEnd at had
  rw [ht] at had
  have HAD := Lib.hid had
  have HT := Lib.hid ht
  have t16 : t'.length = 16 := by
    have := (Tally.add_len HS.out.t nd 1).1
    rwa [ht] at this
  have T16 := Lib.hid t16
  have S16 := Lib.hid (show (tc b.t).size = 16 by rw [tc_size, HS.out.t])
  clear had ht t16
  go_wp2_with ((with_reducible refine wpList_ldr rowT (kx.tal HS.out) S16.out ?_ ?_); rotate_left; (rfl))
  refine HAD.out.mono ?_
  rintro e w4 ⟨rfl, b1⟩
  have k0 := k0.below b1 k0.lt
  have ke := ke.below b1 ke.lt
  have kf := kf.below b1 kf.lt
  have kx := kx.below b1 kx.lt
  have o := o.below b1 (Nat.le_refl _)
  have gb := gb.trans (b1.mono (by have := gb.size; have := HB.out; omega))
  clear b1
  clear HAD
  by_cases hkt : kt = 0
  case neg =>
    have HK := Lib.hid hkt
    go_wp2_with fail
    refine (gotT_bad (tc t') kt HK.out _).mono ?_
    rintro e w5 ⟨rfl, b1⟩
    have k0 := k0.below b1 k0.lt
    have ke := ke.below b1 ke.lt
    have kf := kf.below b1 kf.lt
    have gb := gb.trans (b1.mono (by have := gb.size; have := HB.out; omega))
    clear b1
    have hxk : x = Bo.zero ∧ k = kt := by
      have := HX.out
      unfold Bo.wrote at this
      rw [if_neg (by rw [H1.out, H2.out, H3.out, ← HR.out]; simp), if_pos (by rw [HT.out]; exact HK.out), HT.out] at this
      injection this with h1 h2
      exact ⟨h1.symm, h2.symm⟩
    obtain ⟨rfl, rfl⟩ := hxk
    clear HX HT hkt HK
    go_wp2_with fail
    refine leaves_cons (f := 62) (args := #[.pointer (some ⟨B + 2, 0, none⟩)]) (by simp) (by simp [go_sem]) ?_
    refine (bcaught_panic _ _ _ _ _ (kf.cell 0) (kf.free 0)).mono ?_
    rintro e u' w4 ⟨rfl, rfl, rfl⟩
    have k4 := (kf.alloc (.cells #[.int .i64 k] 171)).set_ 0 (.int .i64 k)
    have e4 := (ke.alloc (.cells #[.int .i64 k] 171)).far (p := ⟨B + 2, 0, none⟩) (by show B + 1 ≠ B + 2; omega) (.int .i64 k)
    have c4 := k4.cell 0
    have g4 := (gb.alloc (by have := gb.size; have := HB.out; omega) (.cells #[.int .i64 k] 171)).setCell (p := ⟨B + 2, 0, none⟩) (by show B ≤ B + 2; omega) (.int .i64 k)
    exact ⟨.tuple #[.agg (bc Bo.zero (.slice none 0 0)), .int .i64 k], results_cc30 rfl rowBo e4 z49.out rfl rfl (by simp [go_sem, c4]), .agg (bc Bo.zero (.slice none 0 0)), rfl, ⟨none, 0, 0, rfl, OwnV.nil _ _ _, by omega⟩, by rw [← HB.out]; exact g4⟩
  case pos =>
  subst hkt
  go_wp2_with fail
  refine (gotT_ok (tc t') (by rw [tc_size, T16.out]) (tc_one t') _).mono ?_
  rintro e w5 ⟨rfl, b1⟩
  have k0 := k0.below b1 k0.lt
  have ke := ke.below b1 ke.lt
  have kf := kf.below b1 kf.lt
  have kx := kx.below b1 kx.lt
  have o := o.below b1 (Nat.le_refl _)
  have gb := gb.trans (b1.mono (by have := gb.size; have := HB.out; omega))
  clear b1
  have hth := kx.there_ (o := 0) (n := 16) (by rw [n49.out]; omega)
  have SB := Lib.hid (show (tc t').size = 16 by rw [tc_size, T16.out])
  have OB := Lib.hid (tc_one t')
  go_upto_region 5 with ((with_reducible refine wpList_str rowT hth SB.out OB.out ?_ ?_ ?_); rotate_left; (rfl); (rfl); intro w6 hw6)
  have gx := cells_grown w5 X 0 (tc t').toList
  rw [← hw6] at gx
  have k0 := k0.grown gx (fun h => by injection h; omega)
  have ke := ke.grown gx (fun h => by injection h; omega)
  have kf := kf.grown gx (fun h => by injection h; omega)
  have o := o.grown gx (.inr (own_ne o.2 kx (by decide)))
  have gb := gb.grown gx (by have := gb.size; have := HB.out; omega) (fun q hq => by injection hq; have := HB.out; omega)
  have kx := kx.setT HS.out T16.out
  rw [← hw6] at kx
  have hs2 : Bo.Shaped { b with t := t' } := ⟨T16.out, HS.out.p, HS.out.u⟩
  obtain ⟨b2, hb2⟩ : ∃ b2 : Bd, b2 = { b with t := t' } := ⟨_, rfl⟩
  rw [← hb2] at kx hs2
  have HB2 := Lib.hid hb2
  have HS2 := Lib.hid hs2
  obtain ⟨p, hp⟩ : ∃ p, p = b.p.getD n (0, 0, 0) := ⟨_, rfl⟩
  have hpl : w6.rangeAt X (16 + n * 3) (pc p).toArray.toList := by
    have := kx.plan HS2.out hn8
    rw [HB2.out, ← hp] at this
    exact this
  have hp1 : -9223372036854775808 ≤ p.1 := by
    have hm : p ∈ b.p := by rw [hp, List.getD_eq_getElem?_getD, List.getElem?_eq_getElem (by rw [HS.out.p]; exact hn8)]; exact List.getElem_mem _
    have := (Bo.planB_iff p).1 (((Bo.right_iff b).1 HR.out.symm).1 p hm)
    rcases this with h | h
    · rw [h]; decide
    · omega
  obtain ⟨p', kp, hkp⟩ : ∃ p' kp, Reg.writeL p nd rp = (p', kp) := ⟨_, _, rfl⟩
  have hwr := fun w => write29_any p nd rp hp1 w
  rw [hkp] at hwr
  have HWR := Lib.hid (show ∀ w, Calls Try.prog 23 #[.agg (pc p).toArray, .int .i64 nd, .int .i64 rp] w fun e w' => e = .returned (.tuple #[.agg (pc p').toArray, .int .i64 kp]) ∧ Below w.heap.size w w' from hwr)
  have SP := Lib.hid (show (pc p).toArray.size = 3 from rfl)
  have HKP := Lib.hid hkp
  have HP := Lib.hid hp
  clear hs2 hb2 hp1 hkp hwr hth gx hp hw6
  go_wp2_with ((with_reducible refine wpList_ldr rowLa hpl SP.out ?_ ?_); rotate_left; (rfl))
  refine (HWR.out w6).mono ?_
  rintro e w7 ⟨rfl, b1⟩
  have k0 := k0.below b1 k0.lt
  have ke := ke.below b1 ke.lt
  have kf := kf.below b1 kf.lt
  have kx := kx.below b1 kx.lt
  have o := o.below b1 (Nat.le_refl _)
  have gb := gb.trans (b1.mono (by have := gb.size; have := HB.out; omega))
  clear b1
  clear HWR hpl
  by_cases hkt : kp = 0
  case neg =>
    have HK := Lib.hid hkt
    go_wp2_with fail
    refine (gotL_bad (pc p').toArray kp HK.out _).mono ?_
    rintro e w8 ⟨rfl, b1⟩
    have k0 := k0.below b1 k0.lt
    have ke := ke.below b1 ke.lt
    have kf := kf.below b1 kf.lt
    have gb := gb.trans (b1.mono (by have := gb.size; have := HB.out; omega))
    clear b1
    have hxk : x = Bo.zero ∧ k = kp := by
      have := HX.out
      unfold Bo.wrote at this
      rw [if_neg (by rw [H1.out, H2.out, H3.out, ← HR.out]; simp), if_neg (by rw [HT.out]; simp), Int.toNat_natCast, ← HP.out, if_pos (by rw [HKP.out]; exact HK.out), HKP.out] at this
      injection this with h1 h2
      exact ⟨h1.symm, h2.symm⟩
    obtain ⟨rfl, rfl⟩ := hxk
    clear HX HT hkt HK
    go_wp2_with fail
    refine leaves_cons (f := 62) (args := #[.pointer (some ⟨B + 2, 0, none⟩)]) (by simp) (by simp [go_sem]) ?_
    refine (bcaught_panic _ _ _ _ _ (kf.cell 0) (kf.free 0)).mono ?_
    rintro e u' w4 ⟨rfl, rfl, rfl⟩
    have k4 := (kf.alloc (.cells #[.int .i64 k] 171)).set_ 0 (.int .i64 k)
    have e4 := (ke.alloc (.cells #[.int .i64 k] 171)).far (p := ⟨B + 2, 0, none⟩) (by show B + 1 ≠ B + 2; omega) (.int .i64 k)
    have c4 := k4.cell 0
    have g4 := (gb.alloc (by have := gb.size; have := HB.out; omega) (.cells #[.int .i64 k] 171)).setCell (p := ⟨B + 2, 0, none⟩) (by show B ≤ B + 2; omega) (.int .i64 k)
    exact ⟨.tuple #[.agg (bc Bo.zero (.slice none 0 0)), .int .i64 k], results_cc30 rfl rowBo e4 z49.out rfl rfl (by simp [go_sem, c4]), .agg (bc Bo.zero (.slice none 0 0)), rfl, ⟨none, 0, 0, rfl, OwnV.nil _ _ _, by omega⟩, by rw [← HB.out]; exact g4⟩
  case pos =>
  subst hkt
  go_wp2_with fail
  refine (gotL_ok (pc p').toArray rfl (th_one _ _ _) _).mono ?_
  rintro e w8 ⟨rfl, b1⟩
  have k0 := k0.below b1 k0.lt
  have ke := ke.below b1 ke.lt
  have kf := kf.below b1 kf.lt
  have kx := kx.below b1 kx.lt
  have o := o.below b1 (Nat.le_refl _)
  have gb := gb.trans (b1.mono (by have := gb.size; have := HB.out; omega))
  clear b1
  have hth := kx.there_ (o := 16 + n * 3) (n := 3) (by rw [bc_size HS2.out]; omega)
  have SB := Lib.hid (show (pc p').toArray.size = 3 from rfl)
  have OB := Lib.hid (show (pc p').toArray.all (·.oneCell') = true from th_one _ _ _)
  go_upto_region 6 with ((with_reducible refine wpList_str rowLa hth SB.out OB.out ?_ ?_ ?_); rotate_left; (rfl); (rfl); intro w9 hw9)
  have gx := cells_grown w8 X (16 + n * 3) (pc p').toArray.toList
  rw [← hw9] at gx
  have ke := ke.grown gx (fun h => by injection h; omega)
  have kf := kf.grown gx (fun h => by injection h; omega)
  have o := o.grown gx (.inr (own_ne o.2 kx (by decide)))
  have gb := gb.grown gx (by have := gb.size; have := HB.out; omega) (fun q hq => by injection hq; have := HB.out; omega)
  have kx := kx.setP HS2.out hn8 p'
  have kx : Blk w9 X 83 (bc { b2 with p := b2.p.set n p' } (.slice A' m' c')) := by rw [hw9]; exact kx
  have hxk : x = { b2 with p := b2.p.set n p' } ∧ k = 0 := by
    have := HX.out
    unfold Bo.wrote at this
    rw [if_neg (by rw [H1.out, H2.out, H3.out, ← HR.out]; simp), if_neg (by rw [HT.out]; simp), Int.toNat_natCast, ← HP.out, if_neg (by rw [HKP.out]; simp), HKP.out, HT.out] at this
    injection this with h1 h2
    rw [HB2.out]
    exact ⟨h1.symm, h2.symm⟩
  have hs3 : Bo.Shaped x := by rw [hxk.1]; exact ⟨HS2.out.t, by rw [List.length_set]; exact HS2.out.p, HS2.out.u⟩
  have hl3 : x.l = b.l := by rw [hxk.1, HB2.out]
  rw [← hxk.1] at kx
  obtain ⟨_, rfl⟩ := hxk
  have N49 := Lib.hid (bc_size (b := x) (s := .slice A' m' c') hs3)
  have N1 := Lib.hid (bc_one (b := x) (s := .slice A' m' c') rfl)
  have HL := Lib.hid hl3
  clear hs3 hl3 gx hth hw9 k0
  have cf := kf.cell 0
  have ff := kf.free 0
  go_wp2_with first
    | ((with_reducible refine wpList_ld rowBo kx N49.out ?_ ?_); rotate_left; (rfl))
    | ((with_reducible refine wpList_st rowBo ke N49.out z49.out N1.out ?_ ?_ ?_); rotate_left; (rfl); (rfl); intro w10 k10 g10 z10; have kf := kf.grown g10 (fun h => by injection h; omega); have cf := kf.cell 0; have ff := kf.free 0)
  have o := o.grown g10 (.inr (own_ne o.2 ke (by decide)))
  have gb := gb.grown g10 (by have := gb.size; have := HB.out; omega) (fun q hq => by injection hq; have := HB.out; omega)
  refine leaves_cons (f := 62) (args := #[.pointer (some ⟨B + 2, 0, none⟩)]) (by simp) (by simp [go_sem]) ?_
  refine (bcaught_none _ _).mono ?_
  rintro e u' w11 ⟨rfl, rfl, rfl⟩
  have k12 := k10.far (p := ⟨B + 2, 0, none⟩) (by show B + 1 ≠ B + 2; omega) (.int .i64 0)
  have f12 := kf.set_ 0 (.int .i64 0)
  have c12 := f12.cell 0
  have o12 := o.setFar (p := ⟨B + 2, 0, none⟩) (own_ne o.2 kf (by decide)) (.int .i64 0)
  have g12 := gb.setCell (p := ⟨B + 2, 0, none⟩) (by show B ≤ B + 2; omega) (.int .i64 0)
  rw [← HL.out] at o12
  have HWL : w.heap.size ≤ w1.heap.size := by have := HB.out; omega
  exact ⟨.tuple #[.agg (bc x (.slice A' m' c')), .int .i64 0], results_cc30 rfl rowBo k12 N49.out rfl rfl (by simp [go_sem, c12]), .agg (bc x (.slice A' m' c')), rfl, ⟨A', m', c', rfl, o12.mono HWL, HM.out⟩, by rw [← HB.out]; exact g12⟩
theorem bwrote_any (b : Bd) (hs : Bo.Shaped b) (nd wk rp : Int) (q : Value) (w : World) (hq : FrBo b q w) : Calls Try.prog 39 #[q, .int .i64 nd, .int .i64 wk, .int .i64 rp] w (GiveBdE 49 w (Bo.wrote b nd wk rp).1 (Bo.wrote b nd wk rp).2) := (bwrote_anyB b hs nd wk rp q w hq).mono fun _ _ h => h.give
end Go.Proofs.Ytocoohpekpkmkaa
