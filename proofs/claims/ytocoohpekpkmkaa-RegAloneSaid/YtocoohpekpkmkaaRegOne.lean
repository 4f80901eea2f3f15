/- Nodes that never met: each knows its own writes alone; what all know together. -/
import Derived.Test.YtocoohpekpkmkaaRegFold
namespace Go.Proofs.Ytocoohpekpkmkaa
set_option linter.unusedVariables false
set_option linter.unusedSimpArgs false
namespace Reg
/-- node i wrote k times, v at last -/
def oneF (i : Nat) (k v : Int) : Nf := fun n => if n = i then (k, if 0 < k then some (k, v) else none) else (0, none)
def allF (K V : Nat → Int) (j : Nat) : Nf := fun n => if n < j then (K n, if 0 < K n then some (K n, V n) else none) else (0, none)
def upI (V : Nat → Int) (x : Nat) (z : Int) : Nat → Int := fun i => if i = x then z else V i
structure Wrote (K V : Nat → Int) (k : Int) : Prop where
  num : ∀ i, i < 8 → 0 ≤ K i ∧ K i ≤ k
  val : ∀ i, i < 8 → -1099511627776 ≤ V i ∧ V i ≤ 1099511627776
theorem Wrote.up {K V : Nat → Int} {k : Int} (h : Wrote K V k) {x : Nat} {z : Int} (hz : -1099511627776 ≤ z ∧ z ≤ 1099511627776) (hk : 0 ≤ k) (hx : x < 8) : Wrote (upI K x (K x + 1)) (upI V x z) (k + 1) :=
  ⟨fun i hi => by
    have h1 := h.num i hi
    have h2 := h.num x hx
    unfold upI
    split <;> omega, fun i hi => by
    have h1 := h.val i hi
    unfold upI
    split
    · exact hz
    · exact h1⟩
theorem one_put (i : Nat) (k v z : Int) (hk : 0 ≤ k) : putNd (oneF i k v) i z = oneF i (k + 1) z := by
  funext n
  unfold putNd oneF
  by_cases e : n = i
  · subst e
    simp only [if_true]
    rw [if_pos (show 0 < k + 1 by omega)]
  · simp only [if_neg e]
theorem one_good {i : Nat} {k v : Int} (hk : 0 ≤ k ∧ k ≤ 1099511627776) (hv : -1099511627776 ≤ v ∧ v ≤ 1099511627776) : GoodF (oneF i k v) := fun n _ => by
  unfold oneF
  split
  · refine ⟨hk, fun q u h => ?_⟩
    simp only at h
    split at h
    · injection h with h
      injection h with h1 h2
      subst h1 h2
      simp only
      omega
    · cases h
  · exact ⟨by simp, fun q u h => by cases h⟩
theorem all_good {K V : Nat → Int} {k : Int} (h : Wrote K V k) (hk : k ≤ 1099511627776) (j : Nat) (hj : j ≤ 8) : GoodF (allF K V j) := fun n hn => by
  unfold allF
  split
  · have h1 := h.num n hn
    have h2 := h.val n hn
    refine ⟨by simp only; omega, fun q u hq => ?_⟩
    simp only at hq
    split at hq
    · injection hq with hq
      injection hq with h3 h4
      subst h3 h4
      simp only
      omega
    · cases hq
  · exact ⟨by simp, fun q u h => by cases h⟩
theorem all_zero (K V : Nat → Int) : allF K V 0 = f0 := by
  funext n
  unfold allF f0
  rw [if_neg (by omega)]
theorem all_step {K V : Nat → Int} {k : Int} (h : Wrote K V k) {j : Nat} (hj : j < 8) : SameN (mt (allF K V j) (oneF j (K j) (V j))) (allF K V (j + 1)) := fun n hn => by
  have h1 := h.num n hn
  unfold mt allF oneF meetN
  by_cases c : n < j
  · rw [if_pos c, if_neg (show ¬ n = j by omega), if_pos (show n < j + 1 by omega)]
    simp only
    by_cases p : 0 < K n
    · rw [if_pos p]
      simp only [reduceCtorEq, if_false, gtN, decide_eq_true_eq]
      rw [if_pos p, show max (K n) 0 = K n by omega]
    · rw [if_neg p, show max (K n) 0 = K n by omega]
      simp
  · by_cases e : n = j
    · subst e
      rw [if_neg c, if_pos rfl, if_pos (show n < n + 1 by omega)]
      simp only
      by_cases p : 0 < K n
      · rw [if_pos p]
        simp only [reduceCtorEq, if_false, gtN, Bool.false_eq_true, decide_eq_true_eq]
        rw [if_pos p, show max 0 (K n) = K n by omega]
      · rw [if_neg p, show max 0 (K n) = K n by omega]
        simp
    · rw [if_neg c, if_neg e, if_neg (show ¬ n < j + 1 by omega)]
      simp
theorem put_has {K V : Nat → Int} {k : Int} (h : Wrote K V k) {m j : Nat} (hm : m < 8) (hj : j < 8) (z : Int) : SameN (mt (putNd (allF K V 8) m z) (oneF j (K j) (V j))) (putNd (allF K V 8) m z) := fun n hn => by
  have h1 := h.num n hn
  unfold mt putNd allF oneF meetN
  simp only [if_pos hn]
  by_cases e : n = m
  · subst e
    simp only [if_true]
    by_cases c : n = j
    · subst c
      simp only [if_true]
      by_cases p : 0 < K n
      · rw [if_pos p]
        rw [if_neg (by intro q; injection q with q; injection q with q _; omega)]
        simp only [gtN, decide_eq_true_eq]
        rw [if_pos (by omega), show max (K n + 1) (K n) = K n + 1 by omega]
      · rw [if_neg p]
        simp only [reduceCtorEq, if_false, gtN, decide_eq_true_eq]
        rw [if_pos (by omega), show max (K n + 1) (K n) = K n + 1 by omega]
    · rw [if_neg c]
      simp only [reduceCtorEq, if_false, gtN, decide_eq_true_eq]
      rw [if_pos (by omega), show max (K n + 1) 0 = K n + 1 by omega]
  · rw [if_neg e]
    simp only
    by_cases c : n = j
    · subst c
      simp only [if_true]
      by_cases p : 0 < K n
      · rw [if_pos p]
        simp only [reduceCtorEq, if_false, gtN, Bool.false_eq_true, decide_eq_true_eq]
        rw [if_neg (by omega), show max (K n) (K n) = K n by omega]
      · rw [if_neg p, show max (K n) (K n) = K n by omega]
        simp
    · rw [if_neg c, show max (K n) 0 = K n by omega]
      simp
/-- the last values of those that wrote, of the first j nodes -/
def wantL (K V : Nat → Int) (j : Nat) : List Int := (List.range j).flatMap fun n => if 0 < K n then [V n] else []
theorem want_step (K V : Nat → Int) (j : Nat) : wantL K V (j + 1) = wantL K V j ++ if 0 < K j then [V j] else [] := by
  unfold wantL
  rw [List.range_succ, List.flatMap_append, List.flatMap_singleton]
theorem want_len (K V : Nat → Int) (j : Nat) : (wantL K V j).length ≤ j := by
  induction j with
  | zero => simp [wantL]
  | succ j ih =>
    rw [want_step, List.length_append]
    split <;> simp <;> omega
theorem all_values {K V : Nat → Int} {k : Int} (h : Wrote K V k) (hk : k ≤ 1099511627776) : valuesM (repU (allF K V 8)) (repL (allF K V 8)) = wantL K V 8 := by
  unfold valuesM
  rw [own_rep (all_good h hk 8 (by omega))]
  show (repL (allF K V 8)).map (·.2.2) = _
  unfold repL wantL
  rw [List.map_flatMap]
  refine flatMap_cong fun n hn => ?_
  unfold allF
  rw [if_pos (List.mem_range.1 hn)]
  simp only
  split <;> rfl
theorem put_values {f : Nf} (hf : GoodF f) {m : Nat} (hm : m < 8) {z : Int} (hz : -1099511627776 ≤ z ∧ z ≤ 1099511627776) (hlt : (f m).1 < 1099511627776) : valuesM (repU (putNd f m z)) (repL (putNd f m z)) = [z] := by
  unfold valuesM
  rw [own_rep (putNd_good hf hz hlt)]
  show (repL (putNd f m z)).map (·.2.2) = _
  rw [repL_put hm]
  rfl
end Reg
open Go.RowKit
open Reg
/-- eight cells -/
def arr8 (f : Nat → Value) : Array Value := ((List.range 8).map f).toArray
theorem arr8_at (f : Nat → Value) {i : Nat} (hi : i < 8) : (arr8 f)[i]? = some (f i) := by
  unfold arr8
  rw [List.getElem?_toArray, List.getElem?_map, List.getElem?_range hi]
  rfl
theorem arr8_set (f : Nat → Value) (i : Nat) (u : Value) : (arr8 f).setIfInBounds i u = arr8 fun j => if j = i then u else f j := by
  unfold arr8
  apply Array.ext_getElem?
  intro j
  rw [Array.getElem?_setIfInBounds]
  simp only [List.getElem?_toArray, List.getElem?_map, List.size_toArray, List.length_map, List.length_range]
  by_cases e : i = j
  · subst e
    by_cases h : i < 8
    · rw [if_pos rfl, if_pos h, List.getElem?_range h]; simp
    · rw [if_pos rfl, if_neg h, List.getElem?_eq_none (by simp; omega)]; rfl
  · rw [if_neg e]
    by_cases h : j < 8
    · rw [List.getElem?_range h]
      simp only [Option.map_some]
      rw [if_neg (fun h => e h.symm)]
    · rw [List.getElem?_eq_none (by simp; omega)]; rfl
theorem arr8_size (f : Nat → Value) : (arr8 f).size = 8 := by simp [arr8]
def aI (V : Nat → Int) : Array Value := arr8 fun i => .int .i64 (V i)
def aB (K : Nat → Int) : Array Value := arr8 fun i => .bool (decide (0 < K i))
theorem aI_set (V : Nat → Int) (x : Nat) (z : Int) : (aI V).setIfInBounds x (.int .i64 z) = aI (upI V x z) := by
  unfold aI upI
  rw [arr8_set]
  congr 1
  funext j
  split <;> rfl
theorem aB_set {K : Nat → Int} {x : Nat} (h : 0 ≤ K x) : (aB K).setIfInBounds x (.bool true) = aB (upI K x (K x + 1)) := by
  unfold aB upI
  rw [arr8_set]
  congr 1
  funext j
  split
  · rw [decide_eq_true (by omega)]
  · rfl
theorem rows_ne {w : World} {b1 b2 s1 s2 n1 c1 n2 c2 : Nat} {e1 e2 : TypeId} {A1 A2 : Option Addr} {x1 x2 : List Value} (h1 : w.ownsRow b1 e1 s1 (.slice A1 n1 c1) n1 x1) (h2 : w.ownsRow b2 e2 s2 (.slice A2 n2 c2) n2 x2) (hne : e1 ≠ e2) : A1.map (·.block) = none ∨ A1.map (·.block) ≠ A2.map (·.block) := by
  cases h : A1.map (·.block) with
  | none => exact .inl rfl
  | some k =>
    refine .inr fun e => ?_
    obtain ⟨cur, hc⟩ := ownsRow_type h1 h
    obtain ⟨cur2, hc2⟩ := ownsRow_type h2 e.symm
    rw [hc] at hc2
    injection hc2 with hc2
    injection hc2 with _ hc2
    exact hne hc2
theorem FreshO.keepI {T : TypeId} {U : List Int} {l : List Vl} {q : Value} {w w' : World} {b n c : Nat} {A : Option Addr} {li : List Int} (h : FreshO T U l q w) (o : OwnI w b A n c li) (hg : w.grownBy w' (A.map (·.block))) (hne : T ≠ 3) : FreshO T U l q w' := by
  obtain ⟨A1, m, cc, h1, h2, h3⟩ := h
  exact ⟨A1, m, cc, h1, h2.grown hg (rows_ne h2.2 o.2 hne), h3⟩
theorem Eight.keepI {F : Nat → Nf} {Q : Nat → Array Value} {w w' : World} {b n c : Nat} {A : Option Addr} {li : List Int} (h : Eight F Q w) (o : OwnI w b A n c li) (hg : w.grownBy w' (A.map (·.block))) : Eight F Q w' := fun i hi => ⟨(h i hi).1, (h i hi).2.keepI o hg (by decide)⟩
theorem grown_set (w : World) (g i : Nat) (u : Value) : w.grownBy (w.setCell ⟨g, i, none⟩ u) (some g) := only_set ⟨rfl, rfl, rfl, Nat.le_refl _, fun _ _ _ => rfl⟩ u
theorem up_one (K V : Nat → Int) (x : Nat) (k z : Int) : upF (fun i => oneF i (K i) (V i)) x (oneF x k z) = fun i => oneF i (upI K x k i) (upI V x z i) := by
  funext i
  unfold upF upI
  split
  · rename_i h; subst h; rfl
  · rfl
theorem one_zero (i : Nat) : oneF i 0 0 = f0 := by
  funext n
  unfold oneF f0
  split <;> rfl
theorem one0 (w : World) : Eight (fun i => oneF i 0 0) zQ w := by
  have : (fun i => oneF i 0 0) = fun _ => f0 := funext one_zero
  rw [this]
  exact eight0 w
theorem zI : aI (fun _ => 0) = #[.int .i64 0, .int .i64 0, .int .i64 0, .int .i64 0, .int .i64 0, .int .i64 0, .int .i64 0, .int .i64 0] := rfl
theorem zB : aB (fun _ => 0) = #[.bool false, .bool false, .bool false, .bool false, .bool false, .bool false, .bool false, .bool false] := rfl
theorem rowB8 : RowT Try.prog 58 8 := ⟨_, Try.underlying58, rfl, by kernel_rfl⟩
theorem run_indexB (w : World) (K : Nat → Int) (k : Nat) (hk : k < 8) : (Instr.index 58 (.agg (aB K)) (.int .i64 (k : Nat))).run Try.prog w = .ok (.bool (decide (0 < K k))) w := by
  have hsz : (sizeOf 4).run Try.prog w = .ok 1 w := by kernel_rfl
  have hag : (isAgg 4).run Try.prog w = .ok false w := by kernel_rfl
  have hx : (aB K)[k]? = some (.bool (decide (0 < K k))) := arr8_at _ hk
  simp only [Instr.index, asIntOf, Sem.run_bind, Sem.run_pure, Result.andThen_ok, run_underlying Try.underlying58, hsz]
  rw [if_pos (by omega)]
  simp [part, hag, hsz, hx]
end Go.Proofs.Ytocoohpekpkmkaa
