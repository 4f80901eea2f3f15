/- Eight tallies in one block. -/
import Derived.Test.YtoepklcmdmeanaaTallySum
import Derived.Test.YtoepklcmdmeanaaQuiet
import Derived.Test.YtoepklcmdmeanaaTallyJoin
import Derived.Test.YtoepklcmdmeanaaTallyAdd
import Derived.ChangeKeysEq
namespace Go.Proofs.Ytoepklcmdmeanaa
open Go.RowKit
open Tally
/-- the cells of tallies, one behind the other -/
def fl (os : List (List Int)) : List Value := os.flatMap fun l => l.map (Value.int .i64)
def oc (os : List (List Int)) : Array Value := (fl os).toArray
theorem oc_get (os : List (List Int)) (q : Nat) : (oc os)[q]? = (fl os)[q]? := by unfold oc; exact List.getElem?_toArray
theorem fl_len {os : List (List Int)} (h : ∀ x ∈ os, x.length = 16) : (fl os).length = os.length * 16 := by
  induction os with
  | nil => rfl
  | cons x l ih =>
    have h1 := h x (by simp)
    have h2 := ih fun y hy => h y (by simp [hy])
    show ((x.map (Value.int .i64)) ++ fl l).length = _
    rw [List.length_append, List.length_map, h1, h2, List.length_cons]
    omega
theorem fl_at {os : List (List Int)} (h : ∀ x ∈ os, x.length = 16) {j i : Nat} (hj : j < os.length) (hi : i < 16) : (fl os)[j * 16 + i]? = ((os.getD j []).map (Value.int .i64))[i]? := by
  induction os generalizing j with
  | nil => simp at hj
  | cons x l ih =>
    have h1 := h x (by simp)
    show ((x.map (Value.int .i64)) ++ fl l)[j * 16 + i]? = _
    cases j with
    | zero =>
      rw [List.getElem?_append_left (by rw [List.length_map, h1]; omega)]
      simp
    | succ j =>
      rw [List.getElem?_append_right (by rw [List.length_map, h1]; omega), List.length_map, h1, show (j + 1) * 16 + i - 16 = j * 16 + i by omega, ih (fun y hy => h y (by simp [hy])) (by simpa using hj)]
      simp
theorem all16 {os : List (List Int)} {T : List Int} (h : Cop os T) : ∀ x ∈ os, x.length = 16 := fun x hx => by
  obtain ⟨j, hj⟩ := List.mem_iff_getElem?.1 hx
  have hjl := (List.getElem?_eq_some_iff.1 hj).1
  have := h.len j (by rw [← h.n]; exact hjl)
  rwa [List.getD_eq_getElem?_getD, hj] at this
/-- eight tallies lie in block g -/
def Own8 (w : World) (g : Nat) (os : List (List Int)) : Prop := os.length = 8 ∧ (∀ x ∈ os, x.length = 16) ∧ Blk w g 38 (oc os)
section
variable {w w' : World} {g : Nat} {os : List (List Int)} {a : Nat}
theorem Own8.row_len (h : Own8 w g os) (ha : a < 8) : (os.getD a []).length = 16 := by
  rw [List.getD_eq_getElem?_getD, List.getElem?_eq_getElem (by rw [h.1]; exact ha)]
  exact h.2.1 _ (List.getElem_mem _)
theorem Own8.range (h : Own8 w g os) (ha : a < 8) : w.rangeAt g (a * 16) ((os.getD a []).map (Value.int .i64)) := fun i v hv => by
  have hi : i < 16 := by
    have := (List.getElem?_eq_some_iff.1 hv).1
    rwa [List.length_map, h.row_len ha] at this
  rw [h.2.2.cell, ← hv, ← fl_at h.2.1 (by rw [h.1]; exact ha) hi]
  unfold oc
  exact List.getElem?_toArray
theorem Own8.size (h : Own8 w g os) : (oc os).size = 128 := by unfold oc; rw [List.size_toArray, fl_len h.2.1, h.1]
theorem Own8.there (h : Own8 w g os) (ha : a < 8) : w.there g (a * 16) 16 := fun i hi => by
  rw [h.2.2.cell, h.2.2.free]
  have := h.size
  simp
  omega
theorem Own8.below (h : Own8 w g os) (hb : Below w.heap.size w w') : Own8 w' g os := ⟨h.1, h.2.1, h.2.2.below hb h.2.2.lt⟩
theorem Own8.store (h : Own8 w g os) (ha : a < 8) {l : List Int} (hl : l.length = 16) : Own8 (w.setCells g (a * 16) (l.map (Value.int .i64))) g (os.set a l) := by
  have h2 : ∀ x ∈ os.set a l, x.length = 16 := fun x hx => by
    rcases List.mem_or_eq_of_mem_set hx with hx | rfl
    · exact h.2.1 x hx
    · exact hl
  refine ⟨by rw [List.length_set, h.1], h2, ?_⟩
  obtain ⟨cs', k1, k2, k3, k4⟩ := setCells_heap w g (l.map (Value.int .i64)) (a * 16) (oc os) h.2.2
  have hs := h.size
  have hlm : (l.map (Value.int .i64)).length = 16 := by rw [List.length_map, hl]
  have hset : (fl (os.set a l)).length = 128 := by rw [fl_len h2, List.length_set, h.1]
  have : cs' = oc (os.set a l) := by
    apply Array.ext_getElem?
    intro q
    rw [oc_get]
    by_cases hq : q < 128
    · obtain ⟨j, i, hi, rfl⟩ : ∃ j i, i < 16 ∧ q = j * 16 + i := ⟨q / 16, q % 16, Nat.mod_lt _ (by omega), by omega⟩
      have hj : j < 8 := by omega
      rw [fl_at h2 (by rw [List.length_set, h.1]; exact hj) hi, gd_set (by rw [h.1]; exact ha)]
      by_cases e : a = j
      · subst e
        rw [if_pos rfl]
        exact k4 i (by omega) (by omega)
      · rw [if_neg e, k3 _ (by omega), ← fl_at h.2.1 (by rw [h.1]; exact hj) hi]
        exact oc_get _ _
    · rw [Array.getElem?_eq_none (by omega), List.getElem?_eq_none (by omega)]
  rw [← this]
  exact k1
theorem setCells_below {B : Nat} {a0 : World} (h : Below B a0 w) {o : Nat} {vs : List Value} (hg : B ≤ g) : Below B a0 (w.setCells g o vs) := by
  obtain ⟨k1, k2, k3, k4⟩ := setCells_size w g vs o
  exact ⟨k2.trans h.os, k3.trans h.tape, k4.trans h.output, by rw [k1]; exact h.size, fun k hk => (setCells_other w g vs o k (by omega)).trans (h.block k hk)⟩
theorem range_below {b o B : Nat} {cs : List Value} (h : w.rangeAt b o cs) (hb : Below B w w') (hB : b < B) : w'.rangeAt b o cs := fun j v hv => (hb.cell (p := ⟨b, o + j, none⟩) hB).trans (h j v hv)
theorem there_below {b o n B : Nat} (h : w.there b o n) (hb : Below B w w') (hB : b < B) : w'.there b o n := fun j hj => by
  rw [hb.cell (p := ⟨b, o + j, none⟩) hB, hb.frozen (p := ⟨b, o + j, none⟩) hB]
  exact h j hj
end
theorem rowT26 : RowT Try.prog 26 16 := ⟨_, Try.underlying26, rfl, by kernel_rfl⟩
theorem rowT38 : RowT Try.prog 38 128 := ⟨_, Try.underlying38, rfl, by kernel_rfl⟩
theorem size26 : (Try.prog.info? 26).map (·.size) = some 16 := by kernel_rfl
/-- the cells of eight empty tallies -/
def z128 : Array Value := Array.replicate 128 (Value.int .i64 0)
theorem zero8 (w : World) : Own8 (World.alloc w (.cells z128 38)) w.heap.size (List.replicate 8 zero) := ⟨rfl, by decide, Blk.new w _ _⟩
theorem zval8 (w : World) : (zeroValue 38).run Try.prog w = .ok (.agg z128) w := by kernel_rfl
theorem alloc8 (w : World) : (Instr.alloc 38 true (.tuple #[])).run Try.prog w = .ok (.pointer (some ⟨w.heap.size, 0, none⟩)) (w.alloc (.cells z128 38)) := by kernel_rfl
/-- one of the eight, out of the value -/
theorem run_index8 (w : World) (os : List (List Int)) (h8 : os.length = 8) (h : ∀ x ∈ os, x.length = 16) (k : Nat) (hk : k < 8) : (Instr.index 38 (.agg (oc os)) (.int .i64 (k : Nat))).run Try.prog w = .ok (.agg (tc (os.getD k []))) w := by
  obtain ⟨i0, hi0, hs0⟩ := Option.map_eq_some_iff.1 size26
  have hsz : (sizeOf 26).run Try.prog w = .ok 16 w := by
    rw [run_sizeOf w hi0]
    congr 1
  have hx : (oc os).extract (k * 16) (k * 16 + 16) = tc (os.getD k []) := by
    apply Array.ext_getElem?
    intro i
    have hl16 : (os.getD k []).length = 16 := by
      rw [List.getD_eq_getElem?_getD, List.getElem?_eq_getElem (by rw [h8]; exact hk)]
      exact h _ (List.getElem_mem _)
    have hs : (oc os).size = 128 := by unfold oc; rw [List.size_toArray, fl_len h, h8]
    by_cases hi : i < 16
    · rw [Array.getElem?_extract, if_pos (by omega), oc_get, fl_at h (by omega) hi]
      unfold tc
      rw [List.getElem?_toArray]
    · rw [Array.getElem?_eq_none (by rw [Array.size_extract]; omega), Array.getElem?_eq_none (by rw [tc_size, hl16]; omega)]
  have hag : (isAgg 26).run Try.prog w = .ok true w := by kernel_rfl
  simp only [Instr.index, asIntOf, Sem.run_bind, Sem.run_pure, Result.andThen_ok, run_underlying Try.underlying38, hsz]
  rw [if_pos (by omega)]
  simp [part, hag, hsz, hx]
theorem wpList_ldm {P : Program} {ops : Array Oper} {rest : List Oper} {a : Act} {w : World} {Q : Exit → Act → World → Prop} {d : Option Tmp} {ty T : TypeId} {pos : String} {aft : Array Edge} {x : Operand} {b o n : Nat} {cs : List Value} (hR : RowT P T n) (hc : w.rangeAt b o cs) (hn : cs.length = n)
    (h : wpList P ops Q rest (a.put d (.agg cs.toArray)) w) (hx : a.eval x = .pointer (some ⟨b, o, none⟩)) : wpList P ops Q (⟨d, .load T x, ty, pos, aft, none⟩ :: rest) a w := by
  obtain ⟨e, hu, hd, hi⟩ := hR
  rw [← hn] at hi
  exact wpList_load_mid rfl T x rfl b o hx cs e hc hu hd hi h
theorem wpList_stm {P : Program} {ops : Array Oper} {rest : List Oper} {a : Act} {w : World} {Q : Exit → Act → World → Prop} {d : Option Tmp} {ty T : TypeId} {pos : String} {aft : Array Edge} {x y : Operand} {b o n : Nat} {cs : Array Value} (hR : RowT P T n) (ht : w.there b o n) (hn : cs.size = n) (h1 : cs.all (·.oneCell') = true)
    (h : wpList P ops Q rest (a.put d undef) (w.setCells b o cs.toList)) (hx : a.eval x = .pointer (some ⟨b, o, none⟩)) (hy : a.eval y = .agg cs) : wpList P ops Q (⟨d, .store T x y, ty, pos, aft, none⟩ :: rest) a w := by
  obtain ⟨e, hu, hd, hi⟩ := hR
  rw [← hn] at hi ht
  exact wpList_store_mid rfl T x y rfl b o cs hx hy ht hi h1 h
end Go.Proofs.Ytoepklcmdmeanaa
