/- Eight registers in one block. -/
import Derived.Test.YtocoohpekpkmkaaRegLaw
import Derived.Test.YtocoohpekpkmkaaFacts
namespace Go.Proofs.Ytocoohpekpkmkaa
set_option linter.unusedVariables false
set_option linter.unusedSimpArgs false
open Go.RowKit
open Reg
/-- the cells of rows of nine, one behind the other -/
def fl9 (Q : Nat → Array Value) : List Value := (List.range 8).flatMap fun i => (Q i).toList
def cat9 (Q : Nat → Array Value) : Array Value := (fl9 Q).toArray
theorem flat_len {α : Type} {f : Nat → List α} {m : Nat} : ∀ (k s : Nat), (∀ i, s ≤ i → i < s + k → (f i).length = m) → ((List.range' s k).flatMap f).length = k * m := by
  intro k
  induction k with
  | zero => intro s _; simp
  | succ k ih =>
    intro s h
    rw [List.range'_succ, List.flatMap_cons, List.length_append, h s (by omega) (by omega), ih (s + 1) fun i h1 h2 => h i (by omega) (by omega), Nat.succ_mul]
    omega
theorem flat_at {α : Type} {f : Nat → List α} {m : Nat} : ∀ (k s : Nat), (∀ i, s ≤ i → i < s + k → (f i).length = m) → ∀ a b, a < k → b < m → ((List.range' s k).flatMap f)[a * m + b]? = (f (s + a))[b]? := by
  intro k
  induction k with
  | zero => intro s _ a b h; omega
  | succ k ih =>
    intro s h a b ha hb
    rw [List.range'_succ, List.flatMap_cons]
    cases a with
    | zero => rw [Nat.zero_mul, Nat.zero_add, List.getElem?_append_left (by rw [h s (by omega) (by omega)]; exact hb)]; rfl
    | succ a =>
      rw [List.getElem?_append_right (by rw [h s (by omega) (by omega), Nat.succ_mul]; omega), h s (by omega) (by omega), show (a + 1) * m + b - m = a * m + b by rw [Nat.succ_mul]; omega,
        ih (s + 1) (fun i h1 h2 => h i (by omega) (by omega)) a b (by omega) hb, show s + 1 + a = s + (a + 1) by omega]
def Nine (Q : Nat → Array Value) : Prop := ∀ i, i < 8 → (Q i).size = 9
section
variable {Q : Nat → Array Value}
theorem fl9_len (h : Nine Q) : (fl9 Q).length = 72 := by
  unfold fl9
  rw [List.range_eq_range', flat_len (m := 9) 8 0 fun i _ hi => by rw [Array.length_toList, h i (by omega)]]
theorem fl9_at (h : Nine Q) {a b : Nat} (ha : a < 8) (hb : b < 9) : (fl9 Q)[a * 9 + b]? = (Q a)[b]? := by
  unfold fl9
  rw [List.range_eq_range', flat_at (m := 9) 8 0 (fun i _ hi => by rw [Array.length_toList, h i (by omega)]) a b ha hb, Nat.zero_add, Array.getElem?_toList]
theorem cat9_size (h : Nine Q) : (cat9 Q).size = 72 := by unfold cat9; rw [List.size_toArray, fl9_len h]
theorem cat9_at (h : Nine Q) {a b : Nat} (ha : a < 8) (hb : b < 9) : (cat9 Q)[a * 9 + b]? = (Q a)[b]? := by
  unfold cat9
  rw [List.getElem?_toArray, fl9_at h ha hb]
/-- row a turned -/
def upQ (Q : Nat → Array Value) (a : Nat) (c : Array Value) : Nat → Array Value := fun i => if i = a then c else Q i
theorem upQ_nine (h : Nine Q) {a : Nat} {c : Array Value} (hc : c.size = 9) : Nine (upQ Q a c) := fun i hi => by
  unfold upQ
  split
  · exact hc
  · exact h i hi
variable {w w' : World} {g a : Nat}
theorem rng9 {t : TypeId} (hB : Blk w g t (cat9 Q)) (h : Nine Q) (ha : a < 8) : w.rangeAt g (a * 9) (Q a).toList := fun j v hv => by
  have hj : j < 9 := by
    have := (List.getElem?_eq_some_iff.1 hv).1
    rwa [Array.length_toList, h a ha] at this
  rw [hB.cell, cat9_at h ha hj, ← hv, Array.getElem?_toList]
theorem there9 {t : TypeId} (hB : Blk w g t (cat9 Q)) (h : Nine Q) (ha : a < 8) : w.there g (a * 9) 9 := fun i hi => by
  rw [hB.cell, hB.free, cat9_at h ha hi]
  have := h a ha
  simp
  omega
theorem set9 {t : TypeId} (hB : Blk w g t (cat9 Q)) (h : Nine Q) (ha : a < 8) {c : Array Value} (hc : c.size = 9) : Blk (w.setCells g (a * 9) c.toList) g t (cat9 (upQ Q a c)) := by
  obtain ⟨cs', k1, k2, k3, k4⟩ := setCells_heap w g c.toList (a * 9) (cat9 Q) hB
  have hs := cat9_size h
  have h2 := upQ_nine h (a := a) hc
  have hcl : c.toList.length = 9 := hc
  have : cs' = cat9 (upQ Q a c) := by
    apply Array.ext_getElem?
    intro q
    by_cases hq : q < 72
    · obtain ⟨j, i, hi, rfl⟩ : ∃ j i, i < 9 ∧ q = j * 9 + i := ⟨q / 9, q % 9, Nat.mod_lt _ (by omega), by omega⟩
      have hj : j < 8 := by omega
      rw [cat9_at h2 hj hi]
      unfold upQ
      by_cases e : j = a
      · subst e
        rw [if_pos rfl, k4 i (by omega) (by omega), Array.getElem?_toList]
      · rw [if_neg e, k3 _ (by omega), cat9_at h hj hi]
    · rw [Array.getElem?_eq_none (by omega), Array.getElem?_eq_none (by rw [cat9_size h2]; omega)]
  rw [← this]
  exact k1
theorem setCells_grown (w : World) (g o : Nat) (vs : List Value) : w.grownBy (w.setCells g o vs) (some g) := by
  obtain ⟨k1, k2, k3, k4⟩ := setCells_size w g vs o
  exact ⟨k2, k3, k4, by rw [k1]; exact Nat.le_refl _, fun k hk hne => setCells_other w g _ _ k (fun e => hne (by rw [e]))⟩
end
/-- eight registers, in a value -/
def Eight (F : Nat → Nat → Nd) (Q : Nat → Array Value) (w : World) : Prop := ∀ i, i < 8 → GoodF (F i) ∧ FreshO 49 (repU (F i)) (repL (F i)) (.agg (Q i)) w
section
variable {F : Nat → Nat → Nd} {Q : Nat → Array Value} {w w' : World} {g a : Nat}
theorem Eight.nine (h : Eight F Q w) : Nine Q := fun i hi => (h i hi).2.fresh.size9 (repU_len _)
theorem Eight.below (h : Eight F Q w) (hb : Below w.heap.size w w') : Eight F Q w' := fun i hi => ⟨(h i hi).1, (h i hi).2.below hb⟩
theorem Eight.grown {t : TypeId} {cs : Array Value} (h : Eight F Q w) (hg : w.grownBy w' (some g)) (k : Blk w g t cs) (hne : t ≠ 49) : Eight F Q w' := fun i hi => ⟨(h i hi).1, (h i hi).2.grown hg k hne⟩
def upF (F : Nat → Nat → Nd) (a : Nat) (f : Nat → Nd) : Nat → Nat → Nd := fun i => if i = a then f else F i
theorem Eight.up (h : Eight F Q w) {f : Nat → Nd} {c : Array Value} (hf : GoodF f) (hc : FreshO 49 (repU f) (repL f) (.agg c) w) : Eight (upF F a f) (upQ Q a c) w := fun i hi => by
  unfold upF upQ
  by_cases e : i = a
  · rw [if_pos e, if_pos e]; exact ⟨hf, hc⟩
  · rw [if_neg e, if_neg e]; exact h i hi
end
theorem rowOwn : RowT Try.prog 52 72 := ⟨_, Try.underlying52, rfl, by kernel_rfl⟩
def f0 : Nat → Nd := fun _ => (0, none)
theorem f0_good : GoodF f0 := fun _ _ => ⟨by unfold f0; simp, fun q v h => by cases h⟩
def zQ : Nat → Array Value := fun _ => uc z8 (.slice none 0 0)
/-- the cells of eight empty registers -/
def z72 : Array Value := cat9 zQ
theorem rep0 : repU f0 = z8 ∧ repL f0 = [] := ⟨rfl, rfl⟩
theorem eight0 (w : World) : Eight (fun _ => f0) zQ w := fun i hi => ⟨f0_good, by
  rw [rep0.1, rep0.2]
  exact ⟨none, 0, 0, rfl, OwnV.nil _ _ _, by omega⟩⟩
theorem zval72 (w : World) : (zeroValue 52).run Try.prog w = .ok (.agg z72) w := by kernel_rfl
/-- one of the eight, out of the value -/
theorem run_index9 (w : World) (Q : Nat → Array Value) (h : Nine Q) (k : Nat) (hk : k < 8) : (Instr.index 52 (.agg (cat9 Q)) (.int .i64 (k : Nat))).run Try.prog w = .ok (.agg (Q k)) w := by
  have hsz : (sizeOf 31).run Try.prog w = .ok 9 w := by kernel_rfl
  have hx : (cat9 Q).extract (k * 9) (k * 9 + 9) = Q k := by
    have hs := cat9_size h
    have h9 := h k hk
    apply Array.ext_getElem?
    intro i
    by_cases hi : i < 9
    · rw [Array.getElem?_extract, if_pos (by omega), cat9_at h hk hi]
    · rw [Array.getElem?_eq_none (by rw [Array.size_extract]; omega), Array.getElem?_eq_none (by omega)]
  have hag : (isAgg 31).run Try.prog w = .ok true w := by kernel_rfl
  simp only [Instr.index, asIntOf, Sem.run_bind, Sem.run_pure, Result.andThen_ok, run_underlying Try.underlying52, hsz]
  rw [if_pos (by omega)]
  simp [part, hag, hsz, hx]
/-! registers by their nodes -/
theorem maxL_rep (f g : Nat → Nd) : maxL (repU f) (repU g) = repU fun n => meetN (f n) (g n) := meet_rep_U f g
theorem meetN_goodF {f g : Nat → Nd} (hf : GoodF f) (hg : GoodF g) : GoodF fun n => meetN (f n) (g n) := fun n hn => meetN_good (hf n hn) (hg n hn)
theorem repU_Wf {f : Nat → Nd} (h : GoodF f) : Wf (repU f) := fun x hx => by
  have := repU_wf h x hx
  exact wf_of (by omega) (by omega)
section
variable {f g : Nat → Nd} {q q2 : Value} {w : World}
theorem meetG (hf : GoodF f) (hg : GoodF g) (h : Fresh (repU f) (repL f) q w) (h2 : Fresh (repU g) (repL g) q2 w) :
    Calls Try.prog 13 #[q, q2] w (GiveM 49 w (repU fun n => meetN (f n) (g n)) (repL fun n => meetN (f n) (g n))) := by
  have := meetF (repU_len f) (repU_len g) h h2
  rw [own_rep hf, own_rep hg] at this
  simp only at this
  rw [maxL_rep, meet_rep_L hf hg] at this
  exact this
theorem rightG (hf : GoodF f) (h : Fresh (repU f) (repL f) q w) : Calls Try.prog 14 #[q] w (GiveB w true) := by
  have := rightF (repU_len f) h
  rwa [right_rep hf] at this
theorem putG (hf : GoodF f) {k : Nat} (hk : k < 8) (v : Int) (hv : -1099511627776 ≤ v ∧ v ≤ 1099511627776) (hlt : (f k).1 < 1099511627776) (h : Fresh (repU f) (repL f) q w) :
    Calls Try.prog 11 #[q, .int .i64 (k : Nat), .int .i64 v] w (GiveMI 49 w (repU (putNd f k v)) (repL (putNd f k v)) 0) := by
  have := putF (repU_len f) (k : Int) v h
  rw [put_rep hf hk hv hlt] at this
  exact this
theorem sameG (hf : GoodF f) (h : Fresh (repU f) (repL f) q w) (h2 : Fresh (repU f) (repL f) q2 w) : Calls Try.prog 16 #[q, q2] w (GiveB w true) := by
  have := sameF (repU_len f) (repU_len f) (repU_Wf hf) (repU_Wf hf) h h2
  rw [decide_eq_true (rfl : repU f = repU f), decide_eq_true (rfl : repL f = repL f)] at this
  exact this
end
end Go.Proofs.Ytocoohpekpkmkaa
