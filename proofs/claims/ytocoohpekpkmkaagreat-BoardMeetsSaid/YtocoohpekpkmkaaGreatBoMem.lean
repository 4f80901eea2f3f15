/- Boards in memory. -/
import Derived.Test.YtocoohpekpkmkaaGreatBoMath
import Derived.Test.YtocoohpekpkmkaaGreatTallyWalks
import Derived.Test.YtocoohpekpkmkaaGreatRegLaw
import Derived.Test.YtocoohpekpkmkaaGreatFacts
namespace Go.Proofs.YtocoohpekpkmkaaGreat
set_option linter.unusedVariables false
set_option linter.unusedSimpArgs false
open Go.RowKit
open Reg (La Vl)
def pc (q : La) : List Value := [.int .i64 q.1, .int .i64 q.2.1, .int .i64 q.2.2]
def plansC (p : List La) : List Value := p.flatMap pc
/-- a board's cells: sixteen counts, eight plans, the notes -/
def bc (b : Bd) (s : Value) : Array Value := (b.t.map (Value.int .i64) ++ (plansC b.p ++ (b.u.map (Value.int .i64) ++ [s]))).toArray
theorem plansC_len (p : List La) : (plansC p).length = p.length * 3 := by
  unfold plansC
  induction p with
  | nil => rfl
  | cons a l ih => rw [List.flatMap_cons, List.length_append, ih, List.length_cons]; simp [pc]; omega
theorem plansC_at (p : List La) : ∀ (i j : Nat), i < p.length → j < 3 → (plansC p)[i * 3 + j]? = (pc (p.getD i (0, 0, 0)))[j]? := by
  unfold plansC
  induction p with
  | nil => intro i j h; simp at h
  | cons a l ih =>
    intro i j hi hj
    rw [List.flatMap_cons]
    cases i with
    | zero => rw [Nat.zero_mul, Nat.zero_add, List.getElem?_append_left (by simp [pc]; omega)]; rfl
    | succ i =>
      rw [List.getElem?_append_right (by simp [pc]; omega), show (i + 1) * 3 + j - (pc a).length = i * 3 + j by simp [pc]; omega, ih i j (by simpa using hi) hj]
      simp
section
variable {b : Bd} {s : Value} (h : Bo.Shaped b)
theorem bc_size (h : Bo.Shaped b) : (bc b s).size = 49 := by
  unfold bc
  simp [plansC_len, h.t, h.p, h.u]
theorem bc_one (hs : s.oneCell' = true) : (bc b s).all (·.oneCell') = true := by
  unfold bc
  rw [Array.all_eq_true_iff_forall_mem]
  intro x hx
  simp [plansC, pc] at hx
  rcases hx with ⟨a, _, rfl⟩ | ⟨a, c, d, _, rfl | rfl | rfl⟩ | ⟨a, _, rfl⟩ | rfl
  · rfl
  · rfl
  · rfl
  · rfl
  · rfl
  · exact hs
theorem bc_t (h : Bo.Shaped b) {i : Nat} (hi : i < 16) : (bc b s)[i]? = (tc b.t)[i]? := by
  unfold bc tc
  rw [List.getElem?_toArray, List.getElem?_toArray, List.getElem?_append_left (by rw [List.length_map, h.t]; exact hi)]
theorem bc_p (h : Bo.Shaped b) {i : Nat} (hi : i < 24) : (bc b s)[16 + i]? = (plansC b.p)[i]? := by
  unfold bc
  rw [List.getElem?_toArray, List.getElem?_append_right (by rw [List.length_map, h.t]; omega), List.length_map, h.t, show 16 + i - 16 = i by omega,
    List.getElem?_append_left (by rw [plansC_len, h.p]; omega)]
theorem bc_n (h : Bo.Shaped b) {i : Nat} (hi : i < 9) : (bc b s)[40 + i]? = (uc b.u s)[i]? := by
  unfold bc uc
  rw [List.getElem?_toArray, List.getElem?_toArray, List.getElem?_append_right (by rw [List.length_map, h.t]; omega), List.length_map, h.t, List.getElem?_append_right (by rw [plansC_len, h.p]; omega), plansC_len, h.p,
    show 40 + i - 16 - 8 * 3 = i by omega]
theorem bc_last (h : Bo.Shaped b) : (bc b s)[48]? = some s := by
  rw [show 48 = 40 + 8 from rfl, bc_n h (by omega)]
  exact uc_last h.u s
variable {w w' : World} {g : Nat} {T : TypeId}
theorem Blk.tal (k : Blk w g T (bc b s)) (h : Bo.Shaped b) : w.rangeAt g 0 (tc b.t).toList := fun j v hv => by
  have hj : j < 16 := by
    have := (List.getElem?_eq_some_iff.1 hv).1
    rwa [Array.length_toList, tc_size, h.t] at this
  rw [Nat.zero_add, k.cell, bc_t h hj, ← hv, Array.getElem?_toList]
theorem Blk.plans (k : Blk w g T (bc b s)) (h : Bo.Shaped b) : w.rangeAt g 16 (plansC b.p) := fun j v hv => by
  have hj : j < 24 := by
    have := (List.getElem?_eq_some_iff.1 hv).1
    rwa [plansC_len, h.p] at this
  rw [k.cell, bc_p h hj, ← hv]
theorem Blk.plan (k : Blk w g T (bc b s)) (h : Bo.Shaped b) {i : Nat} (hi : i < 8) : w.rangeAt g (16 + i * 3) (pc (b.p.getD i (0, 0, 0))) := fun j v hv => by
  have hj : j < 3 := (List.getElem?_eq_some_iff.1 hv).1
  rw [k.cell, Nat.add_assoc, bc_p h (by omega), plansC_at _ i j (by rw [h.p]; exact hi) hj, hv]
theorem Blk.notes (k : Blk w g T (bc b s)) (h : Bo.Shaped b) : w.rangeAt g 40 (uc b.u s).toList := fun j v hv => by
  have hj : j < 9 := by
    have := (List.getElem?_eq_some_iff.1 hv).1
    rwa [Array.length_toList, uc_size h.u] at this
  rw [k.cell, bc_n h hj, ← hv, Array.getElem?_toList]
/-- a row in the midst of a block, stored -/
theorem Blk.mid {o : Nat} {cs ds : Array Value} {vs : List Value} (k : Blk w g T cs) (ho : o + vs.length ≤ cs.size) (hd : ds.size = cs.size) (h1 : ∀ j, (j < o ∨ o + vs.length ≤ j) → ds[j]? = cs[j]?) (h2 : ∀ j, j < vs.length → ds[o + j]? = vs[j]?) : Blk (w.setCells g o vs) g T ds := by
  obtain ⟨cs', k1, k2, k3, k4⟩ := setCells_heap w g vs o cs k
  have : cs' = ds := by
    apply Array.ext_getElem?
    intro q
    by_cases hq : q < o ∨ o + vs.length ≤ q
    · rw [k3 q hq, h1 q hq]
    · obtain ⟨j, rfl⟩ : ∃ j, q = o + j := ⟨q - o, by omega⟩
      rw [k4 j (by omega) (by omega), h2 j (by omega)]
  rw [← this]
  exact k1
theorem bc_t_other {t' : List Int} (h : Bo.Shaped b) (ht : t'.length = 16) {j : Nat} (hj : 16 ≤ j) : (bc { b with t := t' } s)[j]? = (bc b s)[j]? := by
  have h' : Bo.Shaped { b with t := t' } := ⟨ht, h.p, h.u⟩
  rcases Nat.lt_or_ge j 40 with d | d
  · obtain ⟨m, rfl⟩ : ∃ m, j = 16 + m := ⟨j - 16, by omega⟩
    rw [bc_p h' (by omega), bc_p h (by omega)]
  · rcases Nat.lt_or_ge j 49 with e | e
    · obtain ⟨m, rfl⟩ : ∃ m, j = 40 + m := ⟨j - 40, by omega⟩
      rw [bc_n h' (by omega), bc_n h (by omega)]
    · rw [Array.getElem?_eq_none (by rw [bc_size h']; exact e), Array.getElem?_eq_none (by rw [bc_size h]; exact e)]
theorem Blk.setT (k : Blk w g T (bc b s)) (h : Bo.Shaped b) {t' : List Int} (ht : t'.length = 16) : Blk (w.setCells g 0 (tc t').toList) g T (bc { b with t := t' } s) := by
  have h' : Bo.Shaped { b with t := t' } := ⟨ht, h.p, h.u⟩
  refine k.mid (by rw [bc_size h, Array.length_toList, tc_size, ht]; omega) (by rw [bc_size h, bc_size h']) (fun j hj => ?_) fun j hj => ?_
  · rw [Array.length_toList, tc_size, ht] at hj
    exact bc_t_other h ht (by omega)
  · rw [Array.length_toList, tc_size, ht] at hj
    rw [Nat.zero_add, bc_t h' hj, Array.getElem?_toList]
theorem Blk.setP (k : Blk w g T (bc b s)) (h : Bo.Shaped b) {i : Nat} (hi : i < 8) (q : La) : Blk (w.setCells g (16 + i * 3) (pc q)) g T (bc { b with p := b.p.set i q } s) := by
  have h' : Bo.Shaped { b with p := b.p.set i q } := ⟨h.t, by rw [List.length_set]; exact h.p, h.u⟩
  have hl : (pc q).length = 3 := rfl
  refine k.mid (by rw [bc_size h, hl]; omega) (by rw [bc_size h, bc_size h']) (fun j hj => ?_) fun j hj => ?_
  · rw [hl] at hj
    rcases Nat.lt_or_ge j 16 with c | c
    · rw [bc_t h' c, bc_t h c]
    · rcases Nat.lt_or_ge j 40 with d | d
      · obtain ⟨m, rfl⟩ : ∃ m, j = 16 + m := ⟨j - 16, by omega⟩
        obtain ⟨x, y, hy, rfl⟩ : ∃ x y, y < 3 ∧ m = x * 3 + y := ⟨m / 3, m % 3, Nat.mod_lt _ (by omega), by omega⟩
        have hx : x < 8 := by omega
        rw [bc_p h' (by omega), bc_p h (by omega), plansC_at _ x y (by rw [List.length_set, h.p]; exact hx) hy, plansC_at _ x y (by rw [h.p]; exact hx) hy]
        rw [List.getD_eq_getElem?_getD, List.getD_eq_getElem?_getD, List.getElem?_set_ne (by omega)]
      · rcases Nat.lt_or_ge j 49 with e | e
        · obtain ⟨m, rfl⟩ : ∃ m, j = 40 + m := ⟨j - 40, by omega⟩
          rw [bc_n h' (by omega), bc_n h (by omega)]
        · rw [Array.getElem?_eq_none (by rw [bc_size h']; exact e), Array.getElem?_eq_none (by rw [bc_size h]; exact e)]
  · rw [hl] at hj
    rw [Nat.add_assoc, bc_p h' (by omega), plansC_at _ i j (by rw [List.length_set, h.p]; exact hi) hj]
    rw [List.getD_eq_getElem?_getD, List.getElem?_set_self (by rw [h.p]; exact hi)]
    rfl
theorem Blk.setN (k : Blk w g T (bc b s)) (h : Bo.Shaped b) {u : List Int} {s' : Value} {l : List Vl} (hu : u.length = 8) : Blk (w.setCells g 40 (uc u s').toList) g T (bc { b with u := u, l := l } s') := by
  have h' : Bo.Shaped { b with u := u, l := l } := ⟨h.t, h.p, hu⟩
  refine k.mid (by rw [bc_size h, Array.length_toList, uc_size hu]; omega) (by rw [bc_size h, bc_size h']) (fun j hj => ?_) fun j hj => ?_
  · rw [Array.length_toList, uc_size hu] at hj
    rcases Nat.lt_or_ge j 16 with c | c
    · rw [bc_t h' c, bc_t h c]
    · rcases Nat.lt_or_ge j 40 with d | d
      · obtain ⟨m, rfl⟩ : ∃ m, j = 16 + m := ⟨j - 16, by omega⟩
        rw [bc_p h' (by omega), bc_p h (by omega)]
      · rw [Array.getElem?_eq_none (by rw [bc_size h']; omega), Array.getElem?_eq_none (by rw [bc_size h]; omega)]
  · rw [Array.length_toList, uc_size hu] at hj
    rw [bc_n h' hj, Array.getElem?_toList]
theorem bc_set48 (h : Bo.Shaped b) (s' : Value) : (bc b s).setIfInBounds 48 s' = bc b s' := by
  apply Array.ext_getElem?
  intro j
  rw [Array.getElem?_setIfInBounds, bc_size h]
  by_cases e : 48 = j
  · subst e
    rw [if_pos rfl, if_pos (by omega), bc_last h]
  · rw [if_neg e]
    rcases Nat.lt_or_ge j 48 with c | c
    · rcases Nat.lt_or_ge j 16 with d | d
      · rw [bc_t h d, bc_t h d]
      · rcases Nat.lt_or_ge j 40 with f | f
        · obtain ⟨m, rfl⟩ : ∃ m, j = 16 + m := ⟨j - 16, by omega⟩
          rw [bc_p h (by omega), bc_p h (by omega)]
        · obtain ⟨m, rfl⟩ : ∃ m, j = 40 + m := ⟨j - 40, by omega⟩
          rw [bc_n h (by omega), bc_n h (by omega)]
          unfold uc
          rw [List.getElem?_toArray, List.getElem?_toArray, List.getElem?_append_left (by rw [List.length_map, h.u]; omega), List.getElem?_append_left (by rw [List.length_map, h.u]; omega)]
    · rw [Array.getElem?_eq_none (by rw [bc_size h]; omega), Array.getElem?_eq_none (by rw [bc_size h]; omega)]
end
theorem rowBo : RowT Tryz.prog 41 49 := ⟨_, Tryz.underlying41, rfl, by kernel_rfl⟩
theorem rowRBo : RowT Tryz.prog 32 49 := ⟨_, Tryz.underlying32, rfl, by kernel_rfl⟩
theorem rowPl : RowT Tryz.prog 36 24 := ⟨_, Tryz.underlying36, rfl, by kernel_rfl⟩
theorem rowRPl : RowT Tryz.prog 27 24 := ⟨_, Tryz.underlying27, rfl, by kernel_rfl⟩
theorem rowRT : RowT Tryz.prog 24 16 := ⟨_, Tryz.underlying24, rfl, by kernel_rfl⟩
theorem zbo : bc Bo.zero (.slice none 0 0) = #[.int .i64 0, .int .i64 0, .int .i64 0, .int .i64 0, .int .i64 0, .int .i64 0, .int .i64 0, .int .i64 0, .int .i64 0, .int .i64 0, .int .i64 0, .int .i64 0, .int .i64 0, .int .i64 0, .int .i64 0, .int .i64 0, .int .i64 0, .int .i64 0, .int .i64 0, .int .i64 0, .int .i64 0, .int .i64 0, .int .i64 0, .int .i64 0, .int .i64 0, .int .i64 0, .int .i64 0, .int .i64 0, .int .i64 0, .int .i64 0, .int .i64 0, .int .i64 0, .int .i64 0, .int .i64 0, .int .i64 0, .int .i64 0, .int .i64 0, .int .i64 0, .int .i64 0, .int .i64 0, .int .i64 0, .int .i64 0, .int .i64 0, .int .i64 0, .int .i64 0, .int .i64 0, .int .i64 0, .int .i64 0, .slice none 0 0] := by kernel_rfl
/-- a value that holds a board, its notes below B -/
def HoldBo (B : Nat) (b : Bd) (q : Value) (w : World) : Prop := ∃ A m c, q = .agg (bc b (.slice A m c)) ∧ RdV w B A m b.l ∧ m ≤ 100000
def FrBo (b : Bd) (q : Value) (w : World) : Prop := HoldBo w.heap.size b q w
/-- .. in memory of the call's own -/
def FoBo (T : TypeId) (b : Bd) (q : Value) (w : World) : Prop := ∃ A m c, q = .agg (bc b (.slice A m c)) ∧ OwnV T w 0 A m c b.l ∧ m ≤ 100000
section
variable {B B' : Nat} {b : Bd} {q : Value} {w w' : World} {T : TypeId}
theorem HoldBo.below (h : HoldBo B b q w) (hb : Below B w w') : HoldBo B b q w' := by
  obtain ⟨A, m, c, h1, h2, h3⟩ := h
  exact ⟨A, m, c, h1, h2.below hb, h3⟩
theorem HoldBo.fresh (h : HoldBo B b q w) : FrBo b q w := by
  obtain ⟨A, m, c, h1, h2, h3⟩ := h
  exact ⟨A, m, c, h1, h2.size, h3⟩
theorem FrBo.below (h : FrBo b q w) (hb : Below w.heap.size w w') : FrBo b q w' := (HoldBo.below h hb).fresh
theorem FrBo.len (h : FrBo b q w) : b.l.length ≤ 100000 := by
  obtain ⟨A, m, c, _, h2, h3⟩ := h
  rw [← h2.1]; exact h3
theorem FrBo.agg (h : FrBo b q w) : ∃ cs, q = .agg cs := by
  obtain ⟨A, m, c, h1, _⟩ := h
  exact ⟨_, h1⟩
theorem FrBo.size {cs : Array Value} (h : FrBo b (.agg cs) w) (hs : Bo.Shaped b) : cs.size = 49 := by
  obtain ⟨A, m, c, h1, _⟩ := h
  injection h1 with h1
  rw [h1, bc_size hs]
theorem FrBo.one {cs : Array Value} (h : FrBo b (.agg cs) w) : cs.all (·.oneCell') = true := by
  obtain ⟨A, m, c, h1, _⟩ := h
  injection h1 with h1
  rw [h1]
  exact bc_one rfl
theorem FoBo.fresh (h : FoBo T b q w) : FrBo b q w := by
  obtain ⟨A, m, c, h1, h2, h3⟩ := h
  exact ⟨A, m, c, h1, h2.rd, h3⟩
theorem FoBo.below (h : FoBo T b q w) (hb : Below w.heap.size w w') : FoBo T b q w' := by
  obtain ⟨A, m, c, h1, h2, h3⟩ := h
  exact ⟨A, m, c, h1, h2.below hb (Nat.le_refl _), h3⟩
theorem FoBo.grown {t : TypeId} {g : Nat} {cs : Array Value} (h : FoBo T b q w) (hg : w.grownBy w' (some g)) (k : Blk w g t cs) (hne : t ≠ T) : FoBo T b q w' := by
  obtain ⟨A, m, c, h1, h2, h3⟩ := h
  exact ⟨A, m, c, h1, h2.grown hg (.inr (own_ne h2.2 k hne)), h3⟩
/-- the end of a call that gives a board; with an error's number -/
def GiveBd (T : TypeId) (w : World) (b : Bd) (e : Ending) (w' : World) : Prop := ∃ q, e = .returned q ∧ FoBo T b q w' ∧ Below w.heap.size w w'
def GiveBdE (T : TypeId) (w : World) (b : Bd) (k : Int) (e : Ending) (w' : World) : Prop := ∃ q, e = .returned (.tuple #[q, .int .i64 k]) ∧ FoBo T b q w' ∧ Below w.heap.size w w'
/-- .. in memory of the call's own, at B or behind -/
def FoBoB (T : TypeId) (B : Nat) (b : Bd) (q : Value) (w : World) : Prop := ∃ A m c, q = .agg (bc b (.slice A m c)) ∧ OwnV T w B A m c b.l ∧ m ≤ 100000
theorem FoBoB.fo (h : FoBoB T B b q w) : FoBo T b q w := by
  obtain ⟨A, m, c, h1, h2, h3⟩ := h
  exact ⟨A, m, c, h1, h2.mono (Nat.zero_le _), h3⟩
def GiveBdB (T : TypeId) (w : World) (b : Bd) (e : Ending) (w' : World) : Prop := ∃ q, e = .returned q ∧ FoBoB T w.heap.size b q w' ∧ Below w.heap.size w w'
def GiveBdEB (T : TypeId) (w : World) (b : Bd) (k : Int) (e : Ending) (w' : World) : Prop := ∃ q, e = .returned (.tuple #[q, .int .i64 k]) ∧ FoBoB T w.heap.size b q w' ∧ Below w.heap.size w w'
end
theorem GiveBdB.give {T : TypeId} {w w' : World} {b : Bd} {e : Ending} (h : GiveBdB T w b e w') : GiveBd T w b e w' := by
  obtain ⟨q, h1, h2, h3⟩ := h
  exact ⟨q, h1, h2.fo, h3⟩
theorem GiveBdEB.give {T : TypeId} {w w' : World} {b : Bd} {k : Int} {e : Ending} (h : GiveBdEB T w b k e w') : GiveBdE T w b k e w' := by
  obtain ⟨q, h1, h2, h3⟩ := h
  exact ⟨q, h1, h2.fo, h3⟩
end Go.Proofs.YtocoohpekpkmkaaGreat
