/- Plain laws of joins and counts. -/
import Derived.Test.YtoepklcmdmeanaaTallyWithin
namespace Go.Proofs.Ytoepklcmdmeanaa
open Tally
theorem join_at {l m : List Int} (hl : l.length = 16) (hm : m.length = 16) {i : Nat} (hi : i < 16) : (joinL l m).getD i 0 = mx ((ownL l).getD i 0) ((ownL m).getD i 0) := both_at hl hm hi
theorem more_at {l m : List Int} (hl : l.length = 16) (hm : m.length = 16) {i : Nat} (hi : i < 16) : (moreL l m).getD i 0 = mr ((ownL l).getD i 0) ((ownL m).getD i 0) := both_at hl hm hi
theorem join_len {l m : List Int} (hl : l.length = 16) (hm : m.length = 16) : (joinL l m).length = 16 := bothL_len hl hm
theorem more_len {l m : List Int} (hl : l.length = 16) (hm : m.length = 16) : (moreL l m).length = 16 := bothL_len hl hm
theorem own_join {l m : List Int} (hl : l.length = 16) (hm : m.length = 16) : ownL (joinL l m) = joinL l m := own_own _ (join_right hl hm)
theorem own_more {l m : List Int} (hl : l.length = 16) (hm : m.length = 16) : ownL (moreL l m) = moreL l m := own_own _ (more_right hl hm)
theorem mx_or (x y : Int) : (x < y ∧ mx x y = y) ∨ (y ≤ x ∧ mx x y = x) := by unfold mx; split <;> omega
theorem mr_or (x y : Int) : (y < x ∧ mr x y = x) ∨ (x ≤ y ∧ mr x y = 0) := by unfold mr; split <;> omega
theorem join_comm {x y : List Int} (hx : x.length = 16) (hy : y.length = 16) : joinL y x = joinL x y := ext16 (join_len hy hx) (join_len hx hy) fun i hi => by
  rw [join_at hy hx hi, join_at hx hy hi]
  have a := mx_or ((ownL x).getD i 0) ((ownL y).getD i 0)
  have b := mx_or ((ownL y).getD i 0) ((ownL x).getD i 0)
  omega
theorem join_self {x y : List Int} (hx : x.length = 16) (hy : y.length = 16) : joinL (joinL x y) (joinL x y) = joinL x y := ext16 (join_len (join_len hx hy) (join_len hx hy)) (join_len hx hy) fun i hi => by
  rw [join_at (join_len hx hy) (join_len hx hy) hi, own_join hx hy]
  have a := mx_or ((joinL x y).getD i 0) ((joinL x y).getD i 0)
  omega
theorem join_more {x y : List Int} (hx : x.length = 16) (hy : y.length = 16) : joinL (joinL x y) y = joinL x y := ext16 (join_len (join_len hx hy) hy) (join_len hx hy) fun i hi => by
  rw [join_at (join_len hx hy) hy hi, own_join hx hy, join_at hx hy hi]
  have a := mx_or ((ownL x).getD i 0) ((ownL y).getD i 0)
  have b := mx_or (mx ((ownL x).getD i 0) ((ownL y).getD i 0)) ((ownL y).getD i 0)
  omega
theorem more_join {x y : List Int} (hx : x.length = 16) (hy : y.length = 16) : joinL y (moreL x y) = joinL x y := ext16 (join_len hy (more_len hx hy)) (join_len hx hy) fun i hi => by
  have h1 := right_at (own_right x) i
  have h2 := right_at (own_right y) i
  rw [join_at hy (more_len hx hy) hi, own_more hx hy, more_at hx hy hi, join_at hx hy hi]
  have a := mx_or ((ownL x).getD i 0) ((ownL y).getD i 0)
  have b := mr_or ((ownL x).getD i 0) ((ownL y).getD i 0)
  have c := mx_or ((ownL y).getD i 0) (mr ((ownL x).getD i 0) ((ownL y).getD i 0))
  omega
theorem with_fst {x y : List Int} (hx : x.length = 16) (hy : y.length = 16) : withB x (joinL x y) = true := decide_eq_true (ext16 (more_len hx (join_len hx hy)) rfl fun i hi => by
  rw [more_at hx (join_len hx hy) hi, own_join hx hy, join_at hx hy hi, zero_at i hi]
  have a := mx_or ((ownL x).getD i 0) ((ownL y).getD i 0)
  have b := mr_or ((ownL x).getD i 0) (mx ((ownL x).getD i 0) ((ownL y).getD i 0))
  omega)
theorem with_snd {x y : List Int} (hx : x.length = 16) (hy : y.length = 16) : withB y (joinL x y) = true := decide_eq_true (ext16 (more_len hy (join_len hx hy)) rfl fun i hi => by
  rw [more_at hy (join_len hx hy) hi, own_join hx hy, join_at hx hy hi, zero_at i hi]
  have a := mx_or ((ownL x).getD i 0) ((ownL y).getD i 0)
  have b := mr_or ((ownL y).getD i 0) (mx ((ownL x).getD i 0) ((ownL y).getD i 0))
  omega)
theorem join_assoc {x y z : List Int} (hx : x.length = 16) (hy : y.length = 16) (hz : z.length = 16) : joinL (joinL x y) z = joinL x (joinL y z) := ext16 (join_len (join_len hx hy) hz) (join_len hx (join_len hy hz)) fun i hi => by
  rw [join_at (join_len hx hy) hz hi, join_at hx (join_len hy hz) hi, own_join hx hy, own_join hy hz, join_at hx hy hi, join_at hy hz hi]
  have a := mx_or ((ownL x).getD i 0) ((ownL y).getD i 0)
  have b := mx_or ((ownL y).getD i 0) ((ownL z).getD i 0)
  have c := mx_or (mx ((ownL x).getD i 0) ((ownL y).getD i 0)) ((ownL z).getD i 0)
  have d := mx_or ((ownL x).getD i 0) (mx ((ownL y).getD i 0) ((ownL z).getD i 0))
  omega
theorem add_at {l : List Int} {s : Nat} {a : Int} (hl : l.length = 16) (hs : s < 16) (i : Nat) : (s = i ∧ (l.set s (l.getD s 0 + a)).getD i 0 = l.getD i 0 + a) ∨ (s ≠ i ∧ (l.set s (l.getD s 0 + a)).getD i 0 = l.getD i 0) := by
  rw [List.getD_eq_getElem?_getD]
  by_cases e : s = i
  · subst e; left; rw [List.getElem?_set_self (by omega)]; exact ⟨rfl, rfl⟩
  · right; rw [List.getElem?_set_ne e, ← List.getD_eq_getElem?_getD]; exact ⟨e, rfl⟩
theorem add_value {l : List Int} {s : Nat} {a : Int} (hl : l.length = 16) (hr : rightB l = true) (hs : s < 16) (hm : rightB (l.set s (l.getD s 0 + a)) = true) {n : Int} (hn : n = if s < 8 then a else -a) : valueL (l.set s (l.getD s 0 + a)) = valueL l + n := by
  unfold valueL
  rw [own_own _ hr, own_own _ hm, sumTo_set (by omega) 8 (Nat.le_refl _), hn]
  by_cases h : s < 8
  · rw [if_pos h, if_pos h, if_neg (by omega)]; omega
  · rw [if_neg h, if_neg h, if_pos (by omega)]; omega
theorem add_with {l : List Int} {s : Nat} {a : Int} (hl : l.length = 16) (hr : rightB l = true) (hs : s < 16) (hm : rightB (l.set s (l.getD s 0 + a)) = true) (ha : 0 ≤ a) : withB l (l.set s (l.getD s 0 + a)) = true := decide_eq_true (ext16 (more_len hl (by simp [hl])) rfl fun i hi => by
  rw [more_at hl (by simp [hl]) hi, own_own _ hr, own_own _ hm, zero_at i hi]
  have h1 := add_at (a := a) hl hs i
  have h2 := mr_or (l.getD i 0) ((l.set s (l.getD s 0 + a)).getD i 0)
  omega)
theorem add_join {l : List Int} {s : Nat} {a : Int} (hl : l.length = 16) (hr : rightB l = true) (hs : s < 16) (hm : rightB (l.set s (l.getD s 0 + a)) = true) (ha : 0 ≤ a) : joinL l (l.set s (l.getD s 0 + a)) = l.set s (l.getD s 0 + a) := ext16 (join_len hl (by simp [hl])) (by simp [hl]) fun i hi => by
  rw [join_at hl (by simp [hl]) hi, own_own _ hr, own_own _ hm]
  have h1 := add_at (a := a) hl hs i
  have h2 := mx_or (l.getD i 0) ((l.set s (l.getD s 0 + a)).getD i 0)
  omega
theorem add_back {l : List Int} {s : Nat} {a : Int} (hl : l.length = 16) (hr : rightB l = true) (hs : s < 16) (hm : rightB (l.set s (l.getD s 0 + a)) = true) (ha : 0 ≤ a) : withB (l.set s (l.getD s 0 + a)) l = decide (a = 0) := by
  unfold withB
  refine decide_eq_decide.2 ⟨fun h => ?_, fun h => ?_⟩
  · have h1 := more_at (l := l.set s (l.getD s 0 + a)) (m := l) (by simp [hl]) hl hs
    rw [h, zero_at s hs, own_own _ hr, own_own _ hm] at h1
    have h3 := add_at (a := a) hl hs s
    have h2 := right_at hr s
    have h4 := mr_or ((l.set s (l.getD s 0 + a)).getD s 0) (l.getD s 0)
    omega
  · refine ext16 (more_len (by simp [hl]) hl) rfl fun i hi => ?_
    rw [more_at (by simp [hl]) hl hi, own_own _ hr, own_own _ hm, zero_at i hi]
    have h3 := add_at (a := a) hl hs i
    have h4 := mr_or ((l.set s (l.getD s 0 + a)).getD i 0) (l.getD i 0)
    omega
end Go.Proofs.Ytoepklcmdmeanaa
