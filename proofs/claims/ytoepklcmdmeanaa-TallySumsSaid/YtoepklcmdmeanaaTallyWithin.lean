/- Within: one knows no more than the other. -/
import Derived.Test.YtoepklcmdmeanaaTallyJoin
namespace Go.Proofs.Ytoepklcmdmeanaa
open Go.RowKit
open Tally
theorem mr_zero {x y : Int} (hx : 0 ≤ x) (hy : 0 ≤ y) : mr x y = 0 ↔ mx x y = y := by
  unfold mr mx
  split
  · split <;> constructor <;> intro h <;> omega
  · split <;> constructor <;> intro h <;> omega
theorem both_at {h : Int → Int → Int} {l m : List Int} (hl : l.length = 16) (hm : m.length = 16) {i : Nat} (hi : i < 16) : (bothL h l m).getD i 0 = h ((ownL l).getD i 0) ((ownL m).getD i 0) := by
  have h1 := own_len hl
  have h2 := own_len hm
  unfold bothL
  rw [List.getD_eq_getElem?_getD, List.getElem?_zipWith, List.getD_eq_getElem?_getD, List.getD_eq_getElem?_getD, List.getElem?_eq_getElem (by omega), List.getElem?_eq_getElem (by omega)]
  rfl
theorem ext16 {a b : List Int} (ha : a.length = 16) (hb : b.length = 16) (h : ∀ i, i < 16 → a.getD i 0 = b.getD i 0) : a = b := by
  apply List.ext_getElem?
  intro i
  by_cases hi : i < 16
  · have := h i hi
    rw [List.getD_eq_getElem?_getD, List.getD_eq_getElem?_getD, List.getElem?_eq_getElem (by omega), List.getElem?_eq_getElem (by omega)] at this
    rw [List.getElem?_eq_getElem (by omega), List.getElem?_eq_getElem (by omega)]
    simpa using this
  · rw [List.getElem?_eq_none (by omega), List.getElem?_eq_none (by omega)]
theorem zero_at (i : Nat) (hi : i < 16) : zero.getD i 0 = 0 := by
  unfold zero
  rw [List.getD_eq_getElem?_getD, List.getElem?_replicate, if_pos hi]; rfl
theorem within_iff {l m : List Int} (hl : l.length = 16) (hm : m.length = 16) : moreL l m = zero ↔ joinL l m = ownL m := by
  have key : ∀ i, i < 16 → ((moreL l m).getD i 0 = zero.getD i 0 ↔ (joinL l m).getD i 0 = (ownL m).getD i 0) := fun i hi => by
    unfold moreL joinL
    rw [both_at hl hm hi, both_at hl hm hi, zero_at i hi]
    exact mr_zero (right_at (own_right l) i).1 (right_at (own_right m) i).1
  constructor
  · intro h
    exact ext16 (bothL_len hl hm) (own_len hm) fun i hi => (key i hi).1 (by rw [h])
  · intro h
    exact ext16 (bothL_len hl hm) rfl fun i hi => (key i hi).2 (by rw [h])
theorem both_right {h : Int → Int → Int} (hh : ∀ x y, 0 ≤ x → x ≤ top → 0 ≤ y → y ≤ top → 0 ≤ h x y ∧ h x y ≤ top) {l m : List Int} (hl : l.length = 16) (hm : m.length = 16) : rightB (bothL h l m) = true :=
  right_of fun i hi => by
    have hi' : i < 16 := by rw [bothL_len hl hm] at hi; exact hi
    rw [both_at hl hm hi', inB_iff]
    have h1 := right_at (own_right l) i
    have h2 := right_at (own_right m) i
    exact hh _ _ h1.1 h1.2 h2.1 h2.2
theorem join_right {l m : List Int} (hl : l.length = 16) (hm : m.length = 16) : rightB (joinL l m) = true :=
  both_right (fun x y h1 h2 h3 h4 => by unfold mx; split <;> omega) hl hm
theorem more_right {l m : List Int} (hl : l.length = 16) (hm : m.length = 16) : rightB (moreL l m) = true :=
  both_right (fun x y h1 h2 h3 h4 => by unfold mr; split <;> omega) hl hm
/-- One knows no more than the other. -/
def withB (l m : List Int) : Bool := decide (moreL l m = zero)
set_option maxRecDepth 100000 in
theorem within2_any (l m : List Int) (w : World) (hl : l.length = 16) (hm : m.length = 16) :
    Calls Try.prog 17 #[.agg (tc l), .agg (tc m)] w fun e w' => e = .returned (.bool (withB l m)) ∧ Below w.heap.size w w' := by
  have HS := Lib.hid (show (tc l).size = 16 by rw [tc_size, hl])
  have HM := Lib.hid (show (tc m).size = 16 by rw [tc_size, hm])
  have HL := Lib.hid hl
  have HLM := Lib.hid hm
  have HB := Lib.hid (show (moreL l m).length = 16 from bothL_len hl hm)
  have HR := Lib.hid (right_wf (more_right hl hm))
  clear hl hm
  go_enter Try.func17, Try.ntmps17
  go_upto_region 1 with fail
  refine nameW ?_
  intro wv hwv
  obtain ⟨g, hg⟩ : ∃ g, g = w.heap.size := ⟨_, rfl⟩
  rw [← hg]
  have k0 : Blk wv g 26 (tc l) := by rw [hwv, hg]; exact (Blk.new w _ _).alloc _
  have k1 : Blk wv (g + 1) 26 (tc m) := by
    have h := Blk.new (w.alloc (.cells (tc l) 26)) 26 (tc m)
    rw [hwv, hg]
    simpa using h
  have hb : Below w.heap.size w wv := by rw [hwv]; exact ((Below.refl _ _).alloc (Nat.le_refl _) _).alloc (by simp) _
  have hgw : w.heap.size ≤ g := by omega
  clear hwv hg
  go_wp2_with (first
    | ((with_reducible refine wpList_ld rowT k0 HS.out ?_ ?_); rotate_left; (rfl))
    | ((with_reducible refine wpList_ld rowT k1 HM.out ?_ ?_); rotate_left; (rfl)))
  refine (more_any l m wv HL.out HLM.out).mono ?_
  rintro e w1 ⟨rfl, h1⟩
  have b1 := hb.trans (h1.mono hb.size)
  clear k0 k1 hb h1
  have HW := Lib.hid (show withB l m = decide (moreL l m = zero) from rfl)
  go_wp2_with ((with_reducible refine wpList_eq twoT HB.out zero_len HR.out (right_wf zero_right) ?_ ?_ ?_ ?_); rotate_left; (rfl); (rfl); (rfl))
  go_ret
  exact ⟨by rw [HW.out]; rfl, b1⟩
set_option maxRecDepth 100000 in
theorem rwithin_any (l m : List Int) (w : World) (hl : l.length = 16) (hm : m.length = 16) :
    Calls Try.prog 18 #[.agg (tc l), .agg (tc m)] w fun e w' => e = .returned (.bool (withB l m)) ∧ Below w.heap.size w w' := by
  have HS := Lib.hid (show (tc l).size = 16 by rw [tc_size, hl])
  have HM := Lib.hid (show (tc m).size = 16 by rw [tc_size, hm])
  have HL := Lib.hid hl
  have HLM := Lib.hid hm
  have HB := Lib.hid (show (joinL l m).length = 16 from bothL_len hl hm)
  have HR := Lib.hid (right_wf (join_right hl hm))
  have HO := Lib.hid (own_len hm)
  have HW := Lib.hid (show withB l m = decide (joinL l m = ownL m) from decide_eq_decide.2 (within_iff hl hm))
  clear hl hm
  go_enter Try.func18, Try.ntmps18
  go_upto_region 1 with fail
  refine nameW ?_
  intro wv hwv
  obtain ⟨g, hg⟩ : ∃ g, g = w.heap.size := ⟨_, rfl⟩
  rw [← hg]
  have k0 : Blk wv g 24 (tc l) := by rw [hwv, hg]; exact (Blk.new w _ _).alloc _
  have k1 : Blk wv (g + 1) 24 (tc m) := by
    have h := Blk.new (w.alloc (.cells (tc l) 24)) 24 (tc m)
    rw [hwv, hg]
    simpa using h
  have hb : Below w.heap.size w wv := by rw [hwv]; exact ((Below.refl _ _).alloc (Nat.le_refl _) _).alloc (by simp) _
  have hgw : w.heap.size ≤ g := by omega
  clear hwv hg
  refine wp_region_below (by kernel_rfl) (by kernel_rfl) ?_
  intro T iT F hF hT
  have H0 := Lib.hid (show ∀ w', (∃ x, w' = F x) → Blk w' g 24 (tc l) from fun w' ⟨x, hx⟩ => by rw [hx]; exact k0.below (hF x) k0.lt)
  have H1 := Lib.hid (show ∀ w', (∃ x, w' = F x) → Blk w' (g + 1) 24 (tc m) from fun w' ⟨x, hx⟩ => by rw [hx]; exact k1.below (hF x) k1.lt)
  have HF := Lib.hid hF
  have HT := Lib.hid hT
  clear hF hT k0 k1
  repeat (first
    | ((with_reducible refine quiet_ldg rowR H0.out HS.out ?_ ?_ ?_); rotate_left; (rfl); (rfl); simp only [Act.put, List.setIfInBounds_toArray, List.set_cons_succ, List.set_cons_zero, eq_self, decide_true])
    | ((with_reducible refine quiet_ldg rowR H1.out HM.out ?_ ?_ ?_); rotate_left; (rfl); (rfl); simp only [Act.put, List.setIfInBounds_toArray, List.set_cons_succ, List.set_cons_zero, eq_self, decide_true])
    | ((with_reducible refine quiet_eq twoR HB.out HO.out HR.out (right_wf (own_right m)) ?_ ?_ ?_ ?_); rotate_left; (rfl); (rfl); (rfl); simp only [Act.put, List.setIfInBounds_toArray, List.set_cons_succ, List.set_cons_zero, eq_self, decide_true])
    | go_big_quiet_step ((first
        | (go_at_call 16; exact calls_below HF.out HT.out (rjoin_any l m _ HL.out HLM.out))
        | (go_at_call 26; exact calls_below HF.out HT.out (rown_any m _ HLM.out)))))
  refine wpQuiet_nil ?_
  intro w' hw'
  obtain ⟨q, rfl⟩ := hw'
  have b6 := hb.trans ((HF.out q).mono hb.size)
  clear HF HT H0 H1
  go_wp2_with fail
  go_ret
  exact ⟨by rw [HW.out]; rfl, b6⟩
end Go.Proofs.Ytoepklcmdmeanaa
