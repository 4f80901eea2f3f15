/- The walks of tally: within, cells, Right, own, Value. -/
import Derived.Test.YtocoohpekpkmkaaTallyMath
import Derived.Test.YtocoohpekpkmkaaQuiet
import Derived.Test.YtocoohpekpkmkaaFoot
import Derived.Test.YtocoohpekpkmkaaChecked
import Derived.Deep.RegionLaw
import Derived.Deep.DeepCutAuto
import Derived.Test.YtocoohpekpkmkaaStepG
namespace Go.Proofs.Ytocoohpekpkmkaa
set_option linter.unusedVariables false
set_option linter.unusedSimpArgs false
set_option maxRecDepth 100000
open Go.RowKit
open Tally

/-- a tally's cells -/
def tc (l : List Int) : Array Value := (l.map (Value.int .i64)).toArray
theorem tc_size (l : List Int) : (tc l).size = l.length := by simp [tc]
theorem tc_one (l : List Int) : (tc l).all (·.oneCell') = true := by
  unfold tc
  rw [Array.all_eq_true_iff_forall_mem]
  intro x hx
  simp at hx
  obtain ⟨a, _, rfl⟩ := hx
  rfl
theorem tc_at {l : List Int} {i : Nat} (h : i < l.length) : (tc l)[i]? = some (.int .i64 (l.getD i 0)) := by
  simp [tc, List.getD_eq_getElem?_getD, h]
theorem tc_set (l : List Int) (i : Nat) (x : Int) : (tc l).setIfInBounds i (.int .i64 x) = tc (l.set i x) := by
  unfold tc
  rw [List.setIfInBounds_toArray, List.map_set]
theorem rowT : RowT Try.prog 80 16 := ⟨_, Try.underlying80, rfl, by kernel_rfl⟩
theorem rowR : RowT Try.prog 73 16 := ⟨_, Try.underlying73, rfl, by kernel_rfl⟩

theorem satwithin_any (n lo hi : Int) (w : World) :
    Calls Try.prog 97 #[.int .i64 n, .int .i64 lo, .int .i64 hi] w fun e w' => e = .returned (.int .i64 (if hi < n then hi else if n < lo then lo else n)) ∧ w = w' := by
  by_cases h1 : hi < n
  · rw [if_pos h1]
    go_enter Try.func97, Try.ntmps97
    go_wp2_with fail
    go_ret
    exact ⟨rfl, rfl⟩
  · rw [if_neg h1]
    by_cases h2 : n < lo
    · rw [if_pos h2]
      go_enter Try.func97, Try.ntmps97
      go_wp2_with fail
      go_ret
      exact ⟨rfl, rfl⟩
    · rw [if_neg h2]
      go_enter Try.func97, Try.ntmps97
      go_wp2_with fail
      go_ret
      exact ⟨rfl, rfl⟩
theorem within_any (n lo hi : Int) (w : World) (h : lo ≤ hi) :
    Calls Try.prog 112 #[.int .i64 n, .int .i64 lo, .int .i64 hi] w fun e w' => e = .returned (.bool (inB n lo hi)) ∧ w = w' := by
  have key : ((if hi < n then hi else if n < lo then lo else n) == n) = inB n lo hi := by
    rw [Bool.eq_iff_iff, inB_iff, beq_iff_eq]
    split
    · omega
    · split <;> omega
  generalize hm : (if hi < n then hi else if n < lo then lo else n) = m at key
  have HM := Lib.hid hm
  clear hm
  go_enter Try.func112, Try.ntmps112
  go_wp2_with fail
  refine (satwithin_any n lo hi w).mono ?_
  rw [HM.out]
  rintro e w' ⟨rfl, rfl⟩
  go_wp2_with fail
  go_ret
  exact ⟨rfl, rfl⟩

/-- pointers to the cells of a tally in block g, as cells hands them on -/
def ptr (g j : Nat) : Value := .pointer (some ⟨g, ord j, none⟩)
def ptrs (g k : Nat) : List Value := (List.range k).map (ptr g)
theorem ptrs_two (g k : Nat) : ptrs g (2 * (k + 1)) = ptrs g (2 * k) ++ [.pointer (some ⟨g, k, none⟩), .pointer (some ⟨g, 8 + k, none⟩)] := by
  unfold ptrs
  rw [show 2 * (k + 1) = 2 * k + 1 + 1 by omega, List.range_succ, List.range_succ]
  simp only [List.map_append, List.map_cons, List.map_nil, List.append_assoc, List.cons_append, List.nil_append]
  have e1 : ord (2 * k) = k := by unfold ord; rw [if_pos (by omega)]; omega
  have e2 : ord (2 * k + 1) = 8 + k := by unfold ord; rw [if_neg (by omega)]; omega
  simp only [ptr, e1, e2]
theorem infoP : (Try.prog.info? 176).map (fun i => (i.zero, i.size, i.bytes)) = some (some (.pointer none), 1, 8) := by kernel_rfl
/-- The sixteen pointers. -/
def CellsEnd (w : World) (g : Nat) (e : Ending) (w' : World) : Prop := ∃ A c, e = .returned (.slice A 16 c) ∧ w'.ownsRow w.heap.size 176 1 (.slice A 16 c) 16 (ptrs g 16) ∧ Below w.heap.size w w'
set_option maxHeartbeats 1000000 in
theorem cells_any (g : Nat) (w : World) : Calls Try.prog 115 #[.pointer (some ⟨g, 0, none⟩)] w (CellsEnd w g) := by
  obtain ⟨i0, hi, hz0, hz1, hz2⟩ := info_parts infoP
  go_enter Try.func115, Try.ntmps115
  go_wp2_with fail
  go_loopw [3, 5] (fun s i wr => ∃ (k : Nat) (A : Option Addr) (c : Nat), k ≤ 8 ∧ i = .int .i64 k ∧ s = .slice A (2 * k) c ∧ wr.ownsRow w.heap.size 176 1 (.slice A (2 * k) c) (2 * k) (ptrs g (2 * k)) ∧ Below w.heap.size w wr) (fun _ i _ => 8 - (intOf i).toNat)
  case atStart => exact ⟨0, none, 0, by omega, rfl, rfl, World.ownsRow_nil _ _ _ _, Below.refl _ _⟩
  case round =>
    obtain ⟨k, A, c, hk, rfl, rfl, ho, hb⟩ := hrel
    by_cases hlt : k < 8
    · have hk0 : (0 : Int) ≤ (k : Int) := by omega
      have hk1 : (k : Int) < 8 := by omega
      have h1 : ∀ u ∈ [Value.pointer (some ⟨g, k, none⟩), .pointer (some ⟨g, 8 + k, none⟩)], u.oneCell' = true := by
        intro u hu
        simp at hu
        rcases hu with rfl | rfl <;> rfl
      have H1 := Lib.hid h1
      clear h1
      have hb2 := hb.drew
      go_wp2_with fail
      go_region_law (first
        | (refine step_app rfl (.tmp 8) (.tmp 19) 179 rfl w.heap.size 176 i0 (.pointer none) 1 8 Try.underlying179 hi hz0 hz1 hz2 rfl (by decide) _ _ _ (by rfl) (ho.alloc _) _ _ 2 2 _ (by rfl) (Rd.made _ _ _ _) rfl H1.out (by unfold maxLen; omega) (by omega) (by have := hb.size; simp; omega) ?_; intro A' c' w2 k1 k2 k3))
      all_goals
        have hP := ptrs_two g k
        rw [show ptrs g (2 * k) ++ #[Value.pointer (some ⟨g, k, none⟩), .pointer (some ⟨g, 8 + k, none⟩)].toList = ptrs g (2 * (k + 1)) from hP.symm] at k1
        have hB := ((hb.alloc hb.size (.cells #[.pointer (some ⟨g, k, none⟩), .pointer (some ⟨g, 8 + k, none⟩)] 176)).drew).grown k2 (by have := hb.size; simp; omega) (fun q hq => (ho.lt q hq).1)
        have HO := Lib.hid k1
        clear hP k1 k2 k3 ho
        go_wp2_with fail
        go_roundw
        case rel => exact ⟨k + 1, A', c', by omega, by go_num, rfl, HO.out, hB⟩
        case measure => simp [intOf]; omega
    · go_wp2_with fail
      go_ret
      obtain rfl : k = 8 := by omega
      exact ⟨A, c, rfl, ho, hb⟩
/-- A pointer of the row, and the number behind it. -/
theorem ptr_at {w : World} {base g c : Nat} {A : Option Addr} (h : w.ownsRow base 176 1 (.slice A 16 c) 16 (ptrs g 16)) {k : Nat} (hk : k < 16) : ∃ q, A = some ⟨q, 0, none⟩ ∧ q < w.heap.size ∧ base ≤ q ∧ w.cell? ⟨q, k, none⟩ = some (.pointer (some ⟨g, ord k, none⟩)) := by
  rcases h.2 with ⟨hv, h0⟩ | ⟨q, cap, cur, hv, hb, hh, _⟩
  · cases h0
  · injection hv with hA
    subst hA
    have r := h.cells (g := q) rfl k (ptr g k) (by simp [ptrs, hk])
    rw [add_mk, Nat.zero_add] at r
    exact ⟨q, rfl, lt_of_block hh, hb, r⟩
theorem Blk.tcell {w : World} {g : Nat} {T : TypeId} {l : List Int} (h : Blk w g T (tc l)) {i : Nat} (hi : i < l.length) : w.cell? ⟨g, i, none⟩ = some (.int .i64 (l.getD i 0)) := by
  rw [h.cell, tc_at hi]
set_option maxHeartbeats 1000000 in
theorem right_any (l : List Int) (w : World) (hl : l.length = 16) :
    Calls Try.prog 92 #[.agg (tc l)] w fun e w' => e = .returned (.bool (rightB l)) ∧ Below w.heap.size w w' := by
  have hk0 : Blk (w.alloc (.cells (tc l) 80)) w.heap.size 80 (tc l) := Blk.new w _ _
  have hb0 : Below w.heap.size w (w.alloc (.cells (tc l) 80)) := (Below.refl _ _).alloc (Nat.le_refl _) _
  have HL := Lib.hid hl
  clear hl
  go_enter Try.func92, Try.ntmps92
  go_wp2_with fail
  refine nameC ?_
  intro wb hwb
  rw [← hwb] at hk0 hb0
  obtain ⟨g, hg⟩ : ∃ g, g = w.heap.size := ⟨_, rfl⟩
  rw [← hg] at hk0 ⊢
  have HG := Lib.hid hg
  clear hg hwb
  refine (cells_any g wb).mono ?_
  rintro e w1 ⟨A, c, rfl, ho, h1⟩
  have hk1 := hk0.below h1 hk0.lt
  have hb1 := hb0.trans (h1.mono hb0.size)
  clear hk0 hb0 h1
  go_wp2_with fail
  go_loop [7] (fun i => ∃ k : Nat, k ≤ 16 ∧ i = .int .i64 k ∧ ∀ j, j < k → inB (l.getD (ord j) 0) 0 top = true) (fun i => 16 - (intOf i).toNat)
  case atStart => exact ⟨0, by omega, rfl, fun j hj => absurd hj (by omega)⟩
  case round =>
    obtain ⟨k, hk, rfl, hall⟩ := hrel
    have HA := Lib.hid hall
    clear hall
    by_cases hlt : k < 16
    · obtain ⟨q, rfl, hq, _, c1⟩ := ptr_at ho hlt
      have c2 := hk1.tcell (i := ord k) (by rw [HL.out]; exact ord_lt hlt)
      have hk0 : (0 : Int) ≤ (k : Int) := by omega
      have hk2 : (k : Int) < 16 := by omega
      obtain ⟨x, hx⟩ : ∃ x, x = l.getD (ord k) 0 := ⟨_, rfl⟩
      rw [← hx] at c2
      have HX := Lib.hid hx
      clear hx
      by_cases hok : inB x 0 top = true
      · have hw := within_any x 0 top w1 (by unfold top; omega)
        rw [hok] at hw
        have HW := Lib.hid hw
        have HOK := Lib.hid hok
        clear hw hok
        go_wp2_with fail
        refine HW.out.mono ?_
        rintro e w' ⟨rfl, rfl⟩
        go_wp2_with fail
        go_round
        case rel =>
          refine ⟨k + 1, by omega, by go_num, fun j hj => ?_⟩
          by_cases hjk : j = k
          · subst hjk; rw [← HX.out]; exact HOK.out
          · exact HA.out j (by omega)
        case measure => simp [intOf]; omega
      · have hw := within_any x 0 top w1 (by unfold top; omega)
        have hok2 : inB x 0 top = false := by simpa using hok
        rw [hok2] at hw
        have hbad : rightB l = false := right_bad (i := ord k) (by rw [HL.out]; exact ord_lt hlt) (by rw [← HX.out]; exact hok2)
        have HBD := Lib.hid hbad
        have HW := Lib.hid hw
        clear hw hok hok2 hbad
        go_wp2_with fail
        refine HW.out.mono ?_
        rintro e w' ⟨rfl, rfl⟩
        go_wp2_with fail
        go_ret
        exact ⟨by rw [HBD.out]; rfl, hb1⟩
    · have hr : rightB l = true := right_ord HL.out fun j hj => HA.out j (by omega)
      have HR := Lib.hid hr
      clear hr
      go_wp2_with fail
      go_ret
      exact ⟨by rw [HR.out]; rfl, hb1⟩
theorem zero_tc : tc zero = #[.int .i64 0, .int .i64 0, .int .i64 0, .int .i64 0, .int .i64 0, .int .i64 0, .int .i64 0, .int .i64 0, .int .i64 0, .int .i64 0, .int .i64 0, .int .i64 0, .int .i64 0, .int .i64 0, .int .i64 0, .int .i64 0] := rfl
theorem zero_size : (tc zero).size = 16 := rfl
theorem own_any (l : List Int) (w : World) (hl : l.length = 16) :
    Calls Try.prog 99 #[.agg (tc l)] w fun e w' => e = .returned (.agg (tc (ownL l))) ∧ Below w.heap.size w w' := by
  have hs : (tc l).size = 16 := by rw [tc_size, hl]
  have HS := Lib.hid hs
  have HL := Lib.hid hl
  clear hl hs
  go_enter Try.func99, Try.ntmps99
  go_upto_region 1 with fail
  refine nameW ?_
  intro wv hwv
  obtain ⟨g, hg⟩ : ∃ g, g = w.heap.size := ⟨_, rfl⟩
  rw [← hg]
  have hk0 : Blk wv g 80 (tc l) := by rw [hwv, hg]; exact (Blk.new w _ _).alloc _
  have hk1 : Blk wv (g + 1) 80 (tc zero) := by
    have h := Blk.new (w.alloc (.cells (tc l) 80)) 80 (tc zero)
    rw [zero_tc] at h
    rw [zero_tc, hwv, hg]
    simpa using h
  have hb : Below w.heap.size w wv := by rw [hwv]; exact ((Below.refl _ _).alloc (Nat.le_refl _) _).alloc (by simp) _
  have hgw : w.heap.size ≤ g := by omega
  clear hwv hg
  go_wp2_with ((with_reducible refine wpList_ld rowT hk0 HS.out ?_ ?_); rotate_left; (rfl))
  refine (right_any l wv HL.out).mono ?_
  rintro e w1 ⟨rfl, h1⟩
  have k0 := hk0.below h1 hk0.lt
  have k1 := hk1.below h1 hk1.lt
  have b1 := hb.trans (h1.mono hb.size)
  clear hk0 hk1 hb h1
  by_cases hr : rightB l = true
  · have ho := own_own l hr
    rw [hr]
    have HO := Lib.hid ho
    clear hr ho
    go_wp2_with (first
      | ((with_reducible refine wpList_ld rowT k0 HS.out ?_ ?_); rotate_left; (rfl))
      | ((with_reducible refine wpList_st rowT k1 HS.out zero_size (tc_one l) ?_ ?_ ?_); rotate_left; (rfl); (rfl); intro w2 k2 g2 z2))
    have b2 := b1.grown g2 b1.size (fun q hq => by injection hq; omega)
    exact bodyPost_ret (v := .agg (tc l)) (results_blk rfl rowT k2 HS.out rfl) rfl ⟨by rw [HO.out], b2⟩
  · have ho : ownL l = zero := by unfold ownL; rw [if_neg hr]
    have hr2 : rightB l = false := by simpa using hr
    rw [hr2]
    have HO := Lib.hid ho
    clear hr ho hr2
    go_wp2_with ((with_reducible refine wpList_st rowT k1 zero_size zero_size (tc_one zero) ?_ ?_ ?_); rotate_left; (rfl); (rfl); intro w2 k2 g2 z2)
    have b2 := b1.grown g2 b1.size (fun q hq => by injection hq; omega)
    exact bodyPost_ret (v := .agg (tc zero)) (results_blk rfl rowT k2 zero_size rfl) rfl ⟨by rw [HO.out], b2⟩

theorem sum_step (l : List Int) (k : Nat) : sumTo l (k + 1) = sumTo l k + (l.getD k 0 - l.getD (8 + k) 0) := rfl
set_option maxHeartbeats 1000000 in
theorem value_any (l : List Int) (w : World) (hl : l.length = 16) :
    Calls Try.prog 58 #[.agg (tc l)] w fun e w' => e = .returned (.int .i64 (valueL l)) ∧ Below w.heap.size w w' := by
  have hs : (tc l).size = 16 := by rw [tc_size, hl]
  have hs2 : (tc (ownL l)).size = 16 := by rw [tc_size, own_len hl]
  have HS := Lib.hid hs
  have HS2 := Lib.hid hs2
  have HL := Lib.hid hl
  have HL2 := Lib.hid (own_len hl)
  have hri := own_right l
  have HRI := Lib.hid hri
  clear hl hs hs2 hri
  have k0 : Blk (w.alloc (.cells (tc l) 80)) w.heap.size 80 (tc l) := Blk.new w _ _
  have hb : Below w.heap.size w (w.alloc (.cells (tc l) 80)) := (Below.refl _ _).alloc (Nat.le_refl _) _
  go_enter Try.func58, Try.ntmps58
  go_upto_region 1 with fail
  refine nameW ?_
  intro wv hwv
  rw [← hwv] at k0 hb
  obtain ⟨g, hg⟩ : ∃ g, g = w.heap.size := ⟨_, rfl⟩
  rw [← hg] at k0 ⊢
  have hgw : w.heap.size ≤ g := by omega
  clear hwv hg
  go_wp2_with ((with_reducible refine wpList_ld rowT k0 HS.out ?_ ?_); rotate_left; (rfl))
  refine (own_any l wv HL.out).mono ?_
  rintro e w1 ⟨rfl, h1⟩
  have k1 := k0.below h1 k0.lt
  have b1 := hb.trans (h1.mono hb.size)
  have hv : valueL l = sumTo (ownL l) 8 := rfl
  have HV := Lib.hid hv
  clear k0 hb h1 hv
  generalize ownL l = m at *
  go_wp2_with ((with_reducible refine wpList_st rowT k1 HS2.out HS.out (tc_one m) ?_ ?_ ?_); rotate_left; (rfl); (rfl); intro w2 k2 g2 z2)
  have b2 := b1.grown g2 b1.size (fun q hq => by injection hq; omega)
  clear k1 b1 g2 z2
  go_loopw [2, 6] (fun s i wr => ∃ k : Nat, k ≤ 8 ∧ i = .int .i64 k ∧ s = .int .i64 (sumTo m k) ∧ Blk wr g 80 (tc m) ∧ Below w.heap.size w wr) (fun _ i _ => 8 - (intOf i).toNat)
  case atStart => exact ⟨0, by omega, rfl, rfl, k2, b2⟩
  case round =>
    clear k2 b2
    obtain ⟨k, hk, rfl, rfl, k2, b2⟩ := hrel
    by_cases hlt : k < 8
    · have c1 := k2.tcell (i := k) (by rw [HL2.out]; omega)
      have c2 := k2.tcell (i := 8 + k) (by rw [HL2.out]; omega)
      have r1 := right_at HRI.out k
      have r2 := right_at HRI.out (8 + k)
      have r3 := sumTo_bd HRI.out k
      have hst := sum_step m k
      have HST := Lib.hid hst
      have hkt : (k : Int) * top ≤ 8 * top := by
        have : (k : Int) ≤ 8 := by omega
        exact Int.mul_le_mul_of_nonneg_right this (by decide)
      clear hst
      generalize m.getD k 0 = x at *
      generalize m.getD (8 + k) 0 = y at *
      generalize hS : sumTo m k = S at *
      have HSS := Lib.hid hS
      clear hS
      generalize (k : Int) * top = kt at *
      unfold top at r1 r2 hkt
      have hk0 : (0 : Int) ≤ (k : Int) := by omega
      have hk1 : (k : Int) < 8 := by omega
      go_wp2_with fail
      go_region
      go_wp2_with fail
      go_roundw
      case rel => exact ⟨k + 1, by omega, by go_num, by rw [HST.out], k2, b2.drew⟩
      case measure => simp [intOf]; omega
    · obtain rfl : k = 8 := by omega
      go_wp2_with fail
      go_ret
      exact ⟨by rw [HV.out]; rfl, b2⟩
end Go.Proofs.Ytocoohpekpkmkaa
