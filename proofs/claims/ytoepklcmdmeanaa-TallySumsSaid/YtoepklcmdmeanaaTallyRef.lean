/- The walks of the document's tally: Right, own, Value. -/
import Derived.Test.YtoepklcmdmeanaaTallyWalks
namespace Go.Proofs.Ytoepklcmdmeanaa
open Go.RowKit
open Tally
theorem not_in {x : Int} (h : ¬ inB x 0 top = true) : x < 0 ∨ top < x := by
  rw [inB_iff] at h; omega
set_option maxHeartbeats 1000000 in
theorem rright_any (l : List Int) (w : World) (hl : l.length = 16) :
    Calls Try.prog 12 #[.agg (tc l)] w fun e w' => e = .returned (.bool (rightB l)) ∧ Below w.heap.size w w' := by
  have k0 : Blk (w.alloc (.cells (tc l) 24)) w.heap.size 24 (tc l) := Blk.new w _ _
  have hb : Below w.heap.size w (w.alloc (.cells (tc l) 24)) := (Below.refl _ _).alloc (Nat.le_refl _) _
  have HL := Lib.hid hl
  clear hl
  go_enter Try.func12, Try.ntmps12
  go_upto_region 1 with fail
  refine nameW ?_
  intro wv hwv
  rw [← hwv] at k0 hb
  obtain ⟨g, hg⟩ : ∃ g, g = w.heap.size := ⟨_, rfl⟩
  rw [← hg] at k0 ⊢
  clear hwv hg
  go_wp2_with fail
  go_loop [3] (fun i => ∃ k : Nat, k ≤ 8 ∧ i = .int .i64 k ∧ ∀ j, j < k → inB (l.getD j 0) 0 top = true ∧ inB (l.getD (8 + j) 0) 0 top = true) (fun i => 8 - (intOf i).toNat)
  case atStart => exact ⟨0, by omega, rfl, fun j hj => absurd hj (by omega)⟩
  case round =>
    obtain ⟨k, hk, rfl, hall⟩ := hrel
    have HA := Lib.hid hall
    clear hall
    by_cases hlt : k < 8
    · have c1 := k0.tcell (i := k) (by rw [HL.out]; omega)
      have c2 := k0.tcell (i := 8 + k) (by rw [HL.out]; omega)
      obtain ⟨x, hx⟩ : ∃ x, l.getD k 0 = x := ⟨_, rfl⟩
      obtain ⟨y, hy⟩ : ∃ y, l.getD (8 + k) 0 = y := ⟨_, rfl⟩
      rw [hx] at c1
      rw [hy] at c2
      have HX := Lib.hid hx
      have HY := Lib.hid hy
      have hk0 : (0 : Int) ≤ (k : Int) := by omega
      have hk1 : (k : Int) < 8 := by omega
      clear hx hy
      have bad : inB x 0 top = false ∨ inB y 0 top = false → rightB l = false := fun h => by
        rcases h with h | h
        · exact right_bad (i := k) (by rw [HL.out]; omega) (by rw [HX.out]; exact h)
        · exact right_bad (i := 8 + k) (by rw [HL.out]; omega) (by rw [HY.out]; exact h)
      have BAD := Lib.hid bad
      clear bad
      by_cases hox : inB x 0 top = true
      · have hxb := (inB_iff _ _ _).1 hox
        have HOX := Lib.hid hox
        clear hox
        unfold top at hxb
        have d1 : decide (x < 0) = false := decide_eq_false (by omega)
        have d2 : decide (1099511627776 < x) = false := decide_eq_false (by omega)
        by_cases hoy : inB y 0 top = true
        · have hyb := (inB_iff _ _ _).1 hoy
          have HOY := Lib.hid hoy
          clear hoy
          unfold top at hyb
          have d3 : decide (y < 0) = false := decide_eq_false (by omega)
          have d4 : decide (1099511627776 < y) = false := decide_eq_false (by omega)
          go_wp2_with fail
          go_round
          case rel =>
            refine ⟨k + 1, by omega, by go_num, fun j hj => ?_⟩
            by_cases hjk : j = k
            · subst hjk; rw [HX.out, HY.out]; exact ⟨HOX.out, HOY.out⟩
            · exact HA.out j (by omega)
          case measure => simp [intOf]; omega
        · have hbd := Lib.hid (BAD.out (.inr (by simpa using hoy)))
          have hyb := not_in hoy
          unfold top at hyb
          clear hoy
          rcases hyb with hyb | hyb
          · have d3 : decide (y < 0) = true := decide_eq_true (by omega)
            go_wp2_with fail
            go_ret
            exact ⟨by rw [hbd.out]; rfl, hb⟩
          · have d3 : decide (y < 0) = false := decide_eq_false (by omega)
            have d4 : decide (1099511627776 < y) = true := decide_eq_true (by omega)
            go_wp2_with fail
            go_ret
            exact ⟨by rw [hbd.out]; rfl, hb⟩
      · have hbd := Lib.hid (BAD.out (.inl (by simpa using hox)))
        have hxb := not_in hox
        unfold top at hxb
        clear hox
        rcases hxb with hxb | hxb
        · have d3 : decide (x < 0) = true := decide_eq_true (by omega)
          go_wp2_with fail
          go_ret
          exact ⟨by rw [hbd.out]; rfl, hb⟩
        · have d3 : decide (x < 0) = false := decide_eq_false (by omega)
          have d4 : decide (1099511627776 < x) = true := decide_eq_true (by omega)
          go_wp2_with fail
          go_ret
          exact ⟨by rw [hbd.out]; rfl, hb⟩
    · have hr : rightB l = true := right_halves HL.out fun j hj => HA.out j (by omega)
      have HR := Lib.hid hr
      clear hr
      go_wp2_with fail
      go_ret
      exact ⟨by rw [HR.out]; rfl, hb⟩
theorem rown_any (l : List Int) (w : World) (hl : l.length = 16) :
    Calls Try.prog 26 #[.agg (tc l)] w fun e w' => e = .returned (.agg (tc (ownL l))) ∧ Below w.heap.size w w' := by
  have hs : (tc l).size = 16 := by rw [tc_size, hl]
  have HS := Lib.hid hs
  have HL := Lib.hid hl
  clear hl hs
  go_enter Try.func26, Try.ntmps26
  go_upto_region 1 with fail
  refine nameW ?_
  intro wv hwv
  obtain ⟨g, hg⟩ : ∃ g, g = w.heap.size := ⟨_, rfl⟩
  rw [← hg]
  have hk0 : Blk wv g 24 (tc l) := by rw [hwv, hg]; exact (Blk.new w _ _).alloc _
  have hk1 : Blk wv (g + 1) 24 (tc zero) := by
    have h := Blk.new (w.alloc (.cells (tc l) 24)) 24 (tc zero)
    rw [zero_tc] at h
    rw [zero_tc, hwv, hg]
    simpa using h
  have hb : Below w.heap.size w wv := by rw [hwv]; exact ((Below.refl _ _).alloc (Nat.le_refl _) _).alloc (by simp) _
  have hgw : w.heap.size ≤ g := by omega
  clear hwv hg
  go_wp2_with ((with_reducible refine wpList_ld rowR hk0 HS.out ?_ ?_); rotate_left; (rfl))
  refine (rright_any l wv HL.out).mono ?_
  rintro e w1 ⟨rfl, h1⟩
  have k0 := hk0.below h1 hk0.lt
  have k1 := hk1.below h1 hk1.lt
  have b1 := hb.trans (h1.mono hb.size)
  clear hk0 hk1 hb h1
  by_cases hr : rightB l = true
  · have ho := own_own l hr
    rw [hr]
    have HO := Lib.hid ho
    clear hr ho
    go_wp2_with (first
      | ((with_reducible refine wpList_ld rowR k0 HS.out ?_ ?_); rotate_left; (rfl))
      | ((with_reducible refine wpList_st rowR k1 HS.out zero_size (tc_one l) ?_ ?_ ?_); rotate_left; (rfl); (rfl); intro w2 k2 g2 z2))
    have b2 := b1.grown g2 b1.size (fun q hq => by injection hq; omega)
    exact bodyPost_ret (v := .agg (tc l)) (results_blk rfl rowR k2 HS.out rfl) rfl ⟨by rw [HO.out], b2⟩
  · have ho : ownL l = zero := by unfold ownL; rw [if_neg hr]
    have hr2 : rightB l = false := by simpa using hr
    rw [hr2]
    have HO := Lib.hid ho
    clear hr ho hr2
    go_wp2_with ((with_reducible refine wpList_st rowR k1 zero_size zero_size (tc_one zero) ?_ ?_ ?_); rotate_left; (rfl); (rfl); intro w2 k2 g2 z2)
    have b2 := b1.grown g2 b1.size (fun q hq => by injection hq; omega)
    exact bodyPost_ret (v := .agg (tc zero)) (results_blk rfl rowR k2 zero_size rfl) rfl ⟨by rw [HO.out], b2⟩

set_option maxHeartbeats 1000000 in
theorem rvalue_any (l : List Int) (w : World) (hl : l.length = 16) :
    Calls Try.prog 14 #[.agg (tc l)] w fun e w' => e = .returned (.int .i64 (valueL l)) ∧ Below w.heap.size w w' := by
  have hs : (tc l).size = 16 := by rw [tc_size, hl]
  have hs2 : (tc (ownL l)).size = 16 := by rw [tc_size, own_len hl]
  have HS := Lib.hid hs
  have HS2 := Lib.hid hs2
  have HL := Lib.hid hl
  have HL2 := Lib.hid (own_len hl)
  have hri := own_right l
  have HRI := Lib.hid hri
  clear hl hs hs2 hri
  have k0 : Blk (w.alloc (.cells (tc l) 24)) w.heap.size 24 (tc l) := Blk.new w _ _
  have hb : Below w.heap.size w (w.alloc (.cells (tc l) 24)) := (Below.refl _ _).alloc (Nat.le_refl _) _
  go_enter Try.func14, Try.ntmps14
  go_upto_region 1 with fail
  refine nameW ?_
  intro wv hwv
  rw [← hwv] at k0 hb
  obtain ⟨g, hg⟩ : ∃ g, g = w.heap.size := ⟨_, rfl⟩
  rw [← hg] at k0 ⊢
  have hgw : w.heap.size ≤ g := by omega
  clear hwv hg
  go_wp2_with ((with_reducible refine wpList_ld rowR k0 HS.out ?_ ?_); rotate_left; (rfl))
  refine (rown_any l wv HL.out).mono ?_
  rintro e w1 ⟨rfl, h1⟩
  have k1 := k0.below h1 k0.lt
  have b1 := hb.trans (h1.mono hb.size)
  have hv : valueL l = sumTo (ownL l) 8 := rfl
  have HV := Lib.hid hv
  clear k0 hb h1 hv
  generalize ownL l = m at *
  go_wp2_with ((with_reducible refine wpList_st rowR k1 HS2.out HS.out (tc_one m) ?_ ?_ ?_); rotate_left; (rfl); (rfl); intro w2 k2 g2 z2)
  have b2 := b1.grown g2 b1.size (fun q hq => by injection hq; omega)
  clear k1 b1 g2 z2
  go_loopw [3, 4] (fun s i wr => ∃ k : Nat, k ≤ 8 ∧ i = .int .i64 k ∧ s = .int .i64 (sumTo m k) ∧ Blk wr g 24 (tc m) ∧ Below w.heap.size w wr) (fun _ i _ => 8 - (intOf i).toNat)
  case atStart => exact ⟨0, by omega, rfl, rfl, k2, b2⟩
  case round =>
    clear k2 b2
    obtain ⟨k, hk, rfl, rfl, k2, b2⟩ := hrel
    by_cases hlt : k < 8
    · have c1 := k2.tcell (i := k) (by rw [HL2.out]; omega)
      have c2 := k2.tcell (i := 8 + k) (by rw [HL2.out]; omega)
      have r1 := right_at HRI.out k
      have r2 := right_at HRI.out (8 + k)
      have r3 := sumTo_bd HRI.out k
      have hst := sum_step m k
      have HST := Lib.hid hst
      have hkt : (k : Int) * top ≤ 8 * top := by
        have : (k : Int) ≤ 8 := by omega
        exact Int.mul_le_mul_of_nonneg_right this (by decide)
      clear hst
      generalize m.getD k 0 = x at *
      generalize m.getD (8 + k) 0 = y at *
      generalize hS : sumTo m k = S at *
      have HSS := Lib.hid hS
      clear hS
      generalize (k : Int) * top = kt at *
      unfold top at r1 r2 hkt
      have hk0 : (0 : Int) ≤ (k : Int) := by omega
      have hk1 : (k : Int) < 8 := by omega
      go_wp2_with fail
      go_region
      go_wp2_with fail
      go_roundw
      case rel => exact ⟨k + 1, by omega, by go_num, by rw [HST.out], k2, b2.drew⟩
      case measure => simp [intOf]; omega
    · obtain rfl : k = 8 := by omega
      go_wp2_with fail
      go_ret
      exact ⟨by rw [HV.out]; rfl, b2⟩
end Go.Proofs.Ytoepklcmdmeanaa
