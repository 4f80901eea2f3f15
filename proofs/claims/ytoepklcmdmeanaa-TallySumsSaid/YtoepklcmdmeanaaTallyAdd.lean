/- The walks of tally: Add. -/
import Derived.Test.YtoepklcmdmeanaaTallyWalks
namespace Go.Proofs.Ytoepklcmdmeanaa
open Go.RowKit
open Tally
def AddEnd (w : World) (l : List Int) (node n : Int) (e : Ending) (w' : World) : Prop := e = .returned (.tuple #[.agg (tc (addL l node n).1), .int .i64 (addL l node n).2]) ∧ Below w.heap.size w w'
set_option maxHeartbeats 2000000 in
theorem add_any (l : List Int) (node n : Int) (w : World) (hl : l.length = 16) :
    Calls Try.prog 9 #[.agg (tc l), .int .i64 node, .int .i64 n] w (AddEnd w l node n) := by
  have hs : (tc l).size = 16 := by rw [tc_size, hl]
  have HS := Lib.hid hs
  have HL := Lib.hid hl
  clear hl hs
  by_cases hr : rightB l = true
  case neg =>
    have hr2 : rightB l = false := by simpa using hr
    have HA := Lib.hid (add_bad (l := l) (node := node) (n := n) (.inl hr2))
    have HR := Lib.hid hr2
    clear hr hr2
    go_enter Try.func9, Try.ntmps9
    go_upto_region 1 with fail
    refine nameW ?_
    intro wv hwv
    obtain ⟨g, hg⟩ : ∃ g, g = w.heap.size := ⟨_, rfl⟩
    rw [← hg]
    have k0 : Blk wv g 26 (tc l) := by rw [hwv, hg]; exact (Blk.new w _ _).alloc _
    have k1 : Blk wv (g + 1) 26 (tc zero) := by
      have h := Blk.new (w.alloc (.cells (tc l) 26)) 26 (tc zero)
      rw [zero_tc] at h
      rw [zero_tc, hwv, hg]
      simpa using h
    have hb : Below w.heap.size w wv := by rw [hwv]; exact ((Below.refl _ _).alloc (Nat.le_refl _) _).alloc (by simp) _
    have hgw : w.heap.size ≤ g := by omega
    clear hwv hg
    go_wp2_with ((with_reducible refine wpList_ld rowT k0 HS.out ?_ ?_); rotate_left; (rfl))
    refine (right_any l wv HL.out).mono ?_
    rintro e w1 ⟨rfl, h1⟩
    have k0a := k0.below h1 k0.lt
    have k1a := k1.below h1 k1.lt
    have b1 := hb.trans (h1.mono hb.size)
    clear k0 k1 hb h1
    rw [HR.out]
    go_wp2_with ((with_reducible refine wpList_st rowT k1a zero_size zero_size (tc_one zero) ?_ ?_ ?_); rotate_left; (rfl); (rfl); intro w2 k2 g2 z2)
    have b2 := b1.grown g2 b1.size (fun q hq => by injection hq; omega)
    exact bodyPost_ret (v := .tuple #[.agg (tc zero), .int .i64 2]) (results_blk2 rfl rowT k2 zero_size rfl rfl) rfl ⟨by rw [HA.out], b2⟩
  have HR := Lib.hid hr
  clear hr
  by_cases hn : inB node 0 7 = true
  case neg =>
    have hn2 : inB node 0 7 = false := by simpa using hn
    have HA := Lib.hid (add_bad (l := l) (node := node) (n := n) (.inr (.inl hn2)))
    have hw := within_any node 0 7
    rw [hn2] at hw
    have HW := Lib.hid hw
    clear hn hn2 hw
    go_enter Try.func9, Try.ntmps9
    go_upto_region 1 with fail
    refine nameW ?_
    intro wv hwv
    obtain ⟨g, hg⟩ : ∃ g, g = w.heap.size := ⟨_, rfl⟩
    rw [← hg]
    have k0 : Blk wv g 26 (tc l) := by rw [hwv, hg]; exact (Blk.new w _ _).alloc _
    have k1 : Blk wv (g + 1) 26 (tc zero) := by
      have h := Blk.new (w.alloc (.cells (tc l) 26)) 26 (tc zero)
      rw [zero_tc] at h
      rw [zero_tc, hwv, hg]
      simpa using h
    have hb : Below w.heap.size w wv := by rw [hwv]; exact ((Below.refl _ _).alloc (Nat.le_refl _) _).alloc (by simp) _
    have hgw : w.heap.size ≤ g := by omega
    clear hwv hg
    go_wp2_with ((with_reducible refine wpList_ld rowT k0 HS.out ?_ ?_); rotate_left; (rfl))
    refine (right_any l wv HL.out).mono ?_
    rintro e w1 ⟨rfl, h1⟩
    have k0a := k0.below h1 k0.lt
    have k1a := k1.below h1 k1.lt
    have b1 := hb.trans (h1.mono hb.size)
    clear k0 k1 hb h1
    rw [HR.out]
    go_wp2_with fail
    refine (HW.out w1 (by omega)).mono ?_
    rintro e w' ⟨rfl, rfl⟩
    go_wp2_with ((with_reducible refine wpList_st rowT k1a zero_size zero_size (tc_one zero) ?_ ?_ ?_); rotate_left; (rfl); (rfl); intro w2 k2 g2 z2)
    have b2 := b1.grown g2 b1.size (fun q hq => by injection hq; omega)
    exact bodyPost_ret (v := .tuple #[.agg (tc zero), .int .i64 2]) (results_blk2 rfl rowT k2 zero_size rfl rfl) rfl ⟨by rw [HA.out], b2⟩
  have hnb := (inB_iff _ _ _).1 hn
  have HN := Lib.hid hn
  have hw := within_any node 0 7
  rw [hn] at hw
  have HW := Lib.hid hw
  clear hn hw
  by_cases hm : inB n (-top) top = true
  case neg =>
    have hm2 : inB n (-top) top = false := by simpa using hm
    have HA := Lib.hid (add_bad (l := l) (node := node) (n := n) (.inr (.inr hm2)))
    have hw2 := within_any n (-top) top
    rw [hm2] at hw2
    have HW2 := Lib.hid hw2
    clear hm hm2 hw2
    go_enter Try.func9, Try.ntmps9
    go_upto_region 1 with fail
    refine nameW ?_
    intro wv hwv
    obtain ⟨g, hg⟩ : ∃ g, g = w.heap.size := ⟨_, rfl⟩
    rw [← hg]
    have k0 : Blk wv g 26 (tc l) := by rw [hwv, hg]; exact (Blk.new w _ _).alloc _
    have k1 : Blk wv (g + 1) 26 (tc zero) := by
      have h := Blk.new (w.alloc (.cells (tc l) 26)) 26 (tc zero)
      rw [zero_tc] at h
      rw [zero_tc, hwv, hg]
      simpa using h
    have hb : Below w.heap.size w wv := by rw [hwv]; exact ((Below.refl _ _).alloc (Nat.le_refl _) _).alloc (by simp) _
    have hgw : w.heap.size ≤ g := by omega
    clear hwv hg
    go_wp2_with ((with_reducible refine wpList_ld rowT k0 HS.out ?_ ?_); rotate_left; (rfl))
    refine (right_any l wv HL.out).mono ?_
    rintro e w1 ⟨rfl, h1⟩
    have k0a := k0.below h1 k0.lt
    have k1a := k1.below h1 k1.lt
    have b1 := hb.trans (h1.mono hb.size)
    clear k0 k1 hb h1
    rw [HR.out]
    go_wp2_with fail
    refine (HW.out w1 (by omega)).mono ?_
    rintro e w' ⟨rfl, rfl⟩
    go_wp2_with fail
    refine (HW2.out w1 (by decide)).mono ?_
    rintro e w' ⟨rfl, rfl⟩
    go_wp2_with ((with_reducible refine wpList_st rowT k1a zero_size zero_size (tc_one zero) ?_ ?_ ?_); rotate_left; (rfl); (rfl); intro w2 k2 g2 z2)
    have b2 := b1.grown g2 b1.size (fun q hq => by injection hq; omega)
    exact bodyPost_ret (v := .tuple #[.agg (tc zero), .int .i64 2]) (results_blk2 rfl rowT k2 zero_size rfl rfl) rfl ⟨by rw [HA.out], b2⟩
  have hmb := (inB_iff _ _ _).1 hm
  have HM := Lib.hid hm
  have hw2 := within_any n (-top) top
  rw [hm] at hw2
  have HW2 := Lib.hid hw2
  clear hm hw2
  obtain ⟨k, rfl⟩ := Int.eq_ofNat_of_zero_le hnb.1
  have hk7 : k < 8 := by omega
  by_cases hneg : n < 0
  · obtain ⟨p, rfl⟩ : ∃ p : Int, n = -p := ⟨-n, by omega⟩
    have hp : 1 ≤ p ∧ p ≤ 1099511627776 := by unfold top at hmb; omega
    have hsl : slot (k : Int) (-p) = 8 + k := by unfold slot; split <;> omega
    have ham : amt (-p) = p := by unfold amt; split <;> omega
    have hok := add_ok (l := l) HR.out HN.out HM.out
    have hfu := add_full (l := l) HR.out HN.out HM.out
    rw [hsl, ham] at hok hfu
    unfold top at hok hfu
    clear hsl ham
    by_cases hov : 1099511627776 - p < l.getD (8 + k) 0
    · have HA := Lib.hid (hfu hov)
      clear hok hfu hmb hnb hneg
      go_enter Try.func9, Try.ntmps9
      go_upto_region 1 with fail
      refine nameW ?_
      intro wv hwv
      obtain ⟨g, hg⟩ : ∃ g, g = w.heap.size := ⟨_, rfl⟩
      rw [← hg]
      have k0 : Blk wv g 26 (tc l) := by rw [hwv, hg]; exact (Blk.new w _ _).alloc _
      have k1 : Blk wv (g + 1) 26 (tc zero) := by
        have h := Blk.new (w.alloc (.cells (tc l) 26)) 26 (tc zero)
        rw [zero_tc] at h
        rw [zero_tc, hwv, hg]
        simpa using h
      have hb : Below w.heap.size w wv := by rw [hwv]; exact ((Below.refl _ _).alloc (Nat.le_refl _) _).alloc (by simp) _
      have hgw : w.heap.size ≤ g := by omega
      clear hwv hg
      go_wp2_with ((with_reducible refine wpList_ld rowT k0 HS.out ?_ ?_); rotate_left; (rfl))
      refine (right_any l wv HL.out).mono ?_
      rintro e w1 ⟨rfl, h1⟩
      have k0a := k0.below h1 k0.lt
      have k1a := k1.below h1 k1.lt
      have b1 := hb.trans (h1.mono hb.size)
      clear k0 k1 hb h1
      rw [HR.out]
      go_wp2_with fail
      refine (HW.out w1 (by omega)).mono ?_
      rintro e w' ⟨rfl, rfl⟩
      go_wp2_with fail
      refine (HW2.out w1 (by decide)).mono ?_
      rintro e w' ⟨rfl, rfl⟩
      have c1 := k0a.tcell (i := 8 + k) (by rw [HL.out]; omega)
      have c2 := k0a.free (8 + k)
      have hov2 : decide (1099511627776 - p < l.getD (8 + k) 0) = true := decide_eq_true (by omega)
      generalize l.getD (8 + k) 0 = x at *
      go_wp2_with ((with_reducible refine wpList_st rowT k1a zero_size zero_size (tc_one zero) ?_ ?_ ?_); rotate_left; (rfl); (rfl); intro w2 k2 g2 z2)
      have b2 := b1.grown g2 b1.size (fun q hq => by injection hq; omega)
      exact bodyPost_ret (v := .tuple #[.agg (tc zero), .int .i64 7]) (results_blk2 rfl rowT k2 zero_size rfl rfl) rfl ⟨by rw [HA.out], b2⟩
    · have HA := Lib.hid (hok hov)
      clear hok hfu hmb hnb hneg
      go_enter Try.func9, Try.ntmps9
      go_upto_region 1 with fail
      refine nameW ?_
      intro wv hwv
      obtain ⟨g, hg⟩ : ∃ g, g = w.heap.size := ⟨_, rfl⟩
      rw [← hg]
      have k0 : Blk wv g 26 (tc l) := by rw [hwv, hg]; exact (Blk.new w _ _).alloc _
      have k1 : Blk wv (g + 1) 26 (tc zero) := by
        have h := Blk.new (w.alloc (.cells (tc l) 26)) 26 (tc zero)
        rw [zero_tc] at h
        rw [zero_tc, hwv, hg]
        simpa using h
      have hb : Below w.heap.size w wv := by rw [hwv]; exact ((Below.refl _ _).alloc (Nat.le_refl _) _).alloc (by simp) _
      have hgw : w.heap.size ≤ g := by omega
      clear hwv hg
      go_wp2_with ((with_reducible refine wpList_ld rowT k0 HS.out ?_ ?_); rotate_left; (rfl))
      refine (right_any l wv HL.out).mono ?_
      rintro e w1 ⟨rfl, h1⟩
      have k0a := k0.below h1 k0.lt
      have k1a := k1.below h1 k1.lt
      have b1 := hb.trans (h1.mono hb.size)
      clear k0 k1 hb h1
      rw [HR.out]
      go_wp2_with fail
      refine (HW.out w1 (by omega)).mono ?_
      rintro e w' ⟨rfl, rfl⟩
      go_wp2_with fail
      refine (HW2.out w1 (by decide)).mono ?_
      rintro e w' ⟨rfl, rfl⟩
      have c1 := k0a.tcell (i := 8 + k) (by rw [HL.out]; omega)
      have c2 := k0a.free (8 + k)
      have hov2 : decide (1099511627776 - p < l.getD (8 + k) 0) = false := decide_eq_false (by omega)
      have hxb := right_at HR.out (8 + k)
      unfold top at hxb
      obtain ⟨x, hx⟩ : ∃ x, l.getD (8 + k) 0 = x := ⟨_, rfl⟩
      rw [hx] at c1 hov2 hov hxb HA
      clear hx
      have k0b : Blk (w1.setCell ⟨g, 8 + k, none⟩ (.int .i64 (x + p))) g 26 (tc (l.set (8 + k) (x + p))) := by
        have h := k0a.set_ (8 + k) (.int .i64 (x + p))
        rwa [tc_set] at h
      have k1b : Blk (w1.setCell ⟨g, 8 + k, none⟩ (.int .i64 (x + p))) (g + 1) 26 (tc zero) := k1a.far (p := ⟨g, 8 + k, none⟩) (by simp) _
      have HS2 : Hid ((tc (l.set (8 + k) (x + p))).size = 16) := by
        have : (tc (l.set (8 + k) (x + p))).size = 16 := by rw [tc_size, List.length_set, HL.out]
        exact Lib.hid this
      have b1b : Below w.heap.size w (w1.setCell ⟨g, 8 + k, none⟩ (.int .i64 (x + p))) := b1.setCell hgw _
      have hone := tc_one (l.set (8 + k) (x + p))
      have HONE := Lib.hid hone
      clear hone k0a k1a b1
      generalize l.set (8 + k) (x + p) = m at *
      go_wp2_with (first
        | ((with_reducible refine wpList_ld rowT k0b HS2.out ?_ ?_); rotate_left; (rfl))
        | ((with_reducible refine wpList_st rowT k1b HS2.out zero_size HONE.out ?_ ?_ ?_); rotate_left; (rfl); (rfl); intro w2 k2 g2 z2))
      have b2 := b1b.grown g2 b1b.size (fun q hq => by injection hq; omega)
      exact bodyPost_ret (v := .tuple #[.agg (tc m), .int .i64 0]) (results_blk2 rfl rowT k2 HS2.out rfl rfl) rfl ⟨by rw [HA.out], b2⟩
  · have hp : 0 ≤ n ∧ n ≤ 1099511627776 := by unfold top at hmb; omega
    have hsl : slot (k : Int) (n) = k := by unfold slot; split <;> omega
    have ham : amt (n) = n := by unfold amt; split <;> omega
    have hok := add_ok (l := l) HR.out HN.out HM.out
    have hfu := add_full (l := l) HR.out HN.out HM.out
    rw [hsl, ham] at hok hfu
    unfold top at hok hfu
    clear hsl ham
    by_cases hov : 1099511627776 - n < l.getD (k) 0
    · have HA := Lib.hid (hfu hov)
      clear hok hfu hmb hnb hneg
      go_enter Try.func9, Try.ntmps9
      go_upto_region 1 with fail
      refine nameW ?_
      intro wv hwv
      obtain ⟨g, hg⟩ : ∃ g, g = w.heap.size := ⟨_, rfl⟩
      rw [← hg]
      have k0 : Blk wv g 26 (tc l) := by rw [hwv, hg]; exact (Blk.new w _ _).alloc _
      have k1 : Blk wv (g + 1) 26 (tc zero) := by
        have h := Blk.new (w.alloc (.cells (tc l) 26)) 26 (tc zero)
        rw [zero_tc] at h
        rw [zero_tc, hwv, hg]
        simpa using h
      have hb : Below w.heap.size w wv := by rw [hwv]; exact ((Below.refl _ _).alloc (Nat.le_refl _) _).alloc (by simp) _
      have hgw : w.heap.size ≤ g := by omega
      clear hwv hg
      go_wp2_with ((with_reducible refine wpList_ld rowT k0 HS.out ?_ ?_); rotate_left; (rfl))
      refine (right_any l wv HL.out).mono ?_
      rintro e w1 ⟨rfl, h1⟩
      have k0a := k0.below h1 k0.lt
      have k1a := k1.below h1 k1.lt
      have b1 := hb.trans (h1.mono hb.size)
      clear k0 k1 hb h1
      rw [HR.out]
      go_wp2_with fail
      refine (HW.out w1 (by omega)).mono ?_
      rintro e w' ⟨rfl, rfl⟩
      go_wp2_with fail
      refine (HW2.out w1 (by decide)).mono ?_
      rintro e w' ⟨rfl, rfl⟩
      have c1 := k0a.tcell (i := k) (by rw [HL.out]; omega)
      have c2 := k0a.free (k)
      have hov2 : decide (1099511627776 - n < l.getD (k) 0) = true := decide_eq_true (by omega)
      generalize l.getD (k) 0 = x at *
      go_wp2_with ((with_reducible refine wpList_st rowT k1a zero_size zero_size (tc_one zero) ?_ ?_ ?_); rotate_left; (rfl); (rfl); intro w2 k2 g2 z2)
      have b2 := b1.grown g2 b1.size (fun q hq => by injection hq; omega)
      exact bodyPost_ret (v := .tuple #[.agg (tc zero), .int .i64 7]) (results_blk2 rfl rowT k2 zero_size rfl rfl) rfl ⟨by rw [HA.out], b2⟩
    · have HA := Lib.hid (hok hov)
      clear hok hfu hmb hnb hneg
      go_enter Try.func9, Try.ntmps9
      go_upto_region 1 with fail
      refine nameW ?_
      intro wv hwv
      obtain ⟨g, hg⟩ : ∃ g, g = w.heap.size := ⟨_, rfl⟩
      rw [← hg]
      have k0 : Blk wv g 26 (tc l) := by rw [hwv, hg]; exact (Blk.new w _ _).alloc _
      have k1 : Blk wv (g + 1) 26 (tc zero) := by
        have h := Blk.new (w.alloc (.cells (tc l) 26)) 26 (tc zero)
        rw [zero_tc] at h
        rw [zero_tc, hwv, hg]
        simpa using h
      have hb : Below w.heap.size w wv := by rw [hwv]; exact ((Below.refl _ _).alloc (Nat.le_refl _) _).alloc (by simp) _
      have hgw : w.heap.size ≤ g := by omega
      clear hwv hg
      go_wp2_with ((with_reducible refine wpList_ld rowT k0 HS.out ?_ ?_); rotate_left; (rfl))
      refine (right_any l wv HL.out).mono ?_
      rintro e w1 ⟨rfl, h1⟩
      have k0a := k0.below h1 k0.lt
      have k1a := k1.below h1 k1.lt
      have b1 := hb.trans (h1.mono hb.size)
      clear k0 k1 hb h1
      rw [HR.out]
      go_wp2_with fail
      refine (HW.out w1 (by omega)).mono ?_
      rintro e w' ⟨rfl, rfl⟩
      go_wp2_with fail
      refine (HW2.out w1 (by decide)).mono ?_
      rintro e w' ⟨rfl, rfl⟩
      have c1 := k0a.tcell (i := k) (by rw [HL.out]; omega)
      have c2 := k0a.free (k)
      have hov2 : decide (1099511627776 - n < l.getD (k) 0) = false := decide_eq_false (by omega)
      have hxb := right_at HR.out (k)
      unfold top at hxb
      obtain ⟨x, hx⟩ : ∃ x, l.getD (k) 0 = x := ⟨_, rfl⟩
      rw [hx] at c1 hov2 hov hxb HA
      clear hx
      have k0b : Blk (w1.setCell ⟨g, k, none⟩ (.int .i64 (x + n))) g 26 (tc (l.set (k) (x + n))) := by
        have h := k0a.set_ (k) (.int .i64 (x + n))
        rwa [tc_set] at h
      have k1b : Blk (w1.setCell ⟨g, k, none⟩ (.int .i64 (x + n))) (g + 1) 26 (tc zero) := k1a.far (p := ⟨g, k, none⟩) (by simp) _
      have HS2 : Hid ((tc (l.set (k) (x + n))).size = 16) := by
        have : (tc (l.set (k) (x + n))).size = 16 := by rw [tc_size, List.length_set, HL.out]
        exact Lib.hid this
      have b1b : Below w.heap.size w (w1.setCell ⟨g, k, none⟩ (.int .i64 (x + n))) := b1.setCell hgw _
      have hone := tc_one (l.set (k) (x + n))
      have HONE := Lib.hid hone
      clear hone k0a k1a b1
      generalize l.set (k) (x + n) = m at *
      go_wp2_with (first
        | ((with_reducible refine wpList_ld rowT k0b HS2.out ?_ ?_); rotate_left; (rfl))
        | ((with_reducible refine wpList_st rowT k1b HS2.out zero_size HONE.out ?_ ?_ ?_); rotate_left; (rfl); (rfl); intro w2 k2 g2 z2))
      have b2 := b1b.grown g2 b1b.size (fun q hq => by injection hq; omega)
      exact bodyPost_ret (v := .tuple #[.agg (tc m), .int .i64 0]) (results_blk2 rfl rowT k2 HS2.out rfl rfl) rfl ⟨by rw [HA.out], b2⟩
end Go.Proofs.Ytoepklcmdmeanaa
