/- The walks of the document's tally: Add. -/
import Derived.Test.YtoepklcmdmeanaaTallyAdd
import Derived.Test.YtoepklcmdmeanaaTallyRef
namespace Go.Proofs.Ytoepklcmdmeanaa
open Go.RowKit
open Tally
set_option maxHeartbeats 2000000 in
theorem radd_any (l : List Int) (node n : Int) (w : World) (hl : l.length = 16) :
    Calls Try.prog 10 #[.agg (tc l), .int .i64 node, .int .i64 n] w (AddEnd w l node n) := by
  have hs : (tc l).size = 16 := by rw [tc_size, hl]
  have HS := Lib.hid hs
  have HL := Lib.hid hl
  clear hl hs
  by_cases hr : rightB l = true
  case neg =>
    have hr2 : rightB l = false := by simpa using hr
    have HA := Lib.hid (add_bad (l := l) (node := node) (n := n) (.inl hr2))
    have HR := Lib.hid hr2
    clear hr hr2
    go_enter Try.func10, Try.ntmps10
    go_upto_region 1 with fail
    refine nameW ?_
    intro wv hwv
    obtain ⟨g, hg⟩ : ∃ g, g = w.heap.size := ⟨_, rfl⟩
    rw [← hg]
    have k0 : Blk wv g 24 (tc l) := by rw [hwv, hg]; exact (Blk.new w _ _).alloc _
    have k1 : Blk wv (g + 1) 24 (tc zero) := by
      have h := Blk.new (w.alloc (.cells (tc l) 24)) 24 (tc zero)
      rw [zero_tc] at h
      rw [zero_tc, hwv, hg]
      simpa using h
    have hb : Below w.heap.size w wv := by rw [hwv]; exact ((Below.refl _ _).alloc (Nat.le_refl _) _).alloc (by simp) _
    have hgw : w.heap.size ≤ g := by omega
    clear hwv hg
    go_wp2_with ((with_reducible refine wpList_ld rowR k0 HS.out ?_ ?_); rotate_left; (rfl))
    refine (rright_any l wv HL.out).mono ?_
    rw [HR.out]
    rintro e w1 ⟨rfl, h1⟩
    have k0a := k0.below h1 k0.lt
    have k1a := k1.below h1 k1.lt
    have b1 := hb.trans (h1.mono hb.size)
    clear k0 k1 hb h1
    go_wp2_with ((with_reducible refine wpList_st rowR k1a zero_size zero_size (tc_one zero) ?_ ?_ ?_); rotate_left; (rfl); (rfl); intro w2 k2 g2 z2)
    have b2 := b1.grown g2 b1.size (fun q hq => by injection hq; omega)
    exact bodyPost_ret (v := .tuple #[.agg (tc zero), .int .i64 2]) (results_blk2 rfl rowR k2 zero_size rfl rfl) rfl ⟨by rw [HA.out], b2⟩
  have HR := Lib.hid hr
  clear hr
  by_cases hn : inB node 0 7 = true
  case neg =>
    have hn2 : inB node 0 7 = false := by simpa using hn
    have HA := Lib.hid (add_bad (l := l) (node := node) (n := n) (.inr (.inl hn2)))
    have hnb := (inB_false _ _ _).1 hn2
    clear hn hn2
    by_cases h0 : node < 0
    · have d1 : decide (node < 0) = true := decide_eq_true h0
      clear hnb h0
      go_enter Try.func10, Try.ntmps10
      go_upto_region 1 with fail
      refine nameW ?_
      intro wv hwv
      obtain ⟨g, hg⟩ : ∃ g, g = w.heap.size := ⟨_, rfl⟩
      rw [← hg]
      have k0 : Blk wv g 24 (tc l) := by rw [hwv, hg]; exact (Blk.new w _ _).alloc _
      have k1 : Blk wv (g + 1) 24 (tc zero) := by
        have h := Blk.new (w.alloc (.cells (tc l) 24)) 24 (tc zero)
        rw [zero_tc] at h
        rw [zero_tc, hwv, hg]
        simpa using h
      have hb : Below w.heap.size w wv := by rw [hwv]; exact ((Below.refl _ _).alloc (Nat.le_refl _) _).alloc (by simp) _
      have hgw : w.heap.size ≤ g := by omega
      clear hwv hg
      go_wp2_with ((with_reducible refine wpList_ld rowR k0 HS.out ?_ ?_); rotate_left; (rfl))
      refine (rright_any l wv HL.out).mono ?_
      rw [HR.out]
      rintro e w1 ⟨rfl, h1⟩
      have k0a := k0.below h1 k0.lt
      have k1a := k1.below h1 k1.lt
      have b1 := hb.trans (h1.mono hb.size)
      clear k0 k1 hb h1
      go_wp2_with ((with_reducible refine wpList_st rowR k1a zero_size zero_size (tc_one zero) ?_ ?_ ?_); rotate_left; (rfl); (rfl); intro w2 k2 g2 z2)
      have b2 := b1.grown g2 b1.size (fun q hq => by injection hq; omega)
      exact bodyPost_ret (v := .tuple #[.agg (tc zero), .int .i64 2]) (results_blk2 rfl rowR k2 zero_size rfl rfl) rfl ⟨by rw [HA.out], b2⟩
    · have d1 : decide (node < 0) = false := decide_eq_false h0
      have d2 : decide (7 < node) = true := decide_eq_true (by omega)
      clear hnb h0
      go_enter Try.func10, Try.ntmps10
      go_upto_region 1 with fail
      refine nameW ?_
      intro wv hwv
      obtain ⟨g, hg⟩ : ∃ g, g = w.heap.size := ⟨_, rfl⟩
      rw [← hg]
      have k0 : Blk wv g 24 (tc l) := by rw [hwv, hg]; exact (Blk.new w _ _).alloc _
      have k1 : Blk wv (g + 1) 24 (tc zero) := by
        have h := Blk.new (w.alloc (.cells (tc l) 24)) 24 (tc zero)
        rw [zero_tc] at h
        rw [zero_tc, hwv, hg]
        simpa using h
      have hb : Below w.heap.size w wv := by rw [hwv]; exact ((Below.refl _ _).alloc (Nat.le_refl _) _).alloc (by simp) _
      have hgw : w.heap.size ≤ g := by omega
      clear hwv hg
      go_wp2_with ((with_reducible refine wpList_ld rowR k0 HS.out ?_ ?_); rotate_left; (rfl))
      refine (rright_any l wv HL.out).mono ?_
      rw [HR.out]
      rintro e w1 ⟨rfl, h1⟩
      have k0a := k0.below h1 k0.lt
      have k1a := k1.below h1 k1.lt
      have b1 := hb.trans (h1.mono hb.size)
      clear k0 k1 hb h1
      go_wp2_with ((with_reducible refine wpList_st rowR k1a zero_size zero_size (tc_one zero) ?_ ?_ ?_); rotate_left; (rfl); (rfl); intro w2 k2 g2 z2)
      have b2 := b1.grown g2 b1.size (fun q hq => by injection hq; omega)
      exact bodyPost_ret (v := .tuple #[.agg (tc zero), .int .i64 2]) (results_blk2 rfl rowR k2 zero_size rfl rfl) rfl ⟨by rw [HA.out], b2⟩
  have hnb := (inB_iff _ _ _).1 hn
  have HN := Lib.hid hn
  have dn1 : decide (node < 0) = false := decide_eq_false (by omega)
  have dn2 : decide (7 < node) = false := decide_eq_false (by omega)
  clear hn
  by_cases hm : inB n (-top) top = true
  case neg =>
    have hm2 : inB n (-top) top = false := by simpa using hm
    have HA := Lib.hid (add_bad (l := l) (node := node) (n := n) (.inr (.inr hm2)))
    have hmb := (inB_false _ _ _).1 hm2
    unfold top at hmb
    clear hm hm2
    by_cases h0 : n < -1099511627776
    · have d1 : decide (n < -1099511627776) = true := decide_eq_true h0
      clear hmb h0
      go_enter Try.func10, Try.ntmps10
      go_upto_region 1 with fail
      refine nameW ?_
      intro wv hwv
      obtain ⟨g, hg⟩ : ∃ g, g = w.heap.size := ⟨_, rfl⟩
      rw [← hg]
      have k0 : Blk wv g 24 (tc l) := by rw [hwv, hg]; exact (Blk.new w _ _).alloc _
      have k1 : Blk wv (g + 1) 24 (tc zero) := by
        have h := Blk.new (w.alloc (.cells (tc l) 24)) 24 (tc zero)
        rw [zero_tc] at h
        rw [zero_tc, hwv, hg]
        simpa using h
      have hb : Below w.heap.size w wv := by rw [hwv]; exact ((Below.refl _ _).alloc (Nat.le_refl _) _).alloc (by simp) _
      have hgw : w.heap.size ≤ g := by omega
      clear hwv hg
      go_wp2_with ((with_reducible refine wpList_ld rowR k0 HS.out ?_ ?_); rotate_left; (rfl))
      refine (rright_any l wv HL.out).mono ?_
      rw [HR.out]
      rintro e w1 ⟨rfl, h1⟩
      have k0a := k0.below h1 k0.lt
      have k1a := k1.below h1 k1.lt
      have b1 := hb.trans (h1.mono hb.size)
      clear k0 k1 hb h1
      go_wp2_with ((with_reducible refine wpList_st rowR k1a zero_size zero_size (tc_one zero) ?_ ?_ ?_); rotate_left; (rfl); (rfl); intro w2 k2 g2 z2)
      have b2 := b1.grown g2 b1.size (fun q hq => by injection hq; omega)
      exact bodyPost_ret (v := .tuple #[.agg (tc zero), .int .i64 2]) (results_blk2 rfl rowR k2 zero_size rfl rfl) rfl ⟨by rw [HA.out], b2⟩
    · have d1 : decide (n < -1099511627776) = false := decide_eq_false h0
      have d2 : decide (1099511627776 < n) = true := decide_eq_true (by omega)
      clear hmb h0
      go_enter Try.func10, Try.ntmps10
      go_upto_region 1 with fail
      refine nameW ?_
      intro wv hwv
      obtain ⟨g, hg⟩ : ∃ g, g = w.heap.size := ⟨_, rfl⟩
      rw [← hg]
      have k0 : Blk wv g 24 (tc l) := by rw [hwv, hg]; exact (Blk.new w _ _).alloc _
      have k1 : Blk wv (g + 1) 24 (tc zero) := by
        have h := Blk.new (w.alloc (.cells (tc l) 24)) 24 (tc zero)
        rw [zero_tc] at h
        rw [zero_tc, hwv, hg]
        simpa using h
      have hb : Below w.heap.size w wv := by rw [hwv]; exact ((Below.refl _ _).alloc (Nat.le_refl _) _).alloc (by simp) _
      have hgw : w.heap.size ≤ g := by omega
      clear hwv hg
      go_wp2_with ((with_reducible refine wpList_ld rowR k0 HS.out ?_ ?_); rotate_left; (rfl))
      refine (rright_any l wv HL.out).mono ?_
      rw [HR.out]
      rintro e w1 ⟨rfl, h1⟩
      have k0a := k0.below h1 k0.lt
      have k1a := k1.below h1 k1.lt
      have b1 := hb.trans (h1.mono hb.size)
      clear k0 k1 hb h1
      go_wp2_with ((with_reducible refine wpList_st rowR k1a zero_size zero_size (tc_one zero) ?_ ?_ ?_); rotate_left; (rfl); (rfl); intro w2 k2 g2 z2)
      have b2 := b1.grown g2 b1.size (fun q hq => by injection hq; omega)
      exact bodyPost_ret (v := .tuple #[.agg (tc zero), .int .i64 2]) (results_blk2 rfl rowR k2 zero_size rfl rfl) rfl ⟨by rw [HA.out], b2⟩
  have hmb := (inB_iff _ _ _).1 hm
  have HM := Lib.hid hm
  unfold top at hmb
  have dm1 : decide (n < -1099511627776) = false := decide_eq_false (by omega)
  have dm2 : decide (1099511627776 < n) = false := decide_eq_false (by omega)
  clear hm
  obtain ⟨k, rfl⟩ := Int.eq_ofNat_of_zero_le hnb.1
  have hk7 : k < 8 := by omega
  by_cases hneg : n < 0
  · obtain ⟨p, rfl⟩ : ∃ p : Int, n = -p := ⟨-n, by omega⟩
    have hp : 1 ≤ p ∧ p ≤ 1099511627776 := by omega
    have d3 : decide (0 ≤ -p) = false := decide_eq_false (by omega)
    have hsl : slot (k : Int) (-p) = 8 + k := by unfold slot; split <;> omega
    have ham : amt (-p) = p := by unfold amt; split <;> omega
    have hok := add_ok (l := l) HR.out HN.out HM.out
    have hfu := add_full (l := l) HR.out HN.out HM.out
    rw [hsl, ham] at hok hfu
    unfold top at hok hfu
    clear hsl ham
    have hxb := right_at HR.out (8 + k)
    unfold top at hxb
    have hst := fun x => right_set (x := x) HR.out (i := 8 + k) (by rw [HL.out]; omega)
    obtain ⟨x, hx⟩ : ∃ x, l.getD (8 + k) 0 = x := ⟨_, rfl⟩
    rw [hx] at hok hfu hxb
    have HX := Lib.hid hx
    have HST := Lib.hid (hst (x + p))
    clear hx hst
    by_cases hov : 1099511627776 - p < x
    · have HA := Lib.hid (hfu hov)
      have hin : inB (x + p) 0 top = false := (inB_false _ _ _).2 (by unfold top; omega)
      rw [hin] at HST
      clear hin
      clear hok hfu hmb hnb hneg hov
      go_enter Try.func10, Try.ntmps10
      go_upto_region 1 with fail
      refine nameW ?_
      intro wv hwv
      obtain ⟨g, hg⟩ : ∃ g, g = w.heap.size := ⟨_, rfl⟩
      rw [← hg]
      have k0 : Blk wv g 24 (tc l) := by rw [hwv, hg]; exact (Blk.new w _ _).alloc _
      have k1 : Blk wv (g + 1) 24 (tc zero) := by
        have h := Blk.new (w.alloc (.cells (tc l) 24)) 24 (tc zero)
        rw [zero_tc] at h
        rw [zero_tc, hwv, hg]
        simpa using h
      have hb : Below w.heap.size w wv := by rw [hwv]; exact ((Below.refl _ _).alloc (Nat.le_refl _) _).alloc (by simp) _
      have hgw : w.heap.size ≤ g := by omega
      clear hwv hg
      go_wp2_with ((with_reducible refine wpList_ld rowR k0 HS.out ?_ ?_); rotate_left; (rfl))
      refine (rright_any l wv HL.out).mono ?_
      rw [HR.out]
      rintro e w1 ⟨rfl, h1⟩
      have k0a := k0.below h1 k0.lt
      have k1a := k1.below h1 k1.lt
      have b1 := hb.trans (h1.mono hb.size)
      clear k0 k1 hb h1
      have c1 := k0a.tcell (i := 8 + k) (by rw [HL.out]; omega)
      rw [HX.out] at c1
      have c2 := k0a.free (8 + k)
      have k0b : Blk (w1.setCell ⟨g, 8 + k, none⟩ (.int .i64 (x + p))) g 24 (tc (l.set (8 + k) (x + p))) := by
        have h := k0a.set_ (8 + k) (.int .i64 (x + p))
        rwa [tc_set] at h
      have k1b : Blk (w1.setCell ⟨g, 8 + k, none⟩ (.int .i64 (x + p))) (g + 1) 24 (tc zero) := k1a.far (p := ⟨g, 8 + k, none⟩) (by simp) _
      have HL2 : Hid ((l.set (8 + k) (x + p)).length = 16) := by
        have : (l.set (8 + k) (x + p)).length = 16 := by rw [List.length_set, HL.out]
        exact Lib.hid this
      have hs2 : (tc (l.set (8 + k) (x + p))).size = 16 := by rw [tc_size, HL2.out]
      have HS2 := Lib.hid hs2
      have b1b : Below w.heap.size w (w1.setCell ⟨g, 8 + k, none⟩ (.int .i64 (x + p))) := b1.setCell hgw _
      have HONE := Lib.hid (tc_one (l.set (8 + k) (x + p)))
      clear k0a k1a b1 hs2
      generalize l.set (8 + k) (x + p) = m at *
      go_wp2_with ((with_reducible refine wpList_ld rowR k0b HS2.out ?_ ?_); rotate_left; (rfl))
      refine (rright_any m _ HL2.out).mono ?_
      rw [HST.out]
      rintro e w3 ⟨rfl, h3⟩
      have k0c := k0b.below h3 k0b.lt
      have k1c := k1b.below h3 k1b.lt
      have b3 := b1b.trans (h3.mono b1b.size)
      clear k0b k1b b1b h3
      go_wp2_with ((with_reducible refine wpList_st rowR k1c zero_size zero_size (tc_one zero) ?_ ?_ ?_); rotate_left; (rfl); (rfl); intro w4 k4 g4 z4)
      have b4 := b3.grown g4 b3.size (fun q hq => by injection hq; omega)
      exact bodyPost_ret (v := .tuple #[.agg (tc zero), .int .i64 7]) (results_blk2 rfl rowR k4 zero_size rfl rfl) rfl ⟨by rw [HA.out], b4⟩
    · have HA := Lib.hid (hok hov)
      have hin : inB (x + p) 0 top = true := (inB_iff _ _ _).2 (by unfold top; omega)
      rw [hin] at HST
      clear hin
      clear hok hfu hmb hnb hneg hov
      go_enter Try.func10, Try.ntmps10
      go_upto_region 1 with fail
      refine nameW ?_
      intro wv hwv
      obtain ⟨g, hg⟩ : ∃ g, g = w.heap.size := ⟨_, rfl⟩
      rw [← hg]
      have k0 : Blk wv g 24 (tc l) := by rw [hwv, hg]; exact (Blk.new w _ _).alloc _
      have k1 : Blk wv (g + 1) 24 (tc zero) := by
        have h := Blk.new (w.alloc (.cells (tc l) 24)) 24 (tc zero)
        rw [zero_tc] at h
        rw [zero_tc, hwv, hg]
        simpa using h
      have hb : Below w.heap.size w wv := by rw [hwv]; exact ((Below.refl _ _).alloc (Nat.le_refl _) _).alloc (by simp) _
      have hgw : w.heap.size ≤ g := by omega
      clear hwv hg
      go_wp2_with ((with_reducible refine wpList_ld rowR k0 HS.out ?_ ?_); rotate_left; (rfl))
      refine (rright_any l wv HL.out).mono ?_
      rw [HR.out]
      rintro e w1 ⟨rfl, h1⟩
      have k0a := k0.below h1 k0.lt
      have k1a := k1.below h1 k1.lt
      have b1 := hb.trans (h1.mono hb.size)
      clear k0 k1 hb h1
      have c1 := k0a.tcell (i := 8 + k) (by rw [HL.out]; omega)
      rw [HX.out] at c1
      have c2 := k0a.free (8 + k)
      have k0b : Blk (w1.setCell ⟨g, 8 + k, none⟩ (.int .i64 (x + p))) g 24 (tc (l.set (8 + k) (x + p))) := by
        have h := k0a.set_ (8 + k) (.int .i64 (x + p))
        rwa [tc_set] at h
      have k1b : Blk (w1.setCell ⟨g, 8 + k, none⟩ (.int .i64 (x + p))) (g + 1) 24 (tc zero) := k1a.far (p := ⟨g, 8 + k, none⟩) (by simp) _
      have HL2 : Hid ((l.set (8 + k) (x + p)).length = 16) := by
        have : (l.set (8 + k) (x + p)).length = 16 := by rw [List.length_set, HL.out]
        exact Lib.hid this
      have hs2 : (tc (l.set (8 + k) (x + p))).size = 16 := by rw [tc_size, HL2.out]
      have HS2 := Lib.hid hs2
      have b1b : Below w.heap.size w (w1.setCell ⟨g, 8 + k, none⟩ (.int .i64 (x + p))) := b1.setCell hgw _
      have HONE := Lib.hid (tc_one (l.set (8 + k) (x + p)))
      clear k0a k1a b1 hs2
      generalize l.set (8 + k) (x + p) = m at *
      go_wp2_with ((with_reducible refine wpList_ld rowR k0b HS2.out ?_ ?_); rotate_left; (rfl))
      refine (rright_any m _ HL2.out).mono ?_
      rw [HST.out]
      rintro e w3 ⟨rfl, h3⟩
      have k0c := k0b.below h3 k0b.lt
      have k1c := k1b.below h3 k1b.lt
      have b3 := b1b.trans (h3.mono b1b.size)
      clear k0b k1b b1b h3
      go_wp2_with (first
        | ((with_reducible refine wpList_ld rowR k0c HS2.out ?_ ?_); rotate_left; (rfl))
        | ((with_reducible refine wpList_st rowR k1c HS2.out zero_size HONE.out ?_ ?_ ?_); rotate_left; (rfl); (rfl); intro w4 k4 g4 z4))
      have b4 := b3.grown g4 b3.size (fun q hq => by injection hq; omega)
      exact bodyPost_ret (v := .tuple #[.agg (tc m), .int .i64 0]) (results_blk2 rfl rowR k4 HS2.out rfl rfl) rfl ⟨by rw [HA.out], b4⟩
  · have hp : 0 ≤ n ∧ n ≤ 1099511627776 := by omega
    have d3 : decide (0 ≤ n) = true := decide_eq_true (by omega)
    have hsl : slot (k : Int) (n) = k := by unfold slot; split <;> omega
    have ham : amt (n) = n := by unfold amt; split <;> omega
    have hok := add_ok (l := l) HR.out HN.out HM.out
    have hfu := add_full (l := l) HR.out HN.out HM.out
    rw [hsl, ham] at hok hfu
    unfold top at hok hfu
    clear hsl ham
    have hxb := right_at HR.out (k)
    unfold top at hxb
    have hst := fun x => right_set (x := x) HR.out (i := k) (by rw [HL.out]; omega)
    obtain ⟨x, hx⟩ : ∃ x, l.getD (k) 0 = x := ⟨_, rfl⟩
    rw [hx] at hok hfu hxb
    have HX := Lib.hid hx
    have HST := Lib.hid (hst (x + n))
    clear hx hst
    by_cases hov : 1099511627776 - n < x
    · have HA := Lib.hid (hfu hov)
      have hin : inB (x + n) 0 top = false := (inB_false _ _ _).2 (by unfold top; omega)
      rw [hin] at HST
      clear hin
      clear hok hfu hmb hnb hneg hov
      go_enter Try.func10, Try.ntmps10
      go_upto_region 1 with fail
      refine nameW ?_
      intro wv hwv
      obtain ⟨g, hg⟩ : ∃ g, g = w.heap.size := ⟨_, rfl⟩
      rw [← hg]
      have k0 : Blk wv g 24 (tc l) := by rw [hwv, hg]; exact (Blk.new w _ _).alloc _
      have k1 : Blk wv (g + 1) 24 (tc zero) := by
        have h := Blk.new (w.alloc (.cells (tc l) 24)) 24 (tc zero)
        rw [zero_tc] at h
        rw [zero_tc, hwv, hg]
        simpa using h
      have hb : Below w.heap.size w wv := by rw [hwv]; exact ((Below.refl _ _).alloc (Nat.le_refl _) _).alloc (by simp) _
      have hgw : w.heap.size ≤ g := by omega
      clear hwv hg
      go_wp2_with ((with_reducible refine wpList_ld rowR k0 HS.out ?_ ?_); rotate_left; (rfl))
      refine (rright_any l wv HL.out).mono ?_
      rw [HR.out]
      rintro e w1 ⟨rfl, h1⟩
      have k0a := k0.below h1 k0.lt
      have k1a := k1.below h1 k1.lt
      have b1 := hb.trans (h1.mono hb.size)
      clear k0 k1 hb h1
      have c1 := k0a.tcell (i := k) (by rw [HL.out]; omega)
      rw [HX.out] at c1
      have c2 := k0a.free (k)
      have k0b : Blk (w1.setCell ⟨g, k, none⟩ (.int .i64 (x + n))) g 24 (tc (l.set (k) (x + n))) := by
        have h := k0a.set_ (k) (.int .i64 (x + n))
        rwa [tc_set] at h
      have k1b : Blk (w1.setCell ⟨g, k, none⟩ (.int .i64 (x + n))) (g + 1) 24 (tc zero) := k1a.far (p := ⟨g, k, none⟩) (by simp) _
      have HL2 : Hid ((l.set (k) (x + n)).length = 16) := by
        have : (l.set (k) (x + n)).length = 16 := by rw [List.length_set, HL.out]
        exact Lib.hid this
      have hs2 : (tc (l.set (k) (x + n))).size = 16 := by rw [tc_size, HL2.out]
      have HS2 := Lib.hid hs2
      have b1b : Below w.heap.size w (w1.setCell ⟨g, k, none⟩ (.int .i64 (x + n))) := b1.setCell hgw _
      have HONE := Lib.hid (tc_one (l.set (k) (x + n)))
      clear k0a k1a b1 hs2
      generalize l.set (k) (x + n) = m at *
      go_wp2_with ((with_reducible refine wpList_ld rowR k0b HS2.out ?_ ?_); rotate_left; (rfl))
      refine (rright_any m _ HL2.out).mono ?_
      rw [HST.out]
      rintro e w3 ⟨rfl, h3⟩
      have k0c := k0b.below h3 k0b.lt
      have k1c := k1b.below h3 k1b.lt
      have b3 := b1b.trans (h3.mono b1b.size)
      clear k0b k1b b1b h3
      go_wp2_with ((with_reducible refine wpList_st rowR k1c zero_size zero_size (tc_one zero) ?_ ?_ ?_); rotate_left; (rfl); (rfl); intro w4 k4 g4 z4)
      have b4 := b3.grown g4 b3.size (fun q hq => by injection hq; omega)
      exact bodyPost_ret (v := .tuple #[.agg (tc zero), .int .i64 7]) (results_blk2 rfl rowR k4 zero_size rfl rfl) rfl ⟨by rw [HA.out], b4⟩
    · have HA := Lib.hid (hok hov)
      have hin : inB (x + n) 0 top = true := (inB_iff _ _ _).2 (by unfold top; omega)
      rw [hin] at HST
      clear hin
      clear hok hfu hmb hnb hneg hov
      go_enter Try.func10, Try.ntmps10
      go_upto_region 1 with fail
      refine nameW ?_
      intro wv hwv
      obtain ⟨g, hg⟩ : ∃ g, g = w.heap.size := ⟨_, rfl⟩
      rw [← hg]
      have k0 : Blk wv g 24 (tc l) := by rw [hwv, hg]; exact (Blk.new w _ _).alloc _
      have k1 : Blk wv (g + 1) 24 (tc zero) := by
        have h := Blk.new (w.alloc (.cells (tc l) 24)) 24 (tc zero)
        rw [zero_tc] at h
        rw [zero_tc, hwv, hg]
        simpa using h
      have hb : Below w.heap.size w wv := by rw [hwv]; exact ((Below.refl _ _).alloc (Nat.le_refl _) _).alloc (by simp) _
      have hgw : w.heap.size ≤ g := by omega
      clear hwv hg
      go_wp2_with ((with_reducible refine wpList_ld rowR k0 HS.out ?_ ?_); rotate_left; (rfl))
      refine (rright_any l wv HL.out).mono ?_
      rw [HR.out]
      rintro e w1 ⟨rfl, h1⟩
      have k0a := k0.below h1 k0.lt
      have k1a := k1.below h1 k1.lt
      have b1 := hb.trans (h1.mono hb.size)
      clear k0 k1 hb h1
      have c1 := k0a.tcell (i := k) (by rw [HL.out]; omega)
      rw [HX.out] at c1
      have c2 := k0a.free (k)
      have k0b : Blk (w1.setCell ⟨g, k, none⟩ (.int .i64 (x + n))) g 24 (tc (l.set (k) (x + n))) := by
        have h := k0a.set_ (k) (.int .i64 (x + n))
        rwa [tc_set] at h
      have k1b : Blk (w1.setCell ⟨g, k, none⟩ (.int .i64 (x + n))) (g + 1) 24 (tc zero) := k1a.far (p := ⟨g, k, none⟩) (by simp) _
      have HL2 : Hid ((l.set (k) (x + n)).length = 16) := by
        have : (l.set (k) (x + n)).length = 16 := by rw [List.length_set, HL.out]
        exact Lib.hid this
      have hs2 : (tc (l.set (k) (x + n))).size = 16 := by rw [tc_size, HL2.out]
      have HS2 := Lib.hid hs2
      have b1b : Below w.heap.size w (w1.setCell ⟨g, k, none⟩ (.int .i64 (x + n))) := b1.setCell hgw _
      have HONE := Lib.hid (tc_one (l.set (k) (x + n)))
      clear k0a k1a b1 hs2
      generalize l.set (k) (x + n) = m at *
      go_wp2_with ((with_reducible refine wpList_ld rowR k0b HS2.out ?_ ?_); rotate_left; (rfl))
      refine (rright_any m _ HL2.out).mono ?_
      rw [HST.out]
      rintro e w3 ⟨rfl, h3⟩
      have k0c := k0b.below h3 k0b.lt
      have k1c := k1b.below h3 k1b.lt
      have b3 := b1b.trans (h3.mono b1b.size)
      clear k0b k1b b1b h3
      go_wp2_with (first
        | ((with_reducible refine wpList_ld rowR k0c HS2.out ?_ ?_); rotate_left; (rfl))
        | ((with_reducible refine wpList_st rowR k1c HS2.out zero_size HONE.out ?_ ?_ ?_); rotate_left; (rfl); (rfl); intro w4 k4 g4 z4))
      have b4 := b3.grown g4 b3.size (fun q hq => by injection hq; omega)
      exact bodyPost_ret (v := .tuple #[.agg (tc m), .int .i64 0]) (results_blk2 rfl rowR k4 HS2.out rfl rfl) rfl ⟨by rw [HA.out], b4⟩
end Go.Proofs.Ytoepklcmdmeanaa
