/- The walks of tally: Join, More; the document's Join, More. -/
import Derived.Test.YtoepklcmdmeanaaTallyBoth
import Derived.Test.YtoepklcmdmeanaaTallyRef
namespace Go.Proofs.Ytoepklcmdmeanaa
open Go.RowKit
open Tally
theorem bothL_len {h : Int → Int → Int} {l m : List Int} (hl : l.length = 16) (hm : m.length = 16) : (bothL h l m).length = 16 := by
  unfold bothL
  rw [List.length_zipWith, own_len hl, own_len hm]; rfl
set_option maxRecDepth 100000 in
theorem join_any (l m : List Int) (w : World) (hl : l.length = 16) (hm : m.length = 16) :
    Calls Try.prog 15 #[.agg (tc l), .agg (tc m)] w fun e w' => e = .returned (.agg (tc (joinL l m))) ∧ Below w.heap.size w w' := by
  have HS := Lib.hid (show (tc l).size = 16 by rw [tc_size, hl])
  have HM := Lib.hid (show (tc m).size = 16 by rw [tc_size, hm])
  have HZ := Lib.hid (show (tc (joinL l m)).size = 16 by rw [tc_size]; exact bothL_len hl hm)
  have H1 := Lib.hid (tc_one (joinL l m))
  have hc := fun w => both_any 28 mx join1 enters_join l m w hl hm
  have HC := Lib.hid hc
  have hmf : ∀ (fn : Fn) (first cap : Array Value) (w : World), (Instr.makeFunc fn first cap).run Try.prog w = .ok (.func fn first cap) w := fun _ _ _ _ => rfl
  clear hl hm hc
  go_enter Try.func15, Try.ntmps15
  go_upto_region 1 with fail
  refine nameW ?_
  intro wv hwv
  obtain ⟨g, hg⟩ : ∃ g, g = w.heap.size := ⟨_, rfl⟩
  rw [← hg]
  have k0 : Blk wv g 26 (tc l) := by rw [hwv, hg]; exact ((Blk.new w _ _).alloc _).alloc _
  have k1 : Blk wv (g + 1) 26 (tc m) := by
    have h := (Blk.new (w.alloc (.cells (tc l) 26)) 26 (tc m)).alloc (.cells (tc zero) 26)
    rw [zero_tc] at h
    rw [hwv, hg]
    simpa using h
  have k2 : Blk wv (g + 2) 26 (tc zero) := by
    have h := Blk.new ((w.alloc (.cells (tc l) 26)).alloc (.cells (tc m) 26)) 26 (tc zero)
    rw [zero_tc] at h
    rw [zero_tc, hwv, hg]
    simpa using h
  have hb : Below w.heap.size w wv := by rw [hwv]; exact (((Below.refl _ _).alloc (Nat.le_refl _) _).alloc (by simp) _).alloc (by simp; omega) _
  have hgw : w.heap.size ≤ g := by omega
  clear hwv hg
  go_wp2_with (first
    | ((with_reducible refine wpList_ld rowT k0 HS.out ?_ ?_); rotate_left; (rfl))
    | ((with_reducible refine wpList_ld rowT k1 HM.out ?_ ?_); rotate_left; (rfl)))
  refine (HC.out wv).mono ?_
  rintro e w1 ⟨rfl, h1⟩
  have k2a := k2.below h1 k2.lt
  have b1 := hb.trans (h1.mono hb.size)
  clear k0 k1 k2 hb h1
  rw [show bothL mx l m = joinL l m from rfl]
  obtain ⟨z, hz⟩ : ∃ z, joinL l m = z := ⟨_, rfl⟩
  have HZZ := Lib.hid hz
  rw [hz] at HZ H1 ⊢
  clear hz
  go_wp2_with ((with_reducible refine wpList_st rowT k2a HZ.out zero_size H1.out ?_ ?_ ?_); rotate_left; (rfl); (rfl); intro w7 k7 g7 z7)
  have b7 := b1.grown g7 b1.size (fun q hq => by injection hq; omega)
  exact bodyPost_ret (v := .agg (tc z)) (results_blk rfl rowT k7 HZ.out rfl) rfl ⟨by rw [HZZ.out], b7⟩
set_option maxRecDepth 100000 in
theorem more_any (l m : List Int) (w : World) (hl : l.length = 16) (hm : m.length = 16) :
    Calls Try.prog 19 #[.agg (tc l), .agg (tc m)] w fun e w' => e = .returned (.agg (tc (moreL l m))) ∧ Below w.heap.size w w' := by
  have HS := Lib.hid (show (tc l).size = 16 by rw [tc_size, hl])
  have HM := Lib.hid (show (tc m).size = 16 by rw [tc_size, hm])
  have HZ := Lib.hid (show (tc (moreL l m)).size = 16 by rw [tc_size]; exact bothL_len hl hm)
  have H1 := Lib.hid (tc_one (moreL l m))
  have hc := fun w => both_any 29 mr more1 enters_more l m w hl hm
  have HC := Lib.hid hc
  have hmf : ∀ (fn : Fn) (first cap : Array Value) (w : World), (Instr.makeFunc fn first cap).run Try.prog w = .ok (.func fn first cap) w := fun _ _ _ _ => rfl
  clear hl hm hc
  go_enter Try.func19, Try.ntmps19
  go_upto_region 1 with fail
  refine nameW ?_
  intro wv hwv
  obtain ⟨g, hg⟩ : ∃ g, g = w.heap.size := ⟨_, rfl⟩
  rw [← hg]
  have k0 : Blk wv g 26 (tc l) := by rw [hwv, hg]; exact ((Blk.new w _ _).alloc _).alloc _
  have k1 : Blk wv (g + 1) 26 (tc m) := by
    have h := (Blk.new (w.alloc (.cells (tc l) 26)) 26 (tc m)).alloc (.cells (tc zero) 26)
    rw [zero_tc] at h
    rw [hwv, hg]
    simpa using h
  have k2 : Blk wv (g + 2) 26 (tc zero) := by
    have h := Blk.new ((w.alloc (.cells (tc l) 26)).alloc (.cells (tc m) 26)) 26 (tc zero)
    rw [zero_tc] at h
    rw [zero_tc, hwv, hg]
    simpa using h
  have hb : Below w.heap.size w wv := by rw [hwv]; exact (((Below.refl _ _).alloc (Nat.le_refl _) _).alloc (by simp) _).alloc (by simp; omega) _
  have hgw : w.heap.size ≤ g := by omega
  clear hwv hg
  go_wp2_with (first
    | ((with_reducible refine wpList_ld rowT k0 HS.out ?_ ?_); rotate_left; (rfl))
    | ((with_reducible refine wpList_ld rowT k1 HM.out ?_ ?_); rotate_left; (rfl)))
  refine (HC.out wv).mono ?_
  rintro e w1 ⟨rfl, h1⟩
  have k2a := k2.below h1 k2.lt
  have b1 := hb.trans (h1.mono hb.size)
  clear k0 k1 k2 hb h1
  rw [show bothL mr l m = moreL l m from rfl]
  obtain ⟨z, hz⟩ : ∃ z, moreL l m = z := ⟨_, rfl⟩
  have HZZ := Lib.hid hz
  rw [hz] at HZ H1 ⊢
  clear hz
  go_wp2_with ((with_reducible refine wpList_st rowT k2a HZ.out zero_size H1.out ?_ ?_ ?_); rotate_left; (rfl); (rfl); intro w7 k7 g7 z7)
  have b7 := b1.grown g7 b1.size (fun q hq => by injection hq; omega)
  exact bodyPost_ret (v := .agg (tc z)) (results_blk rfl rowT k7 HZ.out rfl) rfl ⟨by rw [HZZ.out], b7⟩
/-- the first k nodes' numbers brought together -/
def halfTo (h : Int → Int → Int) (a b : List Int) : Nat → List Int
  | 0 => a
  | k + 1 => ((halfTo h a b k).set k (h (a.getD k 0) (b.getD k 0))).set (8 + k) (h (a.getD (8 + k) 0) (b.getD (8 + k) 0))
theorem halfTo_len (h : Int → Int → Int) (a b : List Int) (k : Nat) : (halfTo h a b k).length = a.length := by
  induction k with
  | zero => rfl
  | succ k ih => simp [halfTo, ih]
theorem getD_set_ne {l : List Int} {i j : Nat} {x : Int} (h : i ≠ j) : (l.set i x).getD j 0 = l.getD j 0 := by
  rw [List.getD_eq_getElem?_getD, List.getElem?_set_ne h, ← List.getD_eq_getElem?_getD]
theorem getD_set_eq {l : List Int} {i : Nat} {x : Int} (h : i < l.length) : (l.set i x).getD i 0 = x := by
  rw [List.getD_eq_getElem?_getD, List.getElem?_set_self h]; rfl
theorem halfTo_ge (h : Int → Int → Int) (a b : List Int) (k i : Nat) (hk : k ≤ 8) (hi : (i < 8 ∧ k ≤ i) ∨ 8 + k ≤ i) : (halfTo h a b k).getD i 0 = a.getD i 0 := by
  induction k with
  | zero => rfl
  | succ k ih => rw [halfTo, getD_set_ne (by omega), getD_set_ne (by omega), ih (by omega) (by omega)]
theorem halfTo_at (h : Int → Int → Int) (a b : List Int) (k i : Nat) (hk : k < 8) (hi : i = k ∨ i = 8 + k) : (halfTo h a b k).getD i 0 = a.getD i 0 := halfTo_ge h a b k i (by omega) (by omega)
theorem halfTo_lt (h : Int → Int → Int) (a b : List Int) (ha : a.length = 16) (k : Nat) (hk : k ≤ 8) (i : Nat) (hi : i < k ∨ (8 ≤ i ∧ i < 8 + k)) : (halfTo h a b k).getD i 0 = h (a.getD i 0) (b.getD i 0) := by
  induction k with
  | zero => omega
  | succ k ih =>
    have hl := halfTo_len h a b k
    rw [halfTo]
    by_cases e1 : i = 8 + k
    · subst e1
      rw [getD_set_eq (by rw [List.length_set]; omega)]
    · rw [getD_set_ne (by omega)]
      by_cases e2 : i = k
      · subst e2
        rw [getD_set_eq (by omega)]
      · rw [getD_set_ne (by omega), ih (by omega) (by omega)]
theorem halfTo_all (h : Int → Int → Int) (a b : List Int) (ha : a.length = 16) (hb : b.length = 16) : halfTo h a b 8 = List.zipWith h a b := by
  apply List.ext_getElem?
  intro i
  by_cases hi : i < 16
  · have h1 := halfTo_lt h a b ha 8 (by omega) i (by omega)
    rw [List.getD_eq_getElem?_getD, List.getElem?_eq_getElem (by rw [halfTo_len]; omega)] at h1
    rw [List.getElem?_eq_getElem (by rw [halfTo_len]; omega), List.getElem?_zipWith, List.getElem?_eq_getElem (by omega), List.getElem?_eq_getElem (by omega)]
    simp only [Option.getD_some] at h1
    rw [h1, List.getD_eq_getElem?_getD, List.getD_eq_getElem?_getD, List.getElem?_eq_getElem (by omega), List.getElem?_eq_getElem (by omega)]
    rfl
  · rw [List.getElem?_eq_none (by rw [halfTo_len]; omega), List.getElem?_eq_none (by simp; omega)]
theorem set_same {l : List Int} {i : Nat} {x : Int} (h : l.getD i 0 = x) : l.set i x = l := by
  apply List.ext_getElem?
  intro j
  by_cases e : i = j
  · subst e
    by_cases hi : i < l.length
    · rw [List.getElem?_set_self hi, List.getElem?_eq_getElem hi]
      rw [List.getD_eq_getElem?_getD, List.getElem?_eq_getElem hi] at h
      rw [← h]; rfl
    · rw [List.getElem?_eq_none (by simp; omega), List.getElem?_eq_none (by omega)]
  · rw [List.getElem?_set_ne e]
set_option maxRecDepth 100000 in
set_option maxHeartbeats 2000000 in
theorem rjoin_any (l m : List Int) (w : World) (hl : l.length = 16) (hm : m.length = 16) :
    Calls Try.prog 16 #[.agg (tc l), .agg (tc m)] w fun e w' => e = .returned (.agg (tc (joinL l m))) ∧ Below w.heap.size w w' := by
  have HS := Lib.hid (show (tc l).size = 16 by rw [tc_size, hl])
  have HM := Lib.hid (show (tc m).size = 16 by rw [tc_size, hm])
  have HSo := Lib.hid (show (tc (ownL l)).size = 16 by rw [tc_size, own_len hl])
  have HMo := Lib.hid (show (tc (ownL m)).size = 16 by rw [tc_size, own_len hm])
  have HL := Lib.hid hl
  have HLM := Lib.hid hm
  clear hl hm
  go_enter Try.func16, Try.ntmps16
  go_upto_region 1 with fail
  refine nameW ?_
  intro wv hwv
  obtain ⟨g, hg⟩ : ∃ g, g = w.heap.size := ⟨_, rfl⟩
  rw [← hg]
  have k0 : Blk wv g 24 (tc l) := by rw [hwv, hg]; exact ((Blk.new w _ _).alloc _).alloc _
  have k1 : Blk wv (g + 1) 24 (tc m) := by
    have h := (Blk.new (w.alloc (.cells (tc l) 24)) 24 (tc m)).alloc (.cells (tc zero) 24)
    rw [zero_tc] at h
    rw [hwv, hg]
    simpa using h
  have k2 : Blk wv (g + 2) 24 (tc zero) := by
    have h := Blk.new ((w.alloc (.cells (tc l) 24)).alloc (.cells (tc m) 24)) 24 (tc zero)
    rw [zero_tc] at h
    rw [zero_tc, hwv, hg]
    simpa using h
  have hb : Below w.heap.size w wv := by rw [hwv]; exact (((Below.refl _ _).alloc (Nat.le_refl _) _).alloc (by simp) _).alloc (by simp; omega) _
  have hgw : w.heap.size ≤ g := by omega
  clear hwv hg
  have k0d : Blk wv.drew g 24 (tc l) := k0
  have k1d : Blk wv.drew (g + 1) 24 (tc m) := k1
  have k2d : Blk wv.drew (g + 2) 24 (tc zero) := k2
  have hbd := hb.drew
  clear k0 k1 k2 hb
  go_cut [2] (fun s wx => s = .pointer (some ⟨g, 0, none⟩) ∧ Blk wx g 24 (tc (ownL l)) ∧ Blk wx (g + 1) 24 (tc (ownL m)) ∧ Blk wx (g + 2) 24 (tc zero) ∧ Below w.heap.size w wx)
  case first =>
    refine wp_region_any (by kernel_rfl) ?_
    try (change wpAny _ _ _ _ _ _ _ (World.drew _))
    refine wpAny_ready (rs := [0, 2]) (by kernel_rfl) (by simp) ?_
    refine AllReady.cons rfl (fun K hK => ?_) (AllReady.cons rfl (fun K hK => ?_) AllReady.nil)
    · refine step_ld rfl rowR (.tmp 2) rfl (by rfl) k0d HS.out ?_
      refine hK _ _ ?_
      clear hK K
      refine wpAny_ready (rs := [1, 2]) (by kernel_rfl) (by simp) ?_
      refine AllReady.cons rfl (fun K hK => ?_) (AllReady.cons rfl (fun K hK => ?_) AllReady.nil)
      · go_simp
        refine (rown_any l _ HL.out).mono ?_
        rintro e w1 ⟨rfl, h1⟩
        have k0a := k0d.below h1 k0d.lt
        have k1a := k1d.below h1 k1d.lt
        have k2a := k2d.below h1 k2d.lt
        have b1 := hbd.trans (h1.mono hbd.size)
        refine hK _ _ ?_
        clear hK K
        refine wpAny_ready (rs := [2]) (by kernel_rfl) (by simp) ?_
        refine AllReady.cons rfl (fun K hK => ?_) AllReady.nil
        refine step_ld rfl rowR (.tmp 3) rfl (by rfl) k1a HM.out ?_
        refine hK _ _ ?_
        clear hK K
        refine wpAny_ready (rs := [3]) (by kernel_rfl) (by simp) ?_
        refine AllReady.cons rfl (fun K hK => ?_) AllReady.nil
        go_simp
        refine (rown_any m _ HLM.out).mono ?_
        rintro e w2 ⟨rfl, h2⟩
        have k0b := k0a.below h2 k0a.lt
        have k1b := k1a.below h2 k1a.lt
        have k2b := k2a.below h2 k2a.lt
        have b2 := b1.trans (h2.mono b1.size)
        refine hK _ _ ?_
        clear hK K
        refine wpAny_ready (rs := [4]) (by kernel_rfl) (by simp) ?_
        refine AllReady.cons rfl (fun K hK => ?_) AllReady.nil
        refine step_st rfl rowR (.tmp 2) (.tmp 7) rfl (by rfl) (by rfl) k0b HSo.out HS.out (tc_one _) ?_
        intro w3 k03 g3 z3
        have k13 := k1b.grown g3 (by simp)
        have k23 := k2b.grown g3 (by simp)
        have b3 := b2.grown g3 b2.size (fun q hq => by injection hq; omega)
        refine hK _ _ ?_
        clear hK K
        refine wpAny_ready (rs := [5]) (by kernel_rfl) (by simp) ?_
        refine AllReady.cons rfl (fun K hK => ?_) AllReady.nil
        refine step_st rfl rowR (.tmp 3) (.tmp 9) rfl (by rfl) (by rfl) k13 HMo.out HM.out (tc_one _) ?_
        intro w4 k14 g4 z4
        have k04 := k03.grown g4 (by simp)
        have k24 := k23.grown g4 (by simp)
        have b4 := b3.grown g4 b3.size (fun q hq => by injection hq; omega)
        refine hK _ _ ?_
        clear hK K
        refine wpAny_done (by kernel_rfl) ?_ _
        go_wp2_with fail
        go_meet
        exact ⟨rfl, k04, k14, k24, b4⟩
      · refine step_ld rfl rowR (.tmp 3) rfl (by rfl) k1d HM.out ?_
        refine hK _ _ ?_
        clear hK K
        refine wpAny_ready (rs := [1]) (by kernel_rfl) (by simp) ?_
        refine AllReady.cons rfl (fun K hK => ?_) AllReady.nil
        go_simp
        refine (rown_any l _ HL.out).mono ?_
        rintro e w1 ⟨rfl, h1⟩
        have k0a := k0d.below h1 k0d.lt
        have k1a := k1d.below h1 k1d.lt
        have k2a := k2d.below h1 k2d.lt
        have b1 := hbd.trans (h1.mono hbd.size)
        refine hK _ _ ?_
        clear hK K
        refine wpAny_ready (rs := [3]) (by kernel_rfl) (by simp) ?_
        refine AllReady.cons rfl (fun K hK => ?_) AllReady.nil
        go_simp
        refine (rown_any m _ HLM.out).mono ?_
        rintro e w2 ⟨rfl, h2⟩
        have k0b := k0a.below h2 k0a.lt
        have k1b := k1a.below h2 k1a.lt
        have k2b := k2a.below h2 k2a.lt
        have b2 := b1.trans (h2.mono b1.size)
        refine hK _ _ ?_
        clear hK K
        refine wpAny_ready (rs := [4]) (by kernel_rfl) (by simp) ?_
        refine AllReady.cons rfl (fun K hK => ?_) AllReady.nil
        refine step_st rfl rowR (.tmp 2) (.tmp 7) rfl (by rfl) (by rfl) k0b HSo.out HS.out (tc_one _) ?_
        intro w3 k03 g3 z3
        have k13 := k1b.grown g3 (by simp)
        have k23 := k2b.grown g3 (by simp)
        have b3 := b2.grown g3 b2.size (fun q hq => by injection hq; omega)
        refine hK _ _ ?_
        clear hK K
        refine wpAny_ready (rs := [5]) (by kernel_rfl) (by simp) ?_
        refine AllReady.cons rfl (fun K hK => ?_) AllReady.nil
        refine step_st rfl rowR (.tmp 3) (.tmp 9) rfl (by rfl) (by rfl) k13 HMo.out HM.out (tc_one _) ?_
        intro w4 k14 g4 z4
        have k04 := k03.grown g4 (by simp)
        have k24 := k23.grown g4 (by simp)
        have b4 := b3.grown g4 b3.size (fun q hq => by injection hq; omega)
        refine hK _ _ ?_
        clear hK K
        refine wpAny_done (by kernel_rfl) ?_ _
        go_wp2_with fail
        go_meet
        exact ⟨rfl, k04, k14, k24, b4⟩
    · refine step_ld rfl rowR (.tmp 3) rfl (by rfl) k1d HM.out ?_
      refine hK _ _ ?_
      clear hK K
      refine wpAny_ready (rs := [0]) (by kernel_rfl) (by simp) ?_
      refine AllReady.cons rfl (fun K hK => ?_) AllReady.nil
      refine step_ld rfl rowR (.tmp 2) rfl (by rfl) k0d HS.out ?_
      refine hK _ _ ?_
      clear hK K
      refine wpAny_ready (rs := [1]) (by kernel_rfl) (by simp) ?_
      refine AllReady.cons rfl (fun K hK => ?_) AllReady.nil
      go_simp
      refine (rown_any l _ HL.out).mono ?_
      rintro e w1 ⟨rfl, h1⟩
      have k0a := k0d.below h1 k0d.lt
      have k1a := k1d.below h1 k1d.lt
      have k2a := k2d.below h1 k2d.lt
      have b1 := hbd.trans (h1.mono hbd.size)
      refine hK _ _ ?_
      clear hK K
      refine wpAny_ready (rs := [3]) (by kernel_rfl) (by simp) ?_
      refine AllReady.cons rfl (fun K hK => ?_) AllReady.nil
      go_simp
      refine (rown_any m _ HLM.out).mono ?_
      rintro e w2 ⟨rfl, h2⟩
      have k0b := k0a.below h2 k0a.lt
      have k1b := k1a.below h2 k1a.lt
      have k2b := k2a.below h2 k2a.lt
      have b2 := b1.trans (h2.mono b1.size)
      refine hK _ _ ?_
      clear hK K
      refine wpAny_ready (rs := [4]) (by kernel_rfl) (by simp) ?_
      refine AllReady.cons rfl (fun K hK => ?_) AllReady.nil
      refine step_st rfl rowR (.tmp 2) (.tmp 7) rfl (by rfl) (by rfl) k0b HSo.out HS.out (tc_one _) ?_
      intro w3 k03 g3 z3
      have k13 := k1b.grown g3 (by simp)
      have k23 := k2b.grown g3 (by simp)
      have b3 := b2.grown g3 b2.size (fun q hq => by injection hq; omega)
      refine hK _ _ ?_
      clear hK K
      refine wpAny_ready (rs := [5]) (by kernel_rfl) (by simp) ?_
      refine AllReady.cons rfl (fun K hK => ?_) AllReady.nil
      refine step_st rfl rowR (.tmp 3) (.tmp 9) rfl (by rfl) (by rfl) k13 HMo.out HM.out (tc_one _) ?_
      intro w4 k14 g4 z4
      have k04 := k03.grown g4 (by simp)
      have k24 := k23.grown g4 (by simp)
      have b4 := b3.grown g4 b3.size (fun q hq => by injection hq; omega)
      refine hK _ _ ?_
      clear hK K
      refine wpAny_done (by kernel_rfl) ?_ _
      go_wp2_with fail
      go_meet
      exact ⟨rfl, k04, k14, k24, b4⟩
  case rest =>
    obtain ⟨rfl, k0, k1, k2, b0⟩ := hcut
    clear k0d k1d k2d hbd
    have hbo : joinL l m = List.zipWith mx (ownL l) (ownL m) := rfl
    have HBO := Lib.hid hbo
    have HOL := Lib.hid (own_len HL.out)
    have HOM := Lib.hid (own_len HLM.out)
    clear hbo
    generalize ownL l = x at *
    generalize ownL m = y at *
    go_wp2_with fail
    go_loopw [5] (fun i wr => ∃ k : Nat, k ≤ 8 ∧ i = .int .i64 k ∧ Blk wr g 24 (tc (halfTo mx x y k)) ∧ Blk wr (g + 1) 24 (tc y) ∧ Blk wr (g + 2) 24 (tc zero) ∧ Below w.heap.size w wr) (fun i _ => 8 - (intOf i).toNat)
    case atStart => exact ⟨0, by omega, rfl, k0, k1, k2, b0⟩
    case round =>
      clear k0 k1 k2 b0
      obtain ⟨k, hk, rfl, k0, k1, k2, b0⟩ := hrel
      by_cases hlt : k < 8
      · have hlen := halfTo_len mx x y k
        have e1 := k0.tcell (i := k) (by rw [hlen, HOL.out]; omega)
        have e1' := k0.tcell (i := 8 + k) (by rw [hlen, HOL.out]; omega)
        rw [halfTo_at mx x y k k hlt (.inl rfl)] at e1
        rw [halfTo_at mx x y k (8 + k) hlt (.inr rfl)] at e1'
        have e2 := k1.tcell (i := k) (by rw [HOM.out]; omega)
        have e2' := k1.tcell (i := 8 + k) (by rw [HOM.out]; omega)
        have e3 := k0.free k
        have e3' := k0.free (8 + k)
        have hst : halfTo mx x y (k + 1) = ((halfTo mx x y k).set k (mx (x.getD k 0) (y.getD k 0))).set (8 + k) (mx (x.getD (8 + k) 0) (y.getD (8 + k) 0)) := rfl
        unfold mx at hst
        generalize x.getD k 0 = u at *
        generalize y.getD k 0 = v at *
        generalize x.getD (8 + k) 0 = u' at *
        generalize y.getD (8 + k) 0 = v' at *
        have hk0 : (0 : Int) ≤ (k : Int) := by omega
        have hk1 : (k : Int) < 8 := by omega
        have hgl := k0.lt
        clear hlen
        obtain ⟨z, hz⟩ : ∃ z, (if u < v then v else u) = z := ⟨_, rfl⟩
        obtain ⟨z', hz'⟩ : ∃ z', (if u' < v' then v' else u') = z' := ⟨_, rfl⟩
        rw [hz, hz'] at hst
        have k01 := k0.set_ k (.int .i64 z)
        rw [tc_set] at k01
        have e3b := k01.free (8 + k)
        have K0 : Blk ((wr.setCell ⟨g, k, none⟩ (.int .i64 z)).setCell ⟨g, 8 + k, none⟩ (.int .i64 z')) g 24 (tc (halfTo mx x y (k + 1))) := by
          have := k01.set_ (8 + k) (.int .i64 z')
          rw [tc_set] at this
          rw [show halfTo mx x y (k + 1) = _ from hst]; exact this
        have K1 : Blk ((wr.setCell ⟨g, k, none⟩ (.int .i64 z)).setCell ⟨g, 8 + k, none⟩ (.int .i64 z')) (g + 1) 24 (tc y) := (k1.far (p := ⟨g, k, none⟩) (by simp) _).far (p := ⟨g, 8 + k, none⟩) (by simp) _
        have K2 : Blk ((wr.setCell ⟨g, k, none⟩ (.int .i64 z)).setCell ⟨g, 8 + k, none⟩ (.int .i64 z')) (g + 2) 24 (tc zero) := (k2.far (p := ⟨g, k, none⟩) (by simp) _).far (p := ⟨g, 8 + k, none⟩) (by simp) _
        have B0 : Below w.heap.size w ((wr.setCell ⟨g, k, none⟩ (.int .i64 z)).setCell ⟨g, 8 + k, none⟩ (.int .i64 z')) := (b0.setCell hgw _).setCell hgw _
        have hne : (⟨g, k, none⟩ : Addr) ≠ ⟨g, 8 + k, none⟩ := by intro h; injection h; omega
        have e1b : (wr.setCell ⟨g, k, none⟩ (.int .i64 z)).cell? ⟨g, 8 + k, none⟩ = some (.int .i64 u') := (World.cell?_setCell_other _ _ _ _ hne).trans e1'
        have e2b : (wr.setCell ⟨g, k, none⟩ (.int .i64 z)).cell? ⟨g + 1, 8 + k, none⟩ = some (.int .i64 v') := (World.cell?_setCell_other _ _ _ _ (by intro h; injection h; omega)).trans e2'
        have HK := Lib.hid (And.intro K0 (And.intro K1 (And.intro K2 B0)))
        clear K0 K1 K2 B0 hst k0 k1 k2 b0 k01 e1' e2' e3' hne
        go_wp2_with fail
        go_region
        go_wp2_with fail
        go_region
        go_wp2_with fail
        go_roundw
        case rel => exact ⟨k + 1, by omega, by go_num, HK.out.1, HK.out.2.1, HK.out.2.2.1, HK.out.2.2.2.drew.drew⟩
        case measure => simp [intOf]; omega
      · obtain rfl : k = 8 := by omega
        have hbo := halfTo_all mx x y HOL.out HOM.out
        rw [hbo] at k0
        have HZ := Lib.hid (show (tc (List.zipWith mx x y)).size = 16 by rw [tc_size, List.length_zipWith, HOL.out, HOM.out]; rfl)
        have H1 := Lib.hid (tc_one (List.zipWith mx x y))
        clear hbo k1
        generalize List.zipWith mx x y = z at *
        go_wp2_with (first
          | ((with_reducible refine wpList_ld rowR k0 HZ.out ?_ ?_); rotate_left; (rfl))
          | ((with_reducible refine wpList_st rowR k2 HZ.out zero_size H1.out ?_ ?_ ?_); rotate_left; (rfl); (rfl); intro w7 k7 g7 z7))
        have b7 := b0.grown g7 b0.size (fun q hq => by injection hq; omega)
        exact bodyPost_ret (v := .agg (tc z)) (results_blk rfl rowR k7 HZ.out rfl) rfl ⟨by rw [HBO.out], b7⟩
set_option maxRecDepth 100000 in
set_option maxHeartbeats 2000000 in
theorem rmore_any (l m : List Int) (w : World) (hl : l.length = 16) (hm : m.length = 16) :
    Calls Try.prog 20 #[.agg (tc l), .agg (tc m)] w fun e w' => e = .returned (.agg (tc (moreL l m))) ∧ Below w.heap.size w w' := by
  have HS := Lib.hid (show (tc l).size = 16 by rw [tc_size, hl])
  have HM := Lib.hid (show (tc m).size = 16 by rw [tc_size, hm])
  have HSo := Lib.hid (show (tc (ownL l)).size = 16 by rw [tc_size, own_len hl])
  have HMo := Lib.hid (show (tc (ownL m)).size = 16 by rw [tc_size, own_len hm])
  have HL := Lib.hid hl
  have HLM := Lib.hid hm
  clear hl hm
  go_enter Try.func20, Try.ntmps20
  go_upto_region 1 with fail
  refine nameW ?_
  intro wv hwv
  obtain ⟨g, hg⟩ : ∃ g, g = w.heap.size := ⟨_, rfl⟩
  rw [← hg]
  have k0 : Blk wv g 24 (tc l) := by rw [hwv, hg]; exact ((Blk.new w _ _).alloc _).alloc _
  have k1 : Blk wv (g + 1) 24 (tc m) := by
    have h := (Blk.new (w.alloc (.cells (tc l) 24)) 24 (tc m)).alloc (.cells (tc zero) 24)
    rw [zero_tc] at h
    rw [hwv, hg]
    simpa using h
  have k2 : Blk wv (g + 2) 24 (tc zero) := by
    have h := Blk.new ((w.alloc (.cells (tc l) 24)).alloc (.cells (tc m) 24)) 24 (tc zero)
    rw [zero_tc] at h
    rw [zero_tc, hwv, hg]
    simpa using h
  have hb : Below w.heap.size w wv := by rw [hwv]; exact (((Below.refl _ _).alloc (Nat.le_refl _) _).alloc (by simp) _).alloc (by simp; omega) _
  have hgw : w.heap.size ≤ g := by omega
  clear hwv hg
  have k0d : Blk wv.drew g 24 (tc l) := k0
  have k1d : Blk wv.drew (g + 1) 24 (tc m) := k1
  have k2d : Blk wv.drew (g + 2) 24 (tc zero) := k2
  have hbd := hb.drew
  clear k0 k1 k2 hb
  go_cut [2] (fun s wx => s = .pointer (some ⟨g, 0, none⟩) ∧ Blk wx g 24 (tc (ownL l)) ∧ Blk wx (g + 1) 24 (tc (ownL m)) ∧ Blk wx (g + 2) 24 (tc zero) ∧ Below w.heap.size w wx)
  case first =>
    refine wp_region_any (by kernel_rfl) ?_
    try (change wpAny _ _ _ _ _ _ _ (World.drew _))
    refine wpAny_ready (rs := [0, 2]) (by kernel_rfl) (by simp) ?_
    refine AllReady.cons rfl (fun K hK => ?_) (AllReady.cons rfl (fun K hK => ?_) AllReady.nil)
    · refine step_ld rfl rowR (.tmp 2) rfl (by rfl) k0d HS.out ?_
      refine hK _ _ ?_
      clear hK K
      refine wpAny_ready (rs := [1, 2]) (by kernel_rfl) (by simp) ?_
      refine AllReady.cons rfl (fun K hK => ?_) (AllReady.cons rfl (fun K hK => ?_) AllReady.nil)
      · go_simp
        refine (rown_any l _ HL.out).mono ?_
        rintro e w1 ⟨rfl, h1⟩
        have k0a := k0d.below h1 k0d.lt
        have k1a := k1d.below h1 k1d.lt
        have k2a := k2d.below h1 k2d.lt
        have b1 := hbd.trans (h1.mono hbd.size)
        refine hK _ _ ?_
        clear hK K
        refine wpAny_ready (rs := [2]) (by kernel_rfl) (by simp) ?_
        refine AllReady.cons rfl (fun K hK => ?_) AllReady.nil
        refine step_ld rfl rowR (.tmp 3) rfl (by rfl) k1a HM.out ?_
        refine hK _ _ ?_
        clear hK K
        refine wpAny_ready (rs := [3]) (by kernel_rfl) (by simp) ?_
        refine AllReady.cons rfl (fun K hK => ?_) AllReady.nil
        go_simp
        refine (rown_any m _ HLM.out).mono ?_
        rintro e w2 ⟨rfl, h2⟩
        have k0b := k0a.below h2 k0a.lt
        have k1b := k1a.below h2 k1a.lt
        have k2b := k2a.below h2 k2a.lt
        have b2 := b1.trans (h2.mono b1.size)
        refine hK _ _ ?_
        clear hK K
        refine wpAny_ready (rs := [4]) (by kernel_rfl) (by simp) ?_
        refine AllReady.cons rfl (fun K hK => ?_) AllReady.nil
        refine step_st rfl rowR (.tmp 2) (.tmp 7) rfl (by rfl) (by rfl) k0b HSo.out HS.out (tc_one _) ?_
        intro w3 k03 g3 z3
        have k13 := k1b.grown g3 (by simp)
        have k23 := k2b.grown g3 (by simp)
        have b3 := b2.grown g3 b2.size (fun q hq => by injection hq; omega)
        refine hK _ _ ?_
        clear hK K
        refine wpAny_ready (rs := [5]) (by kernel_rfl) (by simp) ?_
        refine AllReady.cons rfl (fun K hK => ?_) AllReady.nil
        refine step_st rfl rowR (.tmp 3) (.tmp 9) rfl (by rfl) (by rfl) k13 HMo.out HM.out (tc_one _) ?_
        intro w4 k14 g4 z4
        have k04 := k03.grown g4 (by simp)
        have k24 := k23.grown g4 (by simp)
        have b4 := b3.grown g4 b3.size (fun q hq => by injection hq; omega)
        refine hK _ _ ?_
        clear hK K
        refine wpAny_done (by kernel_rfl) ?_ _
        go_wp2_with fail
        go_meet
        exact ⟨rfl, k04, k14, k24, b4⟩
      · refine step_ld rfl rowR (.tmp 3) rfl (by rfl) k1d HM.out ?_
        refine hK _ _ ?_
        clear hK K
        refine wpAny_ready (rs := [1]) (by kernel_rfl) (by simp) ?_
        refine AllReady.cons rfl (fun K hK => ?_) AllReady.nil
        go_simp
        refine (rown_any l _ HL.out).mono ?_
        rintro e w1 ⟨rfl, h1⟩
        have k0a := k0d.below h1 k0d.lt
        have k1a := k1d.below h1 k1d.lt
        have k2a := k2d.below h1 k2d.lt
        have b1 := hbd.trans (h1.mono hbd.size)
        refine hK _ _ ?_
        clear hK K
        refine wpAny_ready (rs := [3]) (by kernel_rfl) (by simp) ?_
        refine AllReady.cons rfl (fun K hK => ?_) AllReady.nil
        go_simp
        refine (rown_any m _ HLM.out).mono ?_
        rintro e w2 ⟨rfl, h2⟩
        have k0b := k0a.below h2 k0a.lt
        have k1b := k1a.below h2 k1a.lt
        have k2b := k2a.below h2 k2a.lt
        have b2 := b1.trans (h2.mono b1.size)
        refine hK _ _ ?_
        clear hK K
        refine wpAny_ready (rs := [4]) (by kernel_rfl) (by simp) ?_
        refine AllReady.cons rfl (fun K hK => ?_) AllReady.nil
        refine step_st rfl rowR (.tmp 2) (.tmp 7) rfl (by rfl) (by rfl) k0b HSo.out HS.out (tc_one _) ?_
        intro w3 k03 g3 z3
        have k13 := k1b.grown g3 (by simp)
        have k23 := k2b.grown g3 (by simp)
        have b3 := b2.grown g3 b2.size (fun q hq => by injection hq; omega)
        refine hK _ _ ?_
        clear hK K
        refine wpAny_ready (rs := [5]) (by kernel_rfl) (by simp) ?_
        refine AllReady.cons rfl (fun K hK => ?_) AllReady.nil
        refine step_st rfl rowR (.tmp 3) (.tmp 9) rfl (by rfl) (by rfl) k13 HMo.out HM.out (tc_one _) ?_
        intro w4 k14 g4 z4
        have k04 := k03.grown g4 (by simp)
        have k24 := k23.grown g4 (by simp)
        have b4 := b3.grown g4 b3.size (fun q hq => by injection hq; omega)
        refine hK _ _ ?_
        clear hK K
        refine wpAny_done (by kernel_rfl) ?_ _
        go_wp2_with fail
        go_meet
        exact ⟨rfl, k04, k14, k24, b4⟩
    · refine step_ld rfl rowR (.tmp 3) rfl (by rfl) k1d HM.out ?_
      refine hK _ _ ?_
      clear hK K
      refine wpAny_ready (rs := [0]) (by kernel_rfl) (by simp) ?_
      refine AllReady.cons rfl (fun K hK => ?_) AllReady.nil
      refine step_ld rfl rowR (.tmp 2) rfl (by rfl) k0d HS.out ?_
      refine hK _ _ ?_
      clear hK K
      refine wpAny_ready (rs := [1]) (by kernel_rfl) (by simp) ?_
      refine AllReady.cons rfl (fun K hK => ?_) AllReady.nil
      go_simp
      refine (rown_any l _ HL.out).mono ?_
      rintro e w1 ⟨rfl, h1⟩
      have k0a := k0d.below h1 k0d.lt
      have k1a := k1d.below h1 k1d.lt
      have k2a := k2d.below h1 k2d.lt
      have b1 := hbd.trans (h1.mono hbd.size)
      refine hK _ _ ?_
      clear hK K
      refine wpAny_ready (rs := [3]) (by kernel_rfl) (by simp) ?_
      refine AllReady.cons rfl (fun K hK => ?_) AllReady.nil
      go_simp
      refine (rown_any m _ HLM.out).mono ?_
      rintro e w2 ⟨rfl, h2⟩
      have k0b := k0a.below h2 k0a.lt
      have k1b := k1a.below h2 k1a.lt
      have k2b := k2a.below h2 k2a.lt
      have b2 := b1.trans (h2.mono b1.size)
      refine hK _ _ ?_
      clear hK K
      refine wpAny_ready (rs := [4]) (by kernel_rfl) (by simp) ?_
      refine AllReady.cons rfl (fun K hK => ?_) AllReady.nil
      refine step_st rfl rowR (.tmp 2) (.tmp 7) rfl (by rfl) (by rfl) k0b HSo.out HS.out (tc_one _) ?_
      intro w3 k03 g3 z3
      have k13 := k1b.grown g3 (by simp)
      have k23 := k2b.grown g3 (by simp)
      have b3 := b2.grown g3 b2.size (fun q hq => by injection hq; omega)
      refine hK _ _ ?_
      clear hK K
      refine wpAny_ready (rs := [5]) (by kernel_rfl) (by simp) ?_
      refine AllReady.cons rfl (fun K hK => ?_) AllReady.nil
      refine step_st rfl rowR (.tmp 3) (.tmp 9) rfl (by rfl) (by rfl) k13 HMo.out HM.out (tc_one _) ?_
      intro w4 k14 g4 z4
      have k04 := k03.grown g4 (by simp)
      have k24 := k23.grown g4 (by simp)
      have b4 := b3.grown g4 b3.size (fun q hq => by injection hq; omega)
      refine hK _ _ ?_
      clear hK K
      refine wpAny_done (by kernel_rfl) ?_ _
      go_wp2_with fail
      go_meet
      exact ⟨rfl, k04, k14, k24, b4⟩
  case rest =>
    obtain ⟨rfl, k0, k1, k2, b0⟩ := hcut
    clear k0d k1d k2d hbd
    have hbo : moreL l m = List.zipWith mr (ownL l) (ownL m) := rfl
    have HBO := Lib.hid hbo
    have HOL := Lib.hid (own_len HL.out)
    have HOM := Lib.hid (own_len HLM.out)
    clear hbo
    generalize ownL l = x at *
    generalize ownL m = y at *
    go_wp2_with fail
    go_loopw [5] (fun i wr => ∃ k : Nat, k ≤ 8 ∧ i = .int .i64 k ∧ Blk wr g 24 (tc (halfTo mr x y k)) ∧ Blk wr (g + 1) 24 (tc y) ∧ Blk wr (g + 2) 24 (tc zero) ∧ Below w.heap.size w wr) (fun i _ => 8 - (intOf i).toNat)
    case atStart => exact ⟨0, by omega, rfl, k0, k1, k2, b0⟩
    case round =>
      clear k0 k1 k2 b0
      obtain ⟨k, hk, rfl, k0, k1, k2, b0⟩ := hrel
      by_cases hlt : k < 8
      · have hlen := halfTo_len mr x y k
        have e1 := k0.tcell (i := k) (by rw [hlen, HOL.out]; omega)
        have e1' := k0.tcell (i := 8 + k) (by rw [hlen, HOL.out]; omega)
        rw [halfTo_at mr x y k k hlt (.inl rfl)] at e1
        rw [halfTo_at mr x y k (8 + k) hlt (.inr rfl)] at e1'
        have e2 := k1.tcell (i := k) (by rw [HOM.out]; omega)
        have e2' := k1.tcell (i := 8 + k) (by rw [HOM.out]; omega)
        have e3 := k0.free k
        have e3' := k0.free (8 + k)
        have hst : halfTo mr x y (k + 1) = ((halfTo mr x y k).set k (mr (x.getD k 0) (y.getD k 0))).set (8 + k) (mr (x.getD (8 + k) 0) (y.getD (8 + k) 0)) := rfl
        have hX1 := halfTo_at mr x y k k hlt (.inl rfl)
        have hX2 := halfTo_at mr x y k (8 + k) hlt (.inr rfl)
        generalize x.getD k 0 = u at *
        generalize y.getD k 0 = v at *
        generalize x.getD (8 + k) 0 = u' at *
        generalize y.getD (8 + k) 0 = v' at *
        have hk0 : (0 : Int) ≤ (k : Int) := by omega
        have hk1 : (k : Int) < 8 := by omega
        clear hlen
        by_cases hc1 : v < u
        · by_cases hc2 : v' < u'
          · have d1 : decide (u ≤ v) = false := decide_eq_false (by omega)
            have d2 : decide (u' ≤ v') = false := decide_eq_false (by omega)
            rw [show mr u v = u from if_pos (by omega), show mr u' v' = u' from if_pos (by omega)] at hst
            rw [set_same (i := k) hX1] at hst
            have k01 := k0
            rw [set_same (i := 8 + k) (by exact hX2)] at hst
            have k02 := k01
            rw [← hst] at k02
            have K1 := k1
            have K2 := k2
            have B0 := b0
            have HK := Lib.hid (And.intro k02 (And.intro K1 (And.intro K2 B0)))
            clear k02 k01 K1 K2 B0 hst k0 k1 k2 b0 hX1 hX2
            go_wp2_with fail
            go_region
            go_wp2_with fail
            go_region
            go_wp2_with fail
            go_roundw
            case rel => exact ⟨k + 1, by omega, by go_num, HK.out.1, HK.out.2.1, HK.out.2.2.1, HK.out.2.2.2.drew.drew⟩
            case measure => simp [intOf]; omega
          · have d1 : decide (u ≤ v) = false := decide_eq_false (by omega)
            have d2 : decide (u' ≤ v') = true := decide_eq_true (by omega)
            rw [show mr u v = u from if_pos (by omega), show mr u' v' = 0 from if_neg (by omega)] at hst
            rw [set_same (i := k) hX1] at hst
            have k01 := k0
            have k02 := k01.set_ (8 + k) (.int .i64 0)
            rw [tc_set] at k02
            rw [← hst] at k02
            have K1 := (k1.far (p := ⟨g, 8 + k, none⟩) (by simp) (.int .i64 0))
            have K2 := (k2.far (p := ⟨g, 8 + k, none⟩) (by simp) (.int .i64 0))
            have B0 := (b0.setCell (p := ⟨g, 8 + k, none⟩) hgw (.int .i64 0))
            have HK := Lib.hid (And.intro k02 (And.intro K1 (And.intro K2 B0)))
            clear k02 k01 K1 K2 B0 hst k0 k1 k2 b0 hX1 hX2
            go_wp2_with fail
            go_region
            go_wp2_with fail
            go_region
            go_wp2_with fail
            go_roundw
            case rel => exact ⟨k + 1, by omega, by go_num, HK.out.1, HK.out.2.1, HK.out.2.2.1, HK.out.2.2.2.drew.drew⟩
            case measure => simp [intOf]; omega
        · by_cases hc2 : v' < u'
          · have d1 : decide (u ≤ v) = true := decide_eq_true (by omega)
            have d2 : decide (u' ≤ v') = false := decide_eq_false (by omega)
            rw [show mr u v = 0 from if_neg (by omega), show mr u' v' = u' from if_pos (by omega)] at hst
            have k01 := k0.set_ k (.int .i64 0)
            rw [tc_set] at k01
            rw [set_same (i := 8 + k) (by rw [getD_set_ne (by omega)]; exact hX2)] at hst
            have k02 := k01
            rw [← hst] at k02
            have K1 := (k1.far (p := ⟨g, k, none⟩) (by simp) (.int .i64 0))
            have K2 := (k2.far (p := ⟨g, k, none⟩) (by simp) (.int .i64 0))
            have B0 := (b0.setCell (p := ⟨g, k, none⟩) hgw (.int .i64 0))
            have hne : (⟨g, k, none⟩ : Addr) ≠ ⟨g, 8 + k, none⟩ := by intro h; injection h; omega
            have e1b : (wr.setCell ⟨g, k, none⟩ (.int .i64 0)).cell? ⟨g, 8 + k, none⟩ = some (.int .i64 u') := (World.cell?_setCell_other _ _ _ _ hne).trans e1'
            have e2b : (wr.setCell ⟨g, k, none⟩ (.int .i64 0)).cell? ⟨g + 1, 8 + k, none⟩ = some (.int .i64 v') := (World.cell?_setCell_other _ _ _ _ (by intro h; injection h; omega)).trans e2'
            have e3b := k01.free (8 + k)
            clear e1' e2' e3' hne
            have HK := Lib.hid (And.intro k02 (And.intro K1 (And.intro K2 B0)))
            clear k02 k01 K1 K2 B0 hst k0 k1 k2 b0 hX1 hX2
            go_wp2_with fail
            go_region
            go_wp2_with fail
            go_region
            go_wp2_with fail
            go_roundw
            case rel => exact ⟨k + 1, by omega, by go_num, HK.out.1, HK.out.2.1, HK.out.2.2.1, HK.out.2.2.2.drew.drew⟩
            case measure => simp [intOf]; omega
          · have d1 : decide (u ≤ v) = true := decide_eq_true (by omega)
            have d2 : decide (u' ≤ v') = true := decide_eq_true (by omega)
            rw [show mr u v = 0 from if_neg (by omega), show mr u' v' = 0 from if_neg (by omega)] at hst
            have k01 := k0.set_ k (.int .i64 0)
            rw [tc_set] at k01
            have k02 := k01.set_ (8 + k) (.int .i64 0)
            rw [tc_set] at k02
            rw [← hst] at k02
            have K1 := ((k1.far (p := ⟨g, k, none⟩) (by simp) (.int .i64 0)).far (p := ⟨g, 8 + k, none⟩) (by simp) (.int .i64 0))
            have K2 := ((k2.far (p := ⟨g, k, none⟩) (by simp) (.int .i64 0)).far (p := ⟨g, 8 + k, none⟩) (by simp) (.int .i64 0))
            have B0 := ((b0.setCell (p := ⟨g, k, none⟩) hgw (.int .i64 0)).setCell (p := ⟨g, 8 + k, none⟩) hgw (.int .i64 0))
            have hne : (⟨g, k, none⟩ : Addr) ≠ ⟨g, 8 + k, none⟩ := by intro h; injection h; omega
            have e1b : (wr.setCell ⟨g, k, none⟩ (.int .i64 0)).cell? ⟨g, 8 + k, none⟩ = some (.int .i64 u') := (World.cell?_setCell_other _ _ _ _ hne).trans e1'
            have e2b : (wr.setCell ⟨g, k, none⟩ (.int .i64 0)).cell? ⟨g + 1, 8 + k, none⟩ = some (.int .i64 v') := (World.cell?_setCell_other _ _ _ _ (by intro h; injection h; omega)).trans e2'
            have e3b := k01.free (8 + k)
            clear e1' e2' e3' hne
            have HK := Lib.hid (And.intro k02 (And.intro K1 (And.intro K2 B0)))
            clear k02 k01 K1 K2 B0 hst k0 k1 k2 b0 hX1 hX2
            go_wp2_with fail
            go_region
            go_wp2_with fail
            go_region
            go_wp2_with fail
            go_roundw
            case rel => exact ⟨k + 1, by omega, by go_num, HK.out.1, HK.out.2.1, HK.out.2.2.1, HK.out.2.2.2.drew.drew⟩
            case measure => simp [intOf]; omega
      · obtain rfl : k = 8 := by omega
        have hbo := halfTo_all mr x y HOL.out HOM.out
        rw [hbo] at k0
        have HZ := Lib.hid (show (tc (List.zipWith mr x y)).size = 16 by rw [tc_size, List.length_zipWith, HOL.out, HOM.out]; rfl)
        have H1 := Lib.hid (tc_one (List.zipWith mr x y))
        clear hbo k1
        generalize List.zipWith mr x y = z at *
        go_wp2_with (first
          | ((with_reducible refine wpList_ld rowR k0 HZ.out ?_ ?_); rotate_left; (rfl))
          | ((with_reducible refine wpList_st rowR k2 HZ.out zero_size H1.out ?_ ?_ ?_); rotate_left; (rfl); (rfl); intro w7 k7 g7 z7))
        have b7 := b0.grown g7 b0.size (fun q hq => by injection hq; omega)
        exact bodyPost_ret (v := .agg (tc z)) (results_blk rfl rowR k7 HZ.out rfl) rfl ⟨by rw [HBO.out], b7⟩
end Go.Proofs.Ytoepklcmdmeanaa
