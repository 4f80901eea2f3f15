/- The walks of tally: both, Join, More, Within. -/
import Derived.Test.YtoepklcmdmeanaaTallyEq
namespace Go.Proofs.Ytoepklcmdmeanaa
open Go.RowKit
open Tally
/-- A function of two ints, in this program. -/
def Fun2 (f : FuncId) (h : Int → Int → Int) : Prop := ∀ (x y : Int) (w : World), Calls Try.prog f #[.int .i64 x, .int .i64 y] w fun e w' => e = .returned (.int .i64 (h x y)) ∧ w = w'
theorem join1 : Fun2 28 mx := by
  intro x y w
  unfold mx
  by_cases h : x < y
  · rw [if_pos h]
    go_enter Try.func28, Try.ntmps28
    go_wp2_with fail
    go_ret
    exact ⟨rfl, rfl⟩
  · rw [if_neg h]
    go_enter Try.func28, Try.ntmps28
    go_wp2_with fail
    go_ret
    exact ⟨rfl, rfl⟩
theorem more1 : Fun2 29 mr := by
  intro x y w
  unfold mr
  by_cases h : y < x
  · rw [if_pos h]
    go_enter Try.func29, Try.ntmps29
    go_wp2_with fail
    go_ret
    exact ⟨rfl, rfl⟩
  · rw [if_neg h]
    go_enter Try.func29, Try.ntmps29
    go_wp2_with fail
    go_ret
    exact ⟨rfl, rfl⟩
/-- the first k of two tallies' numbers, in the order of 'ord', brought together -/
def bothTo (h : Int → Int → Int) (a b : List Int) : Nat → List Int
  | 0 => a
  | k + 1 => (bothTo h a b k).set (ord k) (h (a.getD (ord k) 0) (b.getD (ord k) 0))
theorem bothTo_len (h : Int → Int → Int) (a b : List Int) (k : Nat) : (bothTo h a b k).length = a.length := by
  induction k with
  | zero => rfl
  | succ k ih => simp [bothTo, ih]
theorem bothTo_at (h : Int → Int → Int) (a b : List Int) (ha : a.length = 16) (k : Nat) (hk : k ≤ 16) (j : Nat) (hj : j < 16) : (bothTo h a b k).getD (ord j) 0 = if j < k then h (a.getD (ord j) 0) (b.getD (ord j) 0) else a.getD (ord j) 0 := by
  induction k with
  | zero => simp [bothTo]
  | succ k ih =>
    have hl := bothTo_len h a b k
    have hok := ord_lt (show k < 16 by omega)
    rw [bothTo, List.getD_eq_getElem?_getD]
    by_cases e : j = k
    · subst e
      rw [List.getElem?_set_self (by omega), if_pos (by omega)]; rfl
    · rw [List.getElem?_set_ne (fun h => e (ord_inj hj (by omega) h.symm)), ← List.getD_eq_getElem?_getD, ih (by omega)]
      by_cases h1 : j < k
      · rw [if_pos h1, if_pos (by omega)]
      · rw [if_neg h1, if_neg (by omega)]
theorem bothTo_all (h : Int → Int → Int) (a b : List Int) (ha : a.length = 16) (hb : b.length = 16) : bothTo h a b 16 = List.zipWith h a b := by
  apply List.ext_getElem?
  intro i
  by_cases hi : i < 16
  · obtain ⟨j, hj, rfl⟩ := ord_onto hi
    have h1 := bothTo_at h a b ha 16 (Nat.le_refl _) j hj
    rw [if_pos hj, List.getD_eq_getElem?_getD, List.getElem?_eq_getElem (by rw [bothTo_len]; omega)] at h1
    rw [List.getElem?_eq_getElem (by rw [bothTo_len]; omega), List.getElem?_zipWith, List.getElem?_eq_getElem (by omega), List.getElem?_eq_getElem (by omega)]
    simp only [Option.getD_some] at h1
    rw [h1, List.getD_eq_getElem?_getD, List.getD_eq_getElem?_getD, List.getElem?_eq_getElem (by omega), List.getElem?_eq_getElem (by omega)]
    rfl
  · rw [List.getElem?_eq_none (by rw [bothTo_len]; omega), List.getElem?_eq_none (by simp; omega)]
/-- A call of that function enters it. -/
def Enters (f : FuncId) : Prop := ∀ (args : Array Value) (w : World), (callFunc f args).run Try.prog w = .ok (.enter f args) w
theorem enters_join : Enters 28 := fun _ _ => rfl
theorem enters_more : Enters 29 := fun _ _ => rfl
set_option maxRecDepth 100000 in
set_option maxHeartbeats 2000000 in
theorem both_any (f : FuncId) (h : Int → Int → Int) (hf : Fun2 f h) (hen : Enters f) (l m : List Int) (w : World) (hl : l.length = 16) (hm : m.length = 16) :
    Calls Try.prog 27 #[.agg (tc l), .agg (tc m), .func (.func f) #[] #[]] w fun e w' => e = .returned (.agg (tc (bothL h l m))) ∧ Below w.heap.size w w' := by
  have HF := Lib.hid hf
  have HEN := Lib.hid hen
  clear hen
  have HS := Lib.hid (show (tc l).size = 16 by rw [tc_size, hl])
  have HM := Lib.hid (show (tc m).size = 16 by rw [tc_size, hm])
  have HSo := Lib.hid (show (tc (ownL l)).size = 16 by rw [tc_size, own_len hl])
  have HMo := Lib.hid (show (tc (ownL m)).size = 16 by rw [tc_size, own_len hm])
  have HL := Lib.hid hl
  have HLM := Lib.hid hm
  clear hf hl hm
  go_enter Try.func27, Try.ntmps27
  go_upto_region 1 with fail
  refine nameW ?_
  intro wv hwv
  obtain ⟨g, hg⟩ : ∃ g, g = w.heap.size := ⟨_, rfl⟩
  rw [← hg]
  have k0 : Blk wv g 26 (tc l) := by rw [hwv, hg]; exact ((Blk.new w _ _).alloc _).alloc _
  have k1 : Blk wv (g + 1) 26 (tc m) := by
    have h := (Blk.new (w.alloc (.cells (tc l) 26)) 26 (tc m)).alloc (.cells (tc zero) 26)
    rw [zero_tc] at h
    rw [hwv, hg]
    simpa using h
  have k2 : Blk wv (g + 2) 26 (tc zero) := by
    have h := Blk.new ((w.alloc (.cells (tc l) 26)).alloc (.cells (tc m) 26)) 26 (tc zero)
    rw [zero_tc] at h
    rw [zero_tc, hwv, hg]
    simpa using h
  have hb : Below w.heap.size w wv := by rw [hwv]; exact (((Below.refl _ _).alloc (Nat.le_refl _) _).alloc (by simp) _).alloc (by simp; omega) _
  have hgw : w.heap.size ≤ g := by omega
  clear hwv hg
  have k0d : Blk wv.drew g 26 (tc l) := k0
  have k1d : Blk wv.drew (g + 1) 26 (tc m) := k1
  have k2d : Blk wv.drew (g + 2) 26 (tc zero) := k2
  have hbd := hb.drew
  clear k0 k1 k2 hb
  go_cut [3] (fun s wx => s = .pointer (some ⟨g, 0, none⟩) ∧ Blk wx g 26 (tc (ownL l)) ∧ Blk wx (g + 1) 26 (tc (ownL m)) ∧ Blk wx (g + 2) 26 (tc zero) ∧ Below w.heap.size w wx)
  case first =>
    refine wp_region_any (by kernel_rfl) ?_
    try (change wpAny _ _ _ _ _ _ _ (World.drew _))
    refine wpAny_ready (rs := [0, 2]) (by kernel_rfl) (by simp) ?_
    refine AllReady.cons rfl (fun K hK => ?_) (AllReady.cons rfl (fun K hK => ?_) AllReady.nil)
    · refine step_ld rfl rowT (.tmp 3) rfl (by rfl) k0d HS.out ?_
      refine hK _ _ ?_
      clear hK K
      refine wpAny_ready (rs := [1, 2]) (by kernel_rfl) (by simp) ?_
      refine AllReady.cons rfl (fun K hK => ?_) (AllReady.cons rfl (fun K hK => ?_) AllReady.nil)
      · go_simp
        refine (own_any l _ HL.out).mono ?_
        rintro e w1 ⟨rfl, h1⟩
        have k0a := k0d.below h1 k0d.lt
        have k1a := k1d.below h1 k1d.lt
        have k2a := k2d.below h1 k2d.lt
        have b1 := hbd.trans (h1.mono hbd.size)
        refine hK _ _ ?_
        clear hK K
        refine wpAny_ready (rs := [2]) (by kernel_rfl) (by simp) ?_
        refine AllReady.cons rfl (fun K hK => ?_) AllReady.nil
        refine step_ld rfl rowT (.tmp 4) rfl (by rfl) k1a HM.out ?_
        refine hK _ _ ?_
        clear hK K
        refine wpAny_ready (rs := [3]) (by kernel_rfl) (by simp) ?_
        refine AllReady.cons rfl (fun K hK => ?_) AllReady.nil
        go_simp
        refine (own_any m _ HLM.out).mono ?_
        rintro e w2 ⟨rfl, h2⟩
        have k0b := k0a.below h2 k0a.lt
        have k1b := k1a.below h2 k1a.lt
        have k2b := k2a.below h2 k2a.lt
        have b2 := b1.trans (h2.mono b1.size)
        refine hK _ _ ?_
        clear hK K
        refine wpAny_ready (rs := [4]) (by kernel_rfl) (by simp) ?_
        refine AllReady.cons rfl (fun K hK => ?_) AllReady.nil
        refine step_st rfl rowT (.tmp 3) (.tmp 11) rfl (by rfl) (by rfl) k0b HSo.out HS.out (tc_one _) ?_
        intro w3 k03 g3 z3
        have k13 := k1b.grown g3 (by simp)
        have k23 := k2b.grown g3 (by simp)
        have b3 := b2.grown g3 b2.size (fun q hq => by injection hq; omega)
        refine hK _ _ ?_
        clear hK K
        refine wpAny_ready (rs := [5]) (by kernel_rfl) (by simp) ?_
        refine AllReady.cons rfl (fun K hK => ?_) AllReady.nil
        refine step_st rfl rowT (.tmp 4) (.tmp 13) rfl (by rfl) (by rfl) k13 HMo.out HM.out (tc_one _) ?_
        intro w4 k14 g4 z4
        have k04 := k03.grown g4 (by simp)
        have k24 := k23.grown g4 (by simp)
        have b4 := b3.grown g4 b3.size (fun q hq => by injection hq; omega)
        refine hK _ _ ?_
        clear hK K
        refine wpAny_done (by kernel_rfl) ?_ _
        go_wp2_with fail
        go_meet
        exact ⟨rfl, k04, k14, k24, b4⟩
      · refine step_ld rfl rowT (.tmp 4) rfl (by rfl) k1d HM.out ?_
        refine hK _ _ ?_
        clear hK K
        refine wpAny_ready (rs := [1]) (by kernel_rfl) (by simp) ?_
        refine AllReady.cons rfl (fun K hK => ?_) AllReady.nil
        go_simp
        refine (own_any l _ HL.out).mono ?_
        rintro e w1 ⟨rfl, h1⟩
        have k0a := k0d.below h1 k0d.lt
        have k1a := k1d.below h1 k1d.lt
        have k2a := k2d.below h1 k2d.lt
        have b1 := hbd.trans (h1.mono hbd.size)
        refine hK _ _ ?_
        clear hK K
        refine wpAny_ready (rs := [3]) (by kernel_rfl) (by simp) ?_
        refine AllReady.cons rfl (fun K hK => ?_) AllReady.nil
        go_simp
        refine (own_any m _ HLM.out).mono ?_
        rintro e w2 ⟨rfl, h2⟩
        have k0b := k0a.below h2 k0a.lt
        have k1b := k1a.below h2 k1a.lt
        have k2b := k2a.below h2 k2a.lt
        have b2 := b1.trans (h2.mono b1.size)
        refine hK _ _ ?_
        clear hK K
        refine wpAny_ready (rs := [4]) (by kernel_rfl) (by simp) ?_
        refine AllReady.cons rfl (fun K hK => ?_) AllReady.nil
        refine step_st rfl rowT (.tmp 3) (.tmp 11) rfl (by rfl) (by rfl) k0b HSo.out HS.out (tc_one _) ?_
        intro w3 k03 g3 z3
        have k13 := k1b.grown g3 (by simp)
        have k23 := k2b.grown g3 (by simp)
        have b3 := b2.grown g3 b2.size (fun q hq => by injection hq; omega)
        refine hK _ _ ?_
        clear hK K
        refine wpAny_ready (rs := [5]) (by kernel_rfl) (by simp) ?_
        refine AllReady.cons rfl (fun K hK => ?_) AllReady.nil
        refine step_st rfl rowT (.tmp 4) (.tmp 13) rfl (by rfl) (by rfl) k13 HMo.out HM.out (tc_one _) ?_
        intro w4 k14 g4 z4
        have k04 := k03.grown g4 (by simp)
        have k24 := k23.grown g4 (by simp)
        have b4 := b3.grown g4 b3.size (fun q hq => by injection hq; omega)
        refine hK _ _ ?_
        clear hK K
        refine wpAny_done (by kernel_rfl) ?_ _
        go_wp2_with fail
        go_meet
        exact ⟨rfl, k04, k14, k24, b4⟩
    · refine step_ld rfl rowT (.tmp 4) rfl (by rfl) k1d HM.out ?_
      refine hK _ _ ?_
      clear hK K
      refine wpAny_ready (rs := [0]) (by kernel_rfl) (by simp) ?_
      refine AllReady.cons rfl (fun K hK => ?_) AllReady.nil
      refine step_ld rfl rowT (.tmp 3) rfl (by rfl) k0d HS.out ?_
      refine hK _ _ ?_
      clear hK K
      refine wpAny_ready (rs := [1]) (by kernel_rfl) (by simp) ?_
      refine AllReady.cons rfl (fun K hK => ?_) AllReady.nil
      go_simp
      refine (own_any l _ HL.out).mono ?_
      rintro e w1 ⟨rfl, h1⟩
      have k0a := k0d.below h1 k0d.lt
      have k1a := k1d.below h1 k1d.lt
      have k2a := k2d.below h1 k2d.lt
      have b1 := hbd.trans (h1.mono hbd.size)
      refine hK _ _ ?_
      clear hK K
      refine wpAny_ready (rs := [3]) (by kernel_rfl) (by simp) ?_
      refine AllReady.cons rfl (fun K hK => ?_) AllReady.nil
      go_simp
      refine (own_any m _ HLM.out).mono ?_
      rintro e w2 ⟨rfl, h2⟩
      have k0b := k0a.below h2 k0a.lt
      have k1b := k1a.below h2 k1a.lt
      have k2b := k2a.below h2 k2a.lt
      have b2 := b1.trans (h2.mono b1.size)
      refine hK _ _ ?_
      clear hK K
      refine wpAny_ready (rs := [4]) (by kernel_rfl) (by simp) ?_
      refine AllReady.cons rfl (fun K hK => ?_) AllReady.nil
      refine step_st rfl rowT (.tmp 3) (.tmp 11) rfl (by rfl) (by rfl) k0b HSo.out HS.out (tc_one _) ?_
      intro w3 k03 g3 z3
      have k13 := k1b.grown g3 (by simp)
      have k23 := k2b.grown g3 (by simp)
      have b3 := b2.grown g3 b2.size (fun q hq => by injection hq; omega)
      refine hK _ _ ?_
      clear hK K
      refine wpAny_ready (rs := [5]) (by kernel_rfl) (by simp) ?_
      refine AllReady.cons rfl (fun K hK => ?_) AllReady.nil
      refine step_st rfl rowT (.tmp 4) (.tmp 13) rfl (by rfl) (by rfl) k13 HMo.out HM.out (tc_one _) ?_
      intro w4 k14 g4 z4
      have k04 := k03.grown g4 (by simp)
      have k24 := k23.grown g4 (by simp)
      have b4 := b3.grown g4 b3.size (fun q hq => by injection hq; omega)
      refine hK _ _ ?_
      clear hK K
      refine wpAny_done (by kernel_rfl) ?_ _
      go_wp2_with fail
      go_meet
      exact ⟨rfl, k04, k14, k24, b4⟩
  case rest =>
    obtain ⟨rfl, k0, k1, k2, b0⟩ := hcut
    clear k0d k1d k2d hbd
    have hbo : bothL h l m = List.zipWith h (ownL l) (ownL m) := rfl
    have HBO := Lib.hid hbo
    have HOL := Lib.hid (own_len HL.out)
    have HOM := Lib.hid (own_len HLM.out)
    clear hbo
    generalize ownL l = x at *
    generalize ownL m = y at *
    go_wp2_with fail
    refine (cells_any (g + 1) _).mono ?_
    rintro e w5 ⟨A1, c1, rfl, o1, h5⟩
    have k05 := k0.below h5 k0.lt
    have k15 := k1.below h5 k1.lt
    have k25 := k2.below h5 k2.lt
    have b5 := b0.trans (h5.mono b0.size)
    clear k0 k1 k2 h5
    go_wp2_with fail
    refine (cells_any g _).mono ?_
    rintro e w6 ⟨A2, c2, rfl, o2, h6⟩
    have o1b := o1.kept (row := none) ⟨h6.os, h6.tape, h6.output, h6.size, fun k hk _ => h6.block k hk⟩ (by
      rcases o1.2 with ⟨e, _⟩ | ⟨q, cap, cur, e, _⟩
      · rw [e]; exact .inl rfl
      · rw [e]; exact .inr (by simp [Value.ownBlock]))
    have k06 := k05.below h6 k05.lt
    have k16 := k15.below h6 k15.lt
    have k26 := k25.below h6 k25.lt
    have b6 := b5.trans (h6.mono b5.size)
    have s5 : w.heap.size ≤ w5.heap.size := b5.size
    clear k05 k15 k25 h6 b5 o1 b0
    have hfun : ∀ (x y : Int) (w : World), Calls Try.prog f #[.int .i64 x, .int .i64 y] w fun e w' => e = .returned (.int .i64 (h x y)) ∧ w = w' := HF.out
    have HFUN := Lib.hid hfun
    have hen : ∀ (args : Array Value) (w : World), (callFunc f args).run Try.prog w = .ok (.enter f args) w := HEN.out
    clear hfun HF
    go_wp2_with fail
    go_loopw [17] (fun i wr => ∃ k : Nat, k ≤ 16 ∧ i = .int .i64 k ∧ Blk wr g 26 (tc (bothTo h x y k)) ∧ Blk wr (g + 1) 26 (tc y) ∧ Blk wr (g + 2) 26 (tc zero) ∧ wr.ownsRow wc.heap.size 53 1 (.slice A1 16 c1) 16 (ptrs (g + 1) 16) ∧ wr.ownsRow w5.heap.size 53 1 (.slice A2 16 c2) 16 (ptrs g 16) ∧ Below w.heap.size w wr) (fun i _ => 16 - (intOf i).toNat)
    case atStart => exact ⟨0, by omega, rfl, k06, k16, k26, o1b, o2, b6⟩
    case round =>
      clear k06 k16 k26 o1b o2 b6
      obtain ⟨k, hk, rfl, k0, k1, k2, o1, o2, b0⟩ := hrel
      by_cases hlt : k < 16
      · obtain ⟨q1, rfl, hq1, _, p1⟩ := ptr_at o1 hlt
        obtain ⟨q2, rfl, hq2, _, p2⟩ := ptr_at o2 hlt
        have hok := ord_lt hlt
        have hlen := bothTo_len h x y k
        have e1 := k0.tcell (i := ord k) (by rw [hlen, HOL.out]; exact hok)
        have hat := bothTo_at h x y HOL.out k (by omega) k hlt
        rw [if_neg (by omega)] at hat
        rw [hat] at e1
        have e2 := k1.tcell (i := ord k) (by rw [HOM.out]; exact hok)
        have e3 := k0.free (ord k)
        have hst : bothTo h x y (k + 1) = (bothTo h x y k).set (ord k) (h (x.getD (ord k) 0) (y.getD (ord k) 0)) := rfl
        generalize x.getD (ord k) 0 = u at *
        generalize y.getD (ord k) 0 = v at *
        have hk0 : (0 : Int) ≤ (k : Int) := by omega
        have hk1 : (k : Int) < 16 := by omega
        have K0 : Blk (wr.setCell ⟨g, ord k, none⟩ (.int .i64 (h u v))) g 26 (tc (bothTo h x y (k + 1))) := by
          have := k0.set_ (ord k) (.int .i64 (h u v))
          rwa [tc_set, ← hst] at this
        have K1 : Blk (wr.setCell ⟨g, ord k, none⟩ (.int .i64 (h u v))) (g + 1) 26 (tc y) := k1.far (p := ⟨g, ord k, none⟩) (by simp) _
        have K2 : Blk (wr.setCell ⟨g, ord k, none⟩ (.int .i64 (h u v))) (g + 2) 26 (tc zero) := k2.far (p := ⟨g, ord k, none⟩) (by simp) _
        have n1 := own_ne o1 k0 (by decide)
        have n2 := own_ne o2 k0 (by decide)
        have O1 := ownsRow_setCell_other o1 (a := ⟨g, ord k, none⟩) (by simpa [Value.ownBlock] using n1) (.int .i64 (h u v))
        have O2 := ownsRow_setCell_other o2 (a := ⟨g, ord k, none⟩) (by simpa [Value.ownBlock] using n2) (.int .i64 (h u v))
        have B0 : Below w.heap.size w (wr.setCell ⟨g, ord k, none⟩ (.int .i64 (h u v))) := b0.setCell hgw _
        have HK := Lib.hid (And.intro K0 (And.intro K1 (And.intro K2 (And.intro O1 (And.intro O2 B0)))))
        clear K0 K1 K2 O1 O2 B0 n1 n2 hst hat hlen k0 k1 k2 o1 o2 b0
        go_wp2_with fail
        go_region_with ((with_reducible refine (HFUN.out _ _ _).mono ?_); rintro e w' ⟨rfl, rfl⟩)
        all_goals
          go_wp2_with fail
          go_roundw
          case rel => exact ⟨k + 1, by omega, by go_num, HK.out.1, HK.out.2.1, HK.out.2.2.1, HK.out.2.2.2.1, HK.out.2.2.2.2.1, HK.out.2.2.2.2.2.drew⟩
          case measure => simp [intOf]; omega
      · obtain rfl : k = 16 := by omega
        have hbo := bothTo_all h x y HOL.out HOM.out
        rw [hbo] at k0
        have HZ := Lib.hid (show (tc (List.zipWith h x y)).size = 16 by rw [tc_size, List.length_zipWith, HOL.out, HOM.out]; rfl)
        have H1 := Lib.hid (tc_one (List.zipWith h x y))
        clear hbo o1 o2 k1
        generalize List.zipWith h x y = z at *
        go_wp2_with (first
          | ((with_reducible refine wpList_ld rowT k0 HZ.out ?_ ?_); rotate_left; (rfl))
          | ((with_reducible refine wpList_st rowT k2 HZ.out zero_size H1.out ?_ ?_ ?_); rotate_left; (rfl); (rfl); intro w7 k7 g7 z7))
        have b7 := b0.grown g7 b0.size (fun q hq => by injection hq; omega)
        exact bodyPost_ret (v := .agg (tc z)) (results_blk rfl rowT k7 HZ.out rfl) rfl ⟨by rw [HBO.out], b7⟩
end Go.Proofs.Ytoepklcmdmeanaa
