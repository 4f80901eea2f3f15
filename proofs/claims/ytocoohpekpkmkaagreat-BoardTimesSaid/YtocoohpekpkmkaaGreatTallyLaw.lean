/- Plain laws of joins and counts. -/
import Derived.Test.YtocoohpekpkmkaaGreatTallyAdd
import Derived.Test.YtocoohpekpkmkaaGreatTallyWalks
/- The walks of tally: both, Join, More, Within. -/
namespace Go.Proofs.YtocoohpekpkmkaaGreat
set_option linter.unusedVariables false
set_option linter.unusedSimpArgs false
open Go.RowKit
open Tally
/-- A function of two ints, in this program. -/
def Fun2 (f : FuncId) (h : Int → Int → Int) : Prop := ∀ (x y : Int) (w : World), Calls Tryz.prog f #[.int .i64 x, .int .i64 y] w fun e w' => e = .returned (.int .i64 (h x y)) ∧ w = w'
theorem join1 : Fun2 84 mx := by
  intro x y w
  unfold mx
  by_cases h : x < y
  · rw [if_pos h]
    go_enter Tryz.func84, Tryz.ntmps84
    go_wp2_with fail
    go_ret
    exact ⟨rfl, rfl⟩
  · rw [if_neg h]
    go_enter Tryz.func84, Tryz.ntmps84
    go_wp2_with fail
    go_ret
    exact ⟨rfl, rfl⟩
/-- the first k of two tallies' numbers, in the order of 'ord', brought together -/
def bothTo (h : Int → Int → Int) (a b : List Int) : Nat → List Int
  | 0 => a
  | k + 1 => (bothTo h a b k).set (ord k) (h (a.getD (ord k) 0) (b.getD (ord k) 0))
theorem bothTo_len (h : Int → Int → Int) (a b : List Int) (k : Nat) : (bothTo h a b k).length = a.length := by
  induction k with
  | zero => rfl
  | succ k ih => simp [bothTo, ih]
theorem bothTo_at (h : Int → Int → Int) (a b : List Int) (ha : a.length = 16) (k : Nat) (hk : k ≤ 16) (j : Nat) (hj : j < 16) : (bothTo h a b k).getD (ord j) 0 = if j < k then h (a.getD (ord j) 0) (b.getD (ord j) 0) else a.getD (ord j) 0 := by
  induction k with
  | zero => simp [bothTo]
  | succ k ih =>
    have hl := bothTo_len h a b k
    have hok := ord_lt (show k < 16 by omega)
    rw [bothTo, List.getD_eq_getElem?_getD]
    by_cases e : j = k
    · subst e
      rw [List.getElem?_set_self (by omega), if_pos (by omega)]; rfl
    · rw [List.getElem?_set_ne (fun h => e (ord_inj hj (by omega) h.symm)), ← List.getD_eq_getElem?_getD, ih (by omega)]
      by_cases h1 : j < k
      · rw [if_pos h1, if_pos (by omega)]
      · rw [if_neg h1, if_neg (by omega)]
theorem bothTo_all (h : Int → Int → Int) (a b : List Int) (ha : a.length = 16) (hb : b.length = 16) : bothTo h a b 16 = List.zipWith h a b := by
  apply List.ext_getElem?
  intro i
  by_cases hi : i < 16
  · obtain ⟨j, hj, rfl⟩ := ord_onto hi
    have h1 := bothTo_at h a b ha 16 (Nat.le_refl _) j hj
    rw [if_pos hj, List.getD_eq_getElem?_getD, List.getElem?_eq_getElem (by rw [bothTo_len]; omega)] at h1
    rw [List.getElem?_eq_getElem (by rw [bothTo_len]; omega), List.getElem?_zipWith, List.getElem?_eq_getElem (by omega), List.getElem?_eq_getElem (by omega)]
    simp only [Option.getD_some] at h1
    rw [h1, List.getD_eq_getElem?_getD, List.getD_eq_getElem?_getD, List.getElem?_eq_getElem (by omega), List.getElem?_eq_getElem (by omega)]
    rfl
  · rw [List.getElem?_eq_none (by rw [bothTo_len]; omega), List.getElem?_eq_none (by simp; omega)]
/-- A call of that function enters it. -/
def Enters (f : FuncId) : Prop := ∀ (args : Array Value) (w : World), (callFunc f args).run Tryz.prog w = .ok (.enter f args) w
set_option maxRecDepth 100000 in
theorem enters_join : Enters 84 := fun _ _ => rfl
set_option maxRecDepth 100000 in
set_option maxHeartbeats 2000000 in
theorem both_any (f : FuncId) (h : Int → Int → Int) (hf : Fun2 f h) (hen : Enters f) (l m : List Int) (w : World) (hl : l.length = 16) (hm : m.length = 16) :
    Calls Tryz.prog 83 #[.agg (tc l), .agg (tc m), .func (.func f) #[] #[]] w fun e w' => e = .returned (.agg (tc (bothL h l m))) ∧ Below w.heap.size w w' := by
  have HF := Lib.hid hf
  have HEN := Lib.hid hen
  clear hen
  have HS := Lib.hid (show (tc l).size = 16 by rw [tc_size, hl])
  have HM := Lib.hid (show (tc m).size = 16 by rw [tc_size, hm])
  have HSo := Lib.hid (show (tc (ownL l)).size = 16 by rw [tc_size, own_len hl])
  have HMo := Lib.hid (show (tc (ownL m)).size = 16 by rw [tc_size, own_len hm])
  have HL := Lib.hid hl
  have HLM := Lib.hid hm
  clear hf hl hm
  go_enter Tryz.func83, Tryz.ntmps83
  go_upto_region 1 with fail
  refine nameW ?_
  intro wv hwv
  obtain ⟨g, hg⟩ : ∃ g, g = w.heap.size := ⟨_, rfl⟩
  rw [← hg]
  have k0 : Blk wv g 34 (tc l) := by rw [hwv, hg]; exact ((Blk.new w _ _).alloc _).alloc _
  have k1 : Blk wv (g + 1) 34 (tc m) := by
    have h := (Blk.new (w.alloc (.cells (tc l) 34)) 34 (tc m)).alloc (.cells (tc zero) 34)
    rw [zero_tc] at h
    rw [hwv, hg]
    simpa using h
  have k2 : Blk wv (g + 2) 34 (tc zero) := by
    have h := Blk.new ((w.alloc (.cells (tc l) 34)).alloc (.cells (tc m) 34)) 34 (tc zero)
    rw [zero_tc] at h
    rw [zero_tc, hwv, hg]
    simpa using h
  have hb : Below w.heap.size w wv := by rw [hwv]; exact (((Below.refl _ _).alloc (Nat.le_refl _) _).alloc (by simp) _).alloc (by simp; omega) _
  have hgw : w.heap.size ≤ g := by omega
  clear hwv hg
  have k0d : Blk wv.drew g 34 (tc l) := k0
  have k1d : Blk wv.drew (g + 1) 34 (tc m) := k1
  have k2d : Blk wv.drew (g + 2) 34 (tc zero) := k2
  have hbd := hb.drew
  clear k0 k1 k2 hb
  go_cut [3] (fun s wx => s = .pointer (some ⟨g, 0, none⟩) ∧ Blk wx g 34 (tc (ownL l)) ∧ Blk wx (g + 1) 34 (tc (ownL m)) ∧ Blk wx (g + 2) 34 (tc zero) ∧ Below w.heap.size w wx)
  case first =>
    refine wp_region_any (by kernel_rfl) ?_
    try (change wpAny _ _ _ _ _ _ _ (World.drew _))
    refine wpAny_ready (rs := [0, 2]) (by kernel_rfl) (by simp) ?_
    refine AllReady.cons rfl (fun K hK => ?_) (AllReady.cons rfl (fun K hK => ?_) AllReady.nil)
    · refine step_ld rfl rowT (.tmp 3) rfl (by rfl) k0d HS.out ?_
      refine hK _ _ ?_
      clear hK K
      refine wpAny_ready (rs := [1, 2]) (by kernel_rfl) (by simp) ?_
      refine AllReady.cons rfl (fun K hK => ?_) (AllReady.cons rfl (fun K hK => ?_) AllReady.nil)
      · go_simp
        refine (own_any l _ HL.out).mono ?_
        rintro e w1 ⟨rfl, h1⟩
        have k0a := k0d.below h1 k0d.lt
        have k1a := k1d.below h1 k1d.lt
        have k2a := k2d.below h1 k2d.lt
        have b1 := hbd.trans (h1.mono hbd.size)
        refine hK _ _ ?_
        clear hK K
        refine wpAny_ready (rs := [2]) (by kernel_rfl) (by simp) ?_
        refine AllReady.cons rfl (fun K hK => ?_) AllReady.nil
        refine step_ld rfl rowT (.tmp 4) rfl (by rfl) k1a HM.out ?_
        refine hK _ _ ?_
        clear hK K
        refine wpAny_ready (rs := [3]) (by kernel_rfl) (by simp) ?_
        refine AllReady.cons rfl (fun K hK => ?_) AllReady.nil
        go_simp
        refine (own_any m _ HLM.out).mono ?_
        rintro e w2 ⟨rfl, h2⟩
        have k0b := k0a.below h2 k0a.lt
        have k1b := k1a.below h2 k1a.lt
        have k2b := k2a.below h2 k2a.lt
        have b2 := b1.trans (h2.mono b1.size)
        refine hK _ _ ?_
        clear hK K
        refine wpAny_ready (rs := [4]) (by kernel_rfl) (by simp) ?_
        refine AllReady.cons rfl (fun K hK => ?_) AllReady.nil
        refine step_st rfl rowT (.tmp 3) (.tmp 11) rfl (by rfl) (by rfl) k0b HSo.out HS.out (tc_one _) ?_
        intro w3 k03 g3 z3
        have k13 := k1b.grown g3 (by simp)
        have k23 := k2b.grown g3 (by simp)
        have b3 := b2.grown g3 b2.size (fun q hq => by injection hq; omega)
        refine hK _ _ ?_
        clear hK K
        refine wpAny_ready (rs := [5]) (by kernel_rfl) (by simp) ?_
        refine AllReady.cons rfl (fun K hK => ?_) AllReady.nil
        refine step_st rfl rowT (.tmp 4) (.tmp 13) rfl (by rfl) (by rfl) k13 HMo.out HM.out (tc_one _) ?_
        intro w4 k14 g4 z4
        have k04 := k03.grown g4 (by simp)
        have k24 := k23.grown g4 (by simp)
        have b4 := b3.grown g4 b3.size (fun q hq => by injection hq; omega)
        refine hK _ _ ?_
        clear hK K
        refine wpAny_done (by kernel_rfl) ?_ _
        go_wp2_with fail
        go_meet
        exact ⟨rfl, k04, k14, k24, b4⟩
      · refine step_ld rfl rowT (.tmp 4) rfl (by rfl) k1d HM.out ?_
        refine hK _ _ ?_
        clear hK K
        refine wpAny_ready (rs := [1]) (by kernel_rfl) (by simp) ?_
        refine AllReady.cons rfl (fun K hK => ?_) AllReady.nil
        go_simp
        refine (own_any l _ HL.out).mono ?_
        rintro e w1 ⟨rfl, h1⟩
        have k0a := k0d.below h1 k0d.lt
        have k1a := k1d.below h1 k1d.lt
        have k2a := k2d.below h1 k2d.lt
        have b1 := hbd.trans (h1.mono hbd.size)
        refine hK _ _ ?_
        clear hK K
        refine wpAny_ready (rs := [3]) (by kernel_rfl) (by simp) ?_
        refine AllReady.cons rfl (fun K hK => ?_) AllReady.nil
        go_simp
        refine (own_any m _ HLM.out).mono ?_
        rintro e w2 ⟨rfl, h2⟩
        have k0b := k0a.below h2 k0a.lt
        have k1b := k1a.below h2 k1a.lt
        have k2b := k2a.below h2 k2a.lt
        have b2 := b1.trans (h2.mono b1.size)
        refine hK _ _ ?_
        clear hK K
        refine wpAny_ready (rs := [4]) (by kernel_rfl) (by simp) ?_
        refine AllReady.cons rfl (fun K hK => ?_) AllReady.nil
        refine step_st rfl rowT (.tmp 3) (.tmp 11) rfl (by rfl) (by rfl) k0b HSo.out HS.out (tc_one _) ?_
        intro w3 k03 g3 z3
        have k13 := k1b.grown g3 (by simp)
        have k23 := k2b.grown g3 (by simp)
        have b3 := b2.grown g3 b2.size (fun q hq => by injection hq; omega)
        refine hK _ _ ?_
        clear hK K
        refine wpAny_ready (rs := [5]) (by kernel_rfl) (by simp) ?_
        refine AllReady.cons rfl (fun K hK => ?_) AllReady.nil
        refine step_st rfl rowT (.tmp 4) (.tmp 13) rfl (by rfl) (by rfl) k13 HMo.out HM.out (tc_one _) ?_
        intro w4 k14 g4 z4
        have k04 := k03.grown g4 (by simp)
        have k24 := k23.grown g4 (by simp)
        have b4 := b3.grown g4 b3.size (fun q hq => by injection hq; omega)
        refine hK _ _ ?_
        clear hK K
        refine wpAny_done (by kernel_rfl) ?_ _
        go_wp2_with fail
        go_meet
        exact ⟨rfl, k04, k14, k24, b4⟩
    · refine step_ld rfl rowT (.tmp 4) rfl (by rfl) k1d HM.out ?_
      refine hK _ _ ?_
      clear hK K
      refine wpAny_ready (rs := [0]) (by kernel_rfl) (by simp) ?_
      refine AllReady.cons rfl (fun K hK => ?_) AllReady.nil
      refine step_ld rfl rowT (.tmp 3) rfl (by rfl) k0d HS.out ?_
      refine hK _ _ ?_
      clear hK K
      refine wpAny_ready (rs := [1]) (by kernel_rfl) (by simp) ?_
      refine AllReady.cons rfl (fun K hK => ?_) AllReady.nil
      go_simp
      refine (own_any l _ HL.out).mono ?_
      rintro e w1 ⟨rfl, h1⟩
      have k0a := k0d.below h1 k0d.lt
      have k1a := k1d.below h1 k1d.lt
      have k2a := k2d.below h1 k2d.lt
      have b1 := hbd.trans (h1.mono hbd.size)
      refine hK _ _ ?_
      clear hK K
      refine wpAny_ready (rs := [3]) (by kernel_rfl) (by simp) ?_
      refine AllReady.cons rfl (fun K hK => ?_) AllReady.nil
      go_simp
      refine (own_any m _ HLM.out).mono ?_
      rintro e w2 ⟨rfl, h2⟩
      have k0b := k0a.below h2 k0a.lt
      have k1b := k1a.below h2 k1a.lt
      have k2b := k2a.below h2 k2a.lt
      have b2 := b1.trans (h2.mono b1.size)
      refine hK _ _ ?_
      clear hK K
      refine wpAny_ready (rs := [4]) (by kernel_rfl) (by simp) ?_
      refine AllReady.cons rfl (fun K hK => ?_) AllReady.nil
      refine step_st rfl rowT (.tmp 3) (.tmp 11) rfl (by rfl) (by rfl) k0b HSo.out HS.out (tc_one _) ?_
      intro w3 k03 g3 z3
      have k13 := k1b.grown g3 (by simp)
      have k23 := k2b.grown g3 (by simp)
      have b3 := b2.grown g3 b2.size (fun q hq => by injection hq; omega)
      refine hK _ _ ?_
      clear hK K
      refine wpAny_ready (rs := [5]) (by kernel_rfl) (by simp) ?_
      refine AllReady.cons rfl (fun K hK => ?_) AllReady.nil
      refine step_st rfl rowT (.tmp 4) (.tmp 13) rfl (by rfl) (by rfl) k13 HMo.out HM.out (tc_one _) ?_
      intro w4 k14 g4 z4
      have k04 := k03.grown g4 (by simp)
      have k24 := k23.grown g4 (by simp)
      have b4 := b3.grown g4 b3.size (fun q hq => by injection hq; omega)
      refine hK _ _ ?_
      clear hK K
      refine wpAny_done (by kernel_rfl) ?_ _
      go_wp2_with fail
      go_meet
      exact ⟨rfl, k04, k14, k24, b4⟩
  case rest =>
    obtain ⟨rfl, k0, k1, k2, b0⟩ := hcut
    clear k0d k1d k2d hbd
    have hbo : bothL h l m = List.zipWith h (ownL l) (ownL m) := rfl
    have HBO := Lib.hid hbo
    have HOL := Lib.hid (own_len HL.out)
    have HOM := Lib.hid (own_len HLM.out)
    clear hbo
    generalize ownL l = x at *
    generalize ownL m = y at *
    go_wp2_with fail
    refine (cells_any (g + 1) _).mono ?_
    rintro e w5 ⟨A1, c1, rfl, o1, h5⟩
    have k05 := k0.below h5 k0.lt
    have k15 := k1.below h5 k1.lt
    have k25 := k2.below h5 k2.lt
    have b5 := b0.trans (h5.mono b0.size)
    clear k0 k1 k2 h5
    go_wp2_with fail
    refine (cells_any g _).mono ?_
    rintro e w6 ⟨A2, c2, rfl, o2, h6⟩
    have o1b := o1.kept (row := none) ⟨h6.os, h6.tape, h6.output, h6.size, fun k hk _ => h6.block k hk⟩ (by
      rcases o1.2 with ⟨e, _⟩ | ⟨q, cap, cur, e, _⟩
      · rw [e]; exact .inl rfl
      · rw [e]; exact .inr (by simp [Value.ownBlock]))
    have k06 := k05.below h6 k05.lt
    have k16 := k15.below h6 k15.lt
    have k26 := k25.below h6 k25.lt
    have b6 := b5.trans (h6.mono b5.size)
    have s5 : w.heap.size ≤ w5.heap.size := b5.size
    clear k05 k15 k25 h6 b5 o1 b0
    have hfun : ∀ (x y : Int) (w : World), Calls Tryz.prog f #[.int .i64 x, .int .i64 y] w fun e w' => e = .returned (.int .i64 (h x y)) ∧ w = w' := HF.out
    have HFUN := Lib.hid hfun
    have hen : ∀ (args : Array Value) (w : World), (callFunc f args).run Tryz.prog w = .ok (.enter f args) w := HEN.out
    clear hfun HF
    go_wp2_with fail
    go_loopw [17] (fun i wr => ∃ k : Nat, k ≤ 16 ∧ i = .int .i64 k ∧ Blk wr g 34 (tc (bothTo h x y k)) ∧ Blk wr (g + 1) 34 (tc y) ∧ Blk wr (g + 2) 34 (tc zero) ∧ wr.ownsRow wc.heap.size 131 1 (.slice A1 16 c1) 16 (ptrs (g + 1) 16) ∧ wr.ownsRow w5.heap.size 131 1 (.slice A2 16 c2) 16 (ptrs g 16) ∧ Below w.heap.size w wr) (fun i _ => 16 - (intOf i).toNat)
    case atStart => exact ⟨0, by omega, rfl, k06, k16, k26, o1b, o2, b6⟩
    case round =>
      clear k06 k16 k26 o1b o2 b6
      obtain ⟨k, hk, rfl, k0, k1, k2, o1, o2, b0⟩ := hrel
      by_cases hlt : k < 16
      · obtain ⟨q1, rfl, hq1, _, p1⟩ := ptr_at o1 hlt
        obtain ⟨q2, rfl, hq2, _, p2⟩ := ptr_at o2 hlt
        have hok := ord_lt hlt
        have hlen := bothTo_len h x y k
        have e1 := k0.tcell (i := ord k) (by rw [hlen, HOL.out]; exact hok)
        have hat := bothTo_at h x y HOL.out k (by omega) k hlt
        rw [if_neg (by omega)] at hat
        rw [hat] at e1
        have e2 := k1.tcell (i := ord k) (by rw [HOM.out]; exact hok)
        have e3 := k0.free (ord k)
        have hst : bothTo h x y (k + 1) = (bothTo h x y k).set (ord k) (h (x.getD (ord k) 0) (y.getD (ord k) 0)) := rfl
        generalize x.getD (ord k) 0 = u at *
        generalize y.getD (ord k) 0 = v at *
        have hk0 : (0 : Int) ≤ (k : Int) := by omega
        have hk1 : (k : Int) < 16 := by omega
        have K0 : Blk (wr.setCell ⟨g, ord k, none⟩ (.int .i64 (h u v))) g 34 (tc (bothTo h x y (k + 1))) := by
          have := k0.set_ (ord k) (.int .i64 (h u v))
          rwa [tc_set, ← hst] at this
        have K1 : Blk (wr.setCell ⟨g, ord k, none⟩ (.int .i64 (h u v))) (g + 1) 34 (tc y) := k1.far (p := ⟨g, ord k, none⟩) (by simp) _
        have K2 : Blk (wr.setCell ⟨g, ord k, none⟩ (.int .i64 (h u v))) (g + 2) 34 (tc zero) := k2.far (p := ⟨g, ord k, none⟩) (by simp) _
        have n1 := own_ne o1 k0 (by decide)
        have n2 := own_ne o2 k0 (by decide)
        have O1 := ownsRow_setCell_other o1 (a := ⟨g, ord k, none⟩) (by simpa [Value.ownBlock] using n1) (.int .i64 (h u v))
        have O2 := ownsRow_setCell_other o2 (a := ⟨g, ord k, none⟩) (by simpa [Value.ownBlock] using n2) (.int .i64 (h u v))
        have B0 : Below w.heap.size w (wr.setCell ⟨g, ord k, none⟩ (.int .i64 (h u v))) := b0.setCell hgw _
        have HK := Lib.hid (And.intro K0 (And.intro K1 (And.intro K2 (And.intro O1 (And.intro O2 B0)))))
        clear K0 K1 K2 O1 O2 B0 n1 n2 hst hat hlen k0 k1 k2 o1 o2 b0
        go_wp2_with fail
        go_region_with ((with_reducible refine (HFUN.out _ _ _).mono ?_); rintro e w' ⟨rfl, rfl⟩)
        all_goals
          go_wp2_with fail
          go_roundw
          case rel => exact ⟨k + 1, by omega, by go_num, HK.out.1, HK.out.2.1, HK.out.2.2.1, HK.out.2.2.2.1, HK.out.2.2.2.2.1, HK.out.2.2.2.2.2.drew⟩
          case measure => simp [intOf]; omega
      · obtain rfl : k = 16 := by omega
        have hbo := bothTo_all h x y HOL.out HOM.out
        rw [hbo] at k0
        have HZ := Lib.hid (show (tc (List.zipWith h x y)).size = 16 by rw [tc_size, List.length_zipWith, HOL.out, HOM.out]; rfl)
        have H1 := Lib.hid (tc_one (List.zipWith h x y))
        clear hbo o1 o2 k1
        generalize List.zipWith h x y = z at *
        go_wp2_with (first
          | ((with_reducible refine wpList_ld rowT k0 HZ.out ?_ ?_); rotate_left; (rfl))
          | ((with_reducible refine wpList_st rowT k2 HZ.out zero_size H1.out ?_ ?_ ?_); rotate_left; (rfl); (rfl); intro w7 k7 g7 z7))
        have b7 := b0.grown g7 b0.size (fun q hq => by injection hq; omega)
        exact bodyPost_ret (v := .agg (tc z)) (results_blk rfl rowT k7 HZ.out rfl) rfl ⟨by rw [HBO.out], b7⟩
end Go.Proofs.YtocoohpekpkmkaaGreat

/- The walks of the document's tally: Right, own, Value. -/
namespace Go.Proofs.YtocoohpekpkmkaaGreat
set_option linter.unusedVariables false
set_option linter.unusedSimpArgs false
open Go.RowKit
open Tally
theorem not_in {x : Int} (h : ¬ inB x 0 top = true) : x < 0 ∨ top < x := by
  rw [inB_iff] at h; omega
set_option maxHeartbeats 1000000 in
theorem rright_any (l : List Int) (w : World) (hl : l.length = 16) :
    Calls Tryz.prog 93 #[.agg (tc l)] w fun e w' => e = .returned (.bool (rightB l)) ∧ Below w.heap.size w w' := by
  have k0 : Blk (w.alloc (.cells (tc l) 24)) w.heap.size 24 (tc l) := Blk.new w _ _
  have hb : Below w.heap.size w (w.alloc (.cells (tc l) 24)) := (Below.refl _ _).alloc (Nat.le_refl _) _
  have HL := Lib.hid hl
  clear hl
  go_enter Tryz.func93, Tryz.ntmps93
  go_upto_region 1 with fail
  refine nameW ?_
  intro wv hwv
  rw [← hwv] at k0 hb
  obtain ⟨g, hg⟩ : ∃ g, g = w.heap.size := ⟨_, rfl⟩
  rw [← hg] at k0 ⊢
  clear hwv hg
  go_wp2_with fail
  go_loop [3] (fun i => ∃ k : Nat, k ≤ 8 ∧ i = .int .i64 k ∧ ∀ j, j < k → inB (l.getD j 0) 0 top = true ∧ inB (l.getD (8 + j) 0) 0 top = true) (fun i => 8 - (intOf i).toNat)
  case atStart => exact ⟨0, by omega, rfl, fun j hj => absurd hj (by omega)⟩
  case round =>
    obtain ⟨k, hk, rfl, hall⟩ := hrel
    have HA := Lib.hid hall
    clear hall
    by_cases hlt : k < 8
    · have c1 := k0.tcell (i := k) (by rw [HL.out]; omega)
      have c2 := k0.tcell (i := 8 + k) (by rw [HL.out]; omega)
      obtain ⟨x, hx⟩ : ∃ x, l.getD k 0 = x := ⟨_, rfl⟩
      obtain ⟨y, hy⟩ : ∃ y, l.getD (8 + k) 0 = y := ⟨_, rfl⟩
      rw [hx] at c1
      rw [hy] at c2
      have HX := Lib.hid hx
      have HY := Lib.hid hy
      have hk0 : (0 : Int) ≤ (k : Int) := by omega
      have hk1 : (k : Int) < 8 := by omega
      clear hx hy
      have bad : inB x 0 top = false ∨ inB y 0 top = false → rightB l = false := fun h => by
        rcases h with h | h
        · exact right_bad (i := k) (by rw [HL.out]; omega) (by rw [HX.out]; exact h)
        · exact right_bad (i := 8 + k) (by rw [HL.out]; omega) (by rw [HY.out]; exact h)
      have BAD := Lib.hid bad
      clear bad
      by_cases hox : inB x 0 top = true
      · have hxb := (inB_iff _ _ _).1 hox
        have HOX := Lib.hid hox
        clear hox
        unfold top at hxb
        have d1 : decide (x < 0) = false := decide_eq_false (by omega)
        have d2 : decide (1099511627776 < x) = false := decide_eq_false (by omega)
        by_cases hoy : inB y 0 top = true
        · have hyb := (inB_iff _ _ _).1 hoy
          have HOY := Lib.hid hoy
          clear hoy
          unfold top at hyb
          have d3 : decide (y < 0) = false := decide_eq_false (by omega)
          have d4 : decide (1099511627776 < y) = false := decide_eq_false (by omega)
          go_wp2_with fail
          go_round
          case rel =>
            refine ⟨k + 1, by omega, by go_num, fun j hj => ?_⟩
            by_cases hjk : j = k
            · subst hjk; rw [HX.out, HY.out]; exact ⟨HOX.out, HOY.out⟩
            · exact HA.out j (by omega)
          case measure => simp [intOf]; omega
        · have hbd := Lib.hid (BAD.out (.inr (by simpa using hoy)))
          have hyb := not_in hoy
          unfold top at hyb
          clear hoy
          rcases hyb with hyb | hyb
          · have d3 : decide (y < 0) = true := decide_eq_true (by omega)
            go_wp2_with fail
            go_ret
            exact ⟨by rw [hbd.out]; rfl, hb⟩
          · have d3 : decide (y < 0) = false := decide_eq_false (by omega)
            have d4 : decide (1099511627776 < y) = true := decide_eq_true (by omega)
            go_wp2_with fail
            go_ret
            exact ⟨by rw [hbd.out]; rfl, hb⟩
      · have hbd := Lib.hid (BAD.out (.inl (by simpa using hox)))
        have hxb := not_in hox
        unfold top at hxb
        clear hox
        rcases hxb with hxb | hxb
        · have d3 : decide (x < 0) = true := decide_eq_true (by omega)
          go_wp2_with fail
          go_ret
          exact ⟨by rw [hbd.out]; rfl, hb⟩
        · have d3 : decide (x < 0) = false := decide_eq_false (by omega)
          have d4 : decide (1099511627776 < x) = true := decide_eq_true (by omega)
          go_wp2_with fail
          go_ret
          exact ⟨by rw [hbd.out]; rfl, hb⟩
    · have hr : rightB l = true := right_halves HL.out fun j hj => HA.out j (by omega)
      have HR := Lib.hid hr
      clear hr
      go_wp2_with fail
      go_ret
      exact ⟨by rw [HR.out]; rfl, hb⟩
theorem rown_any (l : List Int) (w : World) (hl : l.length = 16) :
    Calls Tryz.prog 63 #[.agg (tc l)] w fun e w' => e = .returned (.agg (tc (ownL l))) ∧ Below w.heap.size w w' := by
  have hs : (tc l).size = 16 := by rw [tc_size, hl]
  have HS := Lib.hid hs
  have HL := Lib.hid hl
  clear hl hs
  go_enter Tryz.func63, Tryz.ntmps63
  go_upto_region 1 with fail
  refine nameW ?_
  intro wv hwv
  obtain ⟨g, hg⟩ : ∃ g, g = w.heap.size := ⟨_, rfl⟩
  rw [← hg]
  have hk0 : Blk wv g 24 (tc l) := by rw [hwv, hg]; exact (Blk.new w _ _).alloc _
  have hk1 : Blk wv (g + 1) 24 (tc zero) := by
    have h := Blk.new (w.alloc (.cells (tc l) 24)) 24 (tc zero)
    rw [zero_tc] at h
    rw [zero_tc, hwv, hg]
    simpa using h
  have hb : Below w.heap.size w wv := by rw [hwv]; exact ((Below.refl _ _).alloc (Nat.le_refl _) _).alloc (by simp) _
  have hgw : w.heap.size ≤ g := by omega
  clear hwv hg
  go_wp2_with ((with_reducible refine wpList_ld rowR hk0 HS.out ?_ ?_); rotate_left; (rfl))
  refine (rright_any l wv HL.out).mono ?_
  rintro e w1 ⟨rfl, h1⟩
  have k0 := hk0.below h1 hk0.lt
  have k1 := hk1.below h1 hk1.lt
  have b1 := hb.trans (h1.mono hb.size)
  clear hk0 hk1 hb h1
  by_cases hr : rightB l = true
  · have ho := own_own l hr
    rw [hr]
    have HO := Lib.hid ho
    clear hr ho
    go_wp2_with (first
      | ((with_reducible refine wpList_ld rowR k0 HS.out ?_ ?_); rotate_left; (rfl))
      | ((with_reducible refine wpList_st rowR k1 HS.out zero_size (tc_one l) ?_ ?_ ?_); rotate_left; (rfl); (rfl); intro w2 k2 g2 z2))
    have b2 := b1.grown g2 b1.size (fun q hq => by injection hq; omega)
    exact bodyPost_ret (v := .agg (tc l)) (results_blk rfl rowR k2 HS.out rfl) rfl ⟨by rw [HO.out], b2⟩
  · have ho : ownL l = zero := by unfold ownL; rw [if_neg hr]
    have hr2 : rightB l = false := by simpa using hr
    rw [hr2]
    have HO := Lib.hid ho
    clear hr ho hr2
    go_wp2_with ((with_reducible refine wpList_st rowR k1 zero_size zero_size (tc_one zero) ?_ ?_ ?_); rotate_left; (rfl); (rfl); intro w2 k2 g2 z2)
    have b2 := b1.grown g2 b1.size (fun q hq => by injection hq; omega)
    exact bodyPost_ret (v := .agg (tc zero)) (results_blk rfl rowR k2 zero_size rfl) rfl ⟨by rw [HO.out], b2⟩

end Go.Proofs.YtocoohpekpkmkaaGreat

/- The walks of tally: Join, More; the document's Join, More. -/
namespace Go.Proofs.YtocoohpekpkmkaaGreat
set_option linter.unusedVariables false
set_option linter.unusedSimpArgs false
open Go.RowKit
open Tally
theorem bothL_len {h : Int → Int → Int} {l m : List Int} (hl : l.length = 16) (hm : m.length = 16) : (bothL h l m).length = 16 := by
  unfold bothL
  rw [List.length_zipWith, own_len hl, own_len hm]; rfl
set_option maxRecDepth 100000 in
theorem join_any (l m : List Int) (w : World) (hl : l.length = 16) (hm : m.length = 16) :
    Calls Tryz.prog 59 #[.agg (tc l), .agg (tc m)] w fun e w' => e = .returned (.agg (tc (joinL l m))) ∧ Below w.heap.size w w' := by
  have HS := Lib.hid (show (tc l).size = 16 by rw [tc_size, hl])
  have HM := Lib.hid (show (tc m).size = 16 by rw [tc_size, hm])
  have HZ := Lib.hid (show (tc (joinL l m)).size = 16 by rw [tc_size]; exact bothL_len hl hm)
  have H1 := Lib.hid (tc_one (joinL l m))
  have hc := fun w => both_any 84 mx join1 enters_join l m w hl hm
  have HC := Lib.hid hc
  have hmf : ∀ (fn : Fn) (first cap : Array Value) (w : World), (Instr.makeFunc fn first cap).run Tryz.prog w = .ok (.func fn first cap) w := fun _ _ _ _ => rfl
  clear hl hm hc
  go_enter Tryz.func59, Tryz.ntmps59
  go_upto_region 1 with fail
  refine nameW ?_
  intro wv hwv
  obtain ⟨g, hg⟩ : ∃ g, g = w.heap.size := ⟨_, rfl⟩
  rw [← hg]
  have k0 : Blk wv g 34 (tc l) := by rw [hwv, hg]; exact ((Blk.new w _ _).alloc _).alloc _
  have k1 : Blk wv (g + 1) 34 (tc m) := by
    have h := (Blk.new (w.alloc (.cells (tc l) 34)) 34 (tc m)).alloc (.cells (tc zero) 34)
    rw [zero_tc] at h
    rw [hwv, hg]
    simpa using h
  have k2 : Blk wv (g + 2) 34 (tc zero) := by
    have h := Blk.new ((w.alloc (.cells (tc l) 34)).alloc (.cells (tc m) 34)) 34 (tc zero)
    rw [zero_tc] at h
    rw [zero_tc, hwv, hg]
    simpa using h
  have hb : Below w.heap.size w wv := by rw [hwv]; exact (((Below.refl _ _).alloc (Nat.le_refl _) _).alloc (by simp) _).alloc (by simp; omega) _
  have hgw : w.heap.size ≤ g := by omega
  clear hwv hg
  go_wp2_with (first
    | ((with_reducible refine wpList_ld rowT k0 HS.out ?_ ?_); rotate_left; (rfl))
    | ((with_reducible refine wpList_ld rowT k1 HM.out ?_ ?_); rotate_left; (rfl)))
  refine (HC.out wv).mono ?_
  rintro e w1 ⟨rfl, h1⟩
  have k2a := k2.below h1 k2.lt
  have b1 := hb.trans (h1.mono hb.size)
  clear k0 k1 k2 hb h1
  rw [show bothL mx l m = joinL l m from rfl]
  obtain ⟨z, hz⟩ : ∃ z, joinL l m = z := ⟨_, rfl⟩
  have HZZ := Lib.hid hz
  rw [hz] at HZ H1 ⊢
  clear hz
  go_wp2_with ((with_reducible refine wpList_st rowT k2a HZ.out zero_size H1.out ?_ ?_ ?_); rotate_left; (rfl); (rfl); intro w7 k7 g7 z7)
  have b7 := b1.grown g7 b1.size (fun q hq => by injection hq; omega)
  exact bodyPost_ret (v := .agg (tc z)) (results_blk rfl rowT k7 HZ.out rfl) rfl ⟨by rw [HZZ.out], b7⟩
/-- the first k nodes' numbers brought together -/
def halfTo (h : Int → Int → Int) (a b : List Int) : Nat → List Int
  | 0 => a
  | k + 1 => ((halfTo h a b k).set k (h (a.getD k 0) (b.getD k 0))).set (8 + k) (h (a.getD (8 + k) 0) (b.getD (8 + k) 0))
theorem halfTo_len (h : Int → Int → Int) (a b : List Int) (k : Nat) : (halfTo h a b k).length = a.length := by
  induction k with
  | zero => rfl
  | succ k ih => simp [halfTo, ih]
theorem getD_set_ne {l : List Int} {i j : Nat} {x : Int} (h : i ≠ j) : (l.set i x).getD j 0 = l.getD j 0 := by
  rw [List.getD_eq_getElem?_getD, List.getElem?_set_ne h, ← List.getD_eq_getElem?_getD]
theorem getD_set_eq {l : List Int} {i : Nat} {x : Int} (h : i < l.length) : (l.set i x).getD i 0 = x := by
  rw [List.getD_eq_getElem?_getD, List.getElem?_set_self h]; rfl
theorem halfTo_ge (h : Int → Int → Int) (a b : List Int) (k i : Nat) (hk : k ≤ 8) (hi : (i < 8 ∧ k ≤ i) ∨ 8 + k ≤ i) : (halfTo h a b k).getD i 0 = a.getD i 0 := by
  induction k with
  | zero => rfl
  | succ k ih => rw [halfTo, getD_set_ne (by omega), getD_set_ne (by omega), ih (by omega) (by omega)]
theorem halfTo_at (h : Int → Int → Int) (a b : List Int) (k i : Nat) (hk : k < 8) (hi : i = k ∨ i = 8 + k) : (halfTo h a b k).getD i 0 = a.getD i 0 := halfTo_ge h a b k i (by omega) (by omega)
theorem halfTo_lt (h : Int → Int → Int) (a b : List Int) (ha : a.length = 16) (k : Nat) (hk : k ≤ 8) (i : Nat) (hi : i < k ∨ (8 ≤ i ∧ i < 8 + k)) : (halfTo h a b k).getD i 0 = h (a.getD i 0) (b.getD i 0) := by
  induction k with
  | zero => omega
  | succ k ih =>
    have hl := halfTo_len h a b k
    rw [halfTo]
    by_cases e1 : i = 8 + k
    · subst e1
      rw [getD_set_eq (by rw [List.length_set]; omega)]
    · rw [getD_set_ne (by omega)]
      by_cases e2 : i = k
      · subst e2
        rw [getD_set_eq (by omega)]
      · rw [getD_set_ne (by omega), ih (by omega) (by omega)]
theorem halfTo_all (h : Int → Int → Int) (a b : List Int) (ha : a.length = 16) (hb : b.length = 16) : halfTo h a b 8 = List.zipWith h a b := by
  apply List.ext_getElem?
  intro i
  by_cases hi : i < 16
  · have h1 := halfTo_lt h a b ha 8 (by omega) i (by omega)
    rw [List.getD_eq_getElem?_getD, List.getElem?_eq_getElem (by rw [halfTo_len]; omega)] at h1
    rw [List.getElem?_eq_getElem (by rw [halfTo_len]; omega), List.getElem?_zipWith, List.getElem?_eq_getElem (by omega), List.getElem?_eq_getElem (by omega)]
    simp only [Option.getD_some] at h1
    rw [h1, List.getD_eq_getElem?_getD, List.getD_eq_getElem?_getD, List.getElem?_eq_getElem (by omega), List.getElem?_eq_getElem (by omega)]
    rfl
  · rw [List.getElem?_eq_none (by rw [halfTo_len]; omega), List.getElem?_eq_none (by simp; omega)]
theorem set_same {l : List Int} {i : Nat} {x : Int} (h : l.getD i 0 = x) : l.set i x = l := by
  apply List.ext_getElem?
  intro j
  by_cases e : i = j
  · subst e
    by_cases hi : i < l.length
    · rw [List.getElem?_set_self hi, List.getElem?_eq_getElem hi]
      rw [List.getD_eq_getElem?_getD, List.getElem?_eq_getElem hi] at h
      rw [← h]; rfl
    · rw [List.getElem?_eq_none (by simp; omega), List.getElem?_eq_none (by omega)]
  · rw [List.getElem?_set_ne e]
set_option maxRecDepth 100000 in
set_option maxHeartbeats 2000000 in
theorem rjoin_any (l m : List Int) (w : World) (hl : l.length = 16) (hm : m.length = 16) :
    Calls Tryz.prog 27 #[.agg (tc l), .agg (tc m)] w fun e w' => e = .returned (.agg (tc (joinL l m))) ∧ Below w.heap.size w w' := by
  have HS := Lib.hid (show (tc l).size = 16 by rw [tc_size, hl])
  have HM := Lib.hid (show (tc m).size = 16 by rw [tc_size, hm])
  have HSo := Lib.hid (show (tc (ownL l)).size = 16 by rw [tc_size, own_len hl])
  have HMo := Lib.hid (show (tc (ownL m)).size = 16 by rw [tc_size, own_len hm])
  have HL := Lib.hid hl
  have HLM := Lib.hid hm
  clear hl hm
  go_enter Tryz.func27, Tryz.ntmps27
  go_upto_region 1 with fail
  refine nameW ?_
  intro wv hwv
  obtain ⟨g, hg⟩ : ∃ g, g = w.heap.size := ⟨_, rfl⟩
  rw [← hg]
  have k0 : Blk wv g 24 (tc l) := by rw [hwv, hg]; exact ((Blk.new w _ _).alloc _).alloc _
  have k1 : Blk wv (g + 1) 24 (tc m) := by
    have h := (Blk.new (w.alloc (.cells (tc l) 24)) 24 (tc m)).alloc (.cells (tc zero) 24)
    rw [zero_tc] at h
    rw [hwv, hg]
    simpa using h
  have k2 : Blk wv (g + 2) 24 (tc zero) := by
    have h := Blk.new ((w.alloc (.cells (tc l) 24)).alloc (.cells (tc m) 24)) 24 (tc zero)
    rw [zero_tc] at h
    rw [zero_tc, hwv, hg]
    simpa using h
  have hb : Below w.heap.size w wv := by rw [hwv]; exact (((Below.refl _ _).alloc (Nat.le_refl _) _).alloc (by simp) _).alloc (by simp; omega) _
  have hgw : w.heap.size ≤ g := by omega
  clear hwv hg
  have k0d : Blk wv.drew g 24 (tc l) := k0
  have k1d : Blk wv.drew (g + 1) 24 (tc m) := k1
  have k2d : Blk wv.drew (g + 2) 24 (tc zero) := k2
  have hbd := hb.drew
  clear k0 k1 k2 hb
  go_cut [2] (fun s wx => s = .pointer (some ⟨g, 0, none⟩) ∧ Blk wx g 24 (tc (ownL l)) ∧ Blk wx (g + 1) 24 (tc (ownL m)) ∧ Blk wx (g + 2) 24 (tc zero) ∧ Below w.heap.size w wx)
  case first =>
    refine wp_region_any (by kernel_rfl) ?_
    try (change wpAny _ _ _ _ _ _ _ (World.drew _))
    refine wpAny_ready (rs := [0, 2]) (by kernel_rfl) (by simp) ?_
    refine AllReady.cons rfl (fun K hK => ?_) (AllReady.cons rfl (fun K hK => ?_) AllReady.nil)
    · refine step_ld rfl rowR (.tmp 2) rfl (by rfl) k0d HS.out ?_
      refine hK _ _ ?_
      clear hK K
      refine wpAny_ready (rs := [1, 2]) (by kernel_rfl) (by simp) ?_
      refine AllReady.cons rfl (fun K hK => ?_) (AllReady.cons rfl (fun K hK => ?_) AllReady.nil)
      · go_simp
        refine (rown_any l _ HL.out).mono ?_
        rintro e w1 ⟨rfl, h1⟩
        have k0a := k0d.below h1 k0d.lt
        have k1a := k1d.below h1 k1d.lt
        have k2a := k2d.below h1 k2d.lt
        have b1 := hbd.trans (h1.mono hbd.size)
        refine hK _ _ ?_
        clear hK K
        refine wpAny_ready (rs := [2]) (by kernel_rfl) (by simp) ?_
        refine AllReady.cons rfl (fun K hK => ?_) AllReady.nil
        refine step_ld rfl rowR (.tmp 3) rfl (by rfl) k1a HM.out ?_
        refine hK _ _ ?_
        clear hK K
        refine wpAny_ready (rs := [3]) (by kernel_rfl) (by simp) ?_
        refine AllReady.cons rfl (fun K hK => ?_) AllReady.nil
        go_simp
        refine (rown_any m _ HLM.out).mono ?_
        rintro e w2 ⟨rfl, h2⟩
        have k0b := k0a.below h2 k0a.lt
        have k1b := k1a.below h2 k1a.lt
        have k2b := k2a.below h2 k2a.lt
        have b2 := b1.trans (h2.mono b1.size)
        refine hK _ _ ?_
        clear hK K
        refine wpAny_ready (rs := [4]) (by kernel_rfl) (by simp) ?_
        refine AllReady.cons rfl (fun K hK => ?_) AllReady.nil
        refine step_st rfl rowR (.tmp 2) (.tmp 7) rfl (by rfl) (by rfl) k0b HSo.out HS.out (tc_one _) ?_
        intro w3 k03 g3 z3
        have k13 := k1b.grown g3 (by simp)
        have k23 := k2b.grown g3 (by simp)
        have b3 := b2.grown g3 b2.size (fun q hq => by injection hq; omega)
        refine hK _ _ ?_
        clear hK K
        refine wpAny_ready (rs := [5]) (by kernel_rfl) (by simp) ?_
        refine AllReady.cons rfl (fun K hK => ?_) AllReady.nil
        refine step_st rfl rowR (.tmp 3) (.tmp 9) rfl (by rfl) (by rfl) k13 HMo.out HM.out (tc_one _) ?_
        intro w4 k14 g4 z4
        have k04 := k03.grown g4 (by simp)
        have k24 := k23.grown g4 (by simp)
        have b4 := b3.grown g4 b3.size (fun q hq => by injection hq; omega)
        refine hK _ _ ?_
        clear hK K
        refine wpAny_done (by kernel_rfl) ?_ _
        go_wp2_with fail
        go_meet
        exact ⟨rfl, k04, k14, k24, b4⟩
      · refine step_ld rfl rowR (.tmp 3) rfl (by rfl) k1d HM.out ?_
        refine hK _ _ ?_
        clear hK K
        refine wpAny_ready (rs := [1]) (by kernel_rfl) (by simp) ?_
        refine AllReady.cons rfl (fun K hK => ?_) AllReady.nil
        go_simp
        refine (rown_any l _ HL.out).mono ?_
        rintro e w1 ⟨rfl, h1⟩
        have k0a := k0d.below h1 k0d.lt
        have k1a := k1d.below h1 k1d.lt
        have k2a := k2d.below h1 k2d.lt
        have b1 := hbd.trans (h1.mono hbd.size)
        refine hK _ _ ?_
        clear hK K
        refine wpAny_ready (rs := [3]) (by kernel_rfl) (by simp) ?_
        refine AllReady.cons rfl (fun K hK => ?_) AllReady.nil
        go_simp
        refine (rown_any m _ HLM.out).mono ?_
        rintro e w2 ⟨rfl, h2⟩
        have k0b := k0a.below h2 k0a.lt
        have k1b := k1a.below h2 k1a.lt
        have k2b := k2a.below h2 k2a.lt
        have b2 := b1.trans (h2.mono b1.size)
        refine hK _ _ ?_
        clear hK K
        refine wpAny_ready (rs := [4]) (by kernel_rfl) (by simp) ?_
        refine AllReady.cons rfl (fun K hK => ?_) AllReady.nil
        refine step_st rfl rowR (.tmp 2) (.tmp 7) rfl (by rfl) (by rfl) k0b HSo.out HS.out (tc_one _) ?_
        intro w3 k03 g3 z3
        have k13 := k1b.grown g3 (by simp)
        have k23 := k2b.grown g3 (by simp)
        have b3 := b2.grown g3 b2.size (fun q hq => by injection hq; omega)
        refine hK _ _ ?_
        clear hK K
        refine wpAny_ready (rs := [5]) (by kernel_rfl) (by simp) ?_
        refine AllReady.cons rfl (fun K hK => ?_) AllReady.nil
        refine step_st rfl rowR (.tmp 3) (.tmp 9) rfl (by rfl) (by rfl) k13 HMo.out HM.out (tc_one _) ?_
        intro w4 k14 g4 z4
        have k04 := k03.grown g4 (by simp)
        have k24 := k23.grown g4 (by simp)
        have b4 := b3.grown g4 b3.size (fun q hq => by injection hq; omega)
        refine hK _ _ ?_
        clear hK K
        refine wpAny_done (by kernel_rfl) ?_ _
        go_wp2_with fail
        go_meet
        exact ⟨rfl, k04, k14, k24, b4⟩
    · refine step_ld rfl rowR (.tmp 3) rfl (by rfl) k1d HM.out ?_
      refine hK _ _ ?_
      clear hK K
      refine wpAny_ready (rs := [0]) (by kernel_rfl) (by simp) ?_
      refine AllReady.cons rfl (fun K hK => ?_) AllReady.nil
      refine step_ld rfl rowR (.tmp 2) rfl (by rfl) k0d HS.out ?_
      refine hK _ _ ?_
      clear hK K
      refine wpAny_ready (rs := [1]) (by kernel_rfl) (by simp) ?_
      refine AllReady.cons rfl (fun K hK => ?_) AllReady.nil
      go_simp
      refine (rown_any l _ HL.out).mono ?_
      rintro e w1 ⟨rfl, h1⟩
      have k0a := k0d.below h1 k0d.lt
      have k1a := k1d.below h1 k1d.lt
      have k2a := k2d.below h1 k2d.lt
      have b1 := hbd.trans (h1.mono hbd.size)
      refine hK _ _ ?_
      clear hK K
      refine wpAny_ready (rs := [3]) (by kernel_rfl) (by simp) ?_
      refine AllReady.cons rfl (fun K hK => ?_) AllReady.nil
      go_simp
      refine (rown_any m _ HLM.out).mono ?_
      rintro e w2 ⟨rfl, h2⟩
      have k0b := k0a.below h2 k0a.lt
      have k1b := k1a.below h2 k1a.lt
      have k2b := k2a.below h2 k2a.lt
      have b2 := b1.trans (h2.mono b1.size)
      refine hK _ _ ?_
      clear hK K
      refine wpAny_ready (rs := [4]) (by kernel_rfl) (by simp) ?_
      refine AllReady.cons rfl (fun K hK => ?_) AllReady.nil
      refine step_st rfl rowR (.tmp 2) (.tmp 7) rfl (by rfl) (by rfl) k0b HSo.out HS.out (tc_one _) ?_
      intro w3 k03 g3 z3
      have k13 := k1b.grown g3 (by simp)
      have k23 := k2b.grown g3 (by simp)
      have b3 := b2.grown g3 b2.size (fun q hq => by injection hq; omega)
      refine hK _ _ ?_
      clear hK K
      refine wpAny_ready (rs := [5]) (by kernel_rfl) (by simp) ?_
      refine AllReady.cons rfl (fun K hK => ?_) AllReady.nil
      refine step_st rfl rowR (.tmp 3) (.tmp 9) rfl (by rfl) (by rfl) k13 HMo.out HM.out (tc_one _) ?_
      intro w4 k14 g4 z4
      have k04 := k03.grown g4 (by simp)
      have k24 := k23.grown g4 (by simp)
      have b4 := b3.grown g4 b3.size (fun q hq => by injection hq; omega)
      refine hK _ _ ?_
      clear hK K
      refine wpAny_done (by kernel_rfl) ?_ _
      go_wp2_with fail
      go_meet
      exact ⟨rfl, k04, k14, k24, b4⟩
  case rest =>
    obtain ⟨rfl, k0, k1, k2, b0⟩ := hcut
    clear k0d k1d k2d hbd
    have hbo : joinL l m = List.zipWith mx (ownL l) (ownL m) := rfl
    have HBO := Lib.hid hbo
    have HOL := Lib.hid (own_len HL.out)
    have HOM := Lib.hid (own_len HLM.out)
    clear hbo
    generalize ownL l = x at *
    generalize ownL m = y at *
    go_wp2_with fail
    go_loopw [5] (fun i wr => ∃ k : Nat, k ≤ 8 ∧ i = .int .i64 k ∧ Blk wr g 24 (tc (halfTo mx x y k)) ∧ Blk wr (g + 1) 24 (tc y) ∧ Blk wr (g + 2) 24 (tc zero) ∧ Below w.heap.size w wr) (fun i _ => 8 - (intOf i).toNat)
    case atStart => exact ⟨0, by omega, rfl, k0, k1, k2, b0⟩
    case round =>
      clear k0 k1 k2 b0
      obtain ⟨k, hk, rfl, k0, k1, k2, b0⟩ := hrel
      by_cases hlt : k < 8
      · have hlen := halfTo_len mx x y k
        have e1 := k0.tcell (i := k) (by rw [hlen, HOL.out]; omega)
        have e1' := k0.tcell (i := 8 + k) (by rw [hlen, HOL.out]; omega)
        rw [halfTo_at mx x y k k hlt (.inl rfl)] at e1
        rw [halfTo_at mx x y k (8 + k) hlt (.inr rfl)] at e1'
        have e2 := k1.tcell (i := k) (by rw [HOM.out]; omega)
        have e2' := k1.tcell (i := 8 + k) (by rw [HOM.out]; omega)
        have e3 := k0.free k
        have e3' := k0.free (8 + k)
        have hst : halfTo mx x y (k + 1) = ((halfTo mx x y k).set k (mx (x.getD k 0) (y.getD k 0))).set (8 + k) (mx (x.getD (8 + k) 0) (y.getD (8 + k) 0)) := rfl
        unfold mx at hst
        generalize x.getD k 0 = u at *
        generalize y.getD k 0 = v at *
        generalize x.getD (8 + k) 0 = u' at *
        generalize y.getD (8 + k) 0 = v' at *
        have hk0 : (0 : Int) ≤ (k : Int) := by omega
        have hk1 : (k : Int) < 8 := by omega
        have hgl := k0.lt
        clear hlen
        obtain ⟨z, hz⟩ : ∃ z, (if u < v then v else u) = z := ⟨_, rfl⟩
        obtain ⟨z', hz'⟩ : ∃ z', (if u' < v' then v' else u') = z' := ⟨_, rfl⟩
        rw [hz, hz'] at hst
        have k01 := k0.set_ k (.int .i64 z)
        rw [tc_set] at k01
        have e3b := k01.free (8 + k)
        have K0 : Blk ((wr.setCell ⟨g, k, none⟩ (.int .i64 z)).setCell ⟨g, 8 + k, none⟩ (.int .i64 z')) g 24 (tc (halfTo mx x y (k + 1))) := by
          have := k01.set_ (8 + k) (.int .i64 z')
          rw [tc_set] at this
          rw [show halfTo mx x y (k + 1) = _ from hst]; exact this
        have K1 : Blk ((wr.setCell ⟨g, k, none⟩ (.int .i64 z)).setCell ⟨g, 8 + k, none⟩ (.int .i64 z')) (g + 1) 24 (tc y) := (k1.far (p := ⟨g, k, none⟩) (by simp) _).far (p := ⟨g, 8 + k, none⟩) (by simp) _
        have K2 : Blk ((wr.setCell ⟨g, k, none⟩ (.int .i64 z)).setCell ⟨g, 8 + k, none⟩ (.int .i64 z')) (g + 2) 24 (tc zero) := (k2.far (p := ⟨g, k, none⟩) (by simp) _).far (p := ⟨g, 8 + k, none⟩) (by simp) _
        have B0 : Below w.heap.size w ((wr.setCell ⟨g, k, none⟩ (.int .i64 z)).setCell ⟨g, 8 + k, none⟩ (.int .i64 z')) := (b0.setCell hgw _).setCell hgw _
        have hne : (⟨g, k, none⟩ : Addr) ≠ ⟨g, 8 + k, none⟩ := by intro h; injection h; omega
        have e1b : (wr.setCell ⟨g, k, none⟩ (.int .i64 z)).cell? ⟨g, 8 + k, none⟩ = some (.int .i64 u') := (World.cell?_setCell_other _ _ _ _ hne).trans e1'
        have e2b : (wr.setCell ⟨g, k, none⟩ (.int .i64 z)).cell? ⟨g + 1, 8 + k, none⟩ = some (.int .i64 v') := (World.cell?_setCell_other _ _ _ _ (by intro h; injection h; omega)).trans e2'
        have HK := Lib.hid (And.intro K0 (And.intro K1 (And.intro K2 B0)))
        clear K0 K1 K2 B0 hst k0 k1 k2 b0 k01 e1' e2' e3' hne
        go_wp2_with fail
        go_region
        go_wp2_with fail
        go_region
        go_wp2_with fail
        go_roundw
        case rel => exact ⟨k + 1, by omega, by go_num, HK.out.1, HK.out.2.1, HK.out.2.2.1, HK.out.2.2.2.drew.drew⟩
        case measure => simp [intOf]; omega
      · obtain rfl : k = 8 := by omega
        have hbo := halfTo_all mx x y HOL.out HOM.out
        rw [hbo] at k0
        have HZ := Lib.hid (show (tc (List.zipWith mx x y)).size = 16 by rw [tc_size, List.length_zipWith, HOL.out, HOM.out]; rfl)
        have H1 := Lib.hid (tc_one (List.zipWith mx x y))
        clear hbo k1
        generalize List.zipWith mx x y = z at *
        go_wp2_with (first
          | ((with_reducible refine wpList_ld rowR k0 HZ.out ?_ ?_); rotate_left; (rfl))
          | ((with_reducible refine wpList_st rowR k2 HZ.out zero_size H1.out ?_ ?_ ?_); rotate_left; (rfl); (rfl); intro w7 k7 g7 z7))
        have b7 := b0.grown g7 b0.size (fun q hq => by injection hq; omega)
        exact bodyPost_ret (v := .agg (tc z)) (results_blk rfl rowR k7 HZ.out rfl) rfl ⟨by rw [HBO.out], b7⟩
end Go.Proofs.YtocoohpekpkmkaaGreat

/- Within: one knows no more than the other. -/
namespace Go.Proofs.YtocoohpekpkmkaaGreat
set_option linter.unusedVariables false
set_option linter.unusedSimpArgs false
open Go.RowKit
open Tally
theorem mr_zero {x y : Int} (hx : 0 ≤ x) (hy : 0 ≤ y) : mr x y = 0 ↔ mx x y = y := by
  unfold mr mx
  split
  · split <;> constructor <;> intro h <;> omega
  · split <;> constructor <;> intro h <;> omega
theorem both_at {h : Int → Int → Int} {l m : List Int} (hl : l.length = 16) (hm : m.length = 16) {i : Nat} (hi : i < 16) : (bothL h l m).getD i 0 = h ((ownL l).getD i 0) ((ownL m).getD i 0) := by
  have h1 := own_len hl
  have h2 := own_len hm
  unfold bothL
  rw [List.getD_eq_getElem?_getD, List.getElem?_zipWith, List.getD_eq_getElem?_getD, List.getD_eq_getElem?_getD, List.getElem?_eq_getElem (by omega), List.getElem?_eq_getElem (by omega)]
  rfl
theorem ext16 {a b : List Int} (ha : a.length = 16) (hb : b.length = 16) (h : ∀ i, i < 16 → a.getD i 0 = b.getD i 0) : a = b := by
  apply List.ext_getElem?
  intro i
  by_cases hi : i < 16
  · have := h i hi
    rw [List.getD_eq_getElem?_getD, List.getD_eq_getElem?_getD, List.getElem?_eq_getElem (by omega), List.getElem?_eq_getElem (by omega)] at this
    rw [List.getElem?_eq_getElem (by omega), List.getElem?_eq_getElem (by omega)]
    simpa using this
  · rw [List.getElem?_eq_none (by omega), List.getElem?_eq_none (by omega)]
theorem zero_at (i : Nat) (hi : i < 16) : zero.getD i 0 = 0 := by
  unfold zero
  rw [List.getD_eq_getElem?_getD, List.getElem?_replicate, if_pos hi]; rfl
theorem within_iff {l m : List Int} (hl : l.length = 16) (hm : m.length = 16) : moreL l m = zero ↔ joinL l m = ownL m := by
  have key : ∀ i, i < 16 → ((moreL l m).getD i 0 = zero.getD i 0 ↔ (joinL l m).getD i 0 = (ownL m).getD i 0) := fun i hi => by
    unfold moreL joinL
    rw [both_at hl hm hi, both_at hl hm hi, zero_at i hi]
    exact mr_zero (right_at (own_right l) i).1 (right_at (own_right m) i).1
  constructor
  · intro h
    exact ext16 (bothL_len hl hm) (own_len hm) fun i hi => (key i hi).1 (by rw [h])
  · intro h
    exact ext16 (bothL_len hl hm) rfl fun i hi => (key i hi).2 (by rw [h])
theorem both_right {h : Int → Int → Int} (hh : ∀ x y, 0 ≤ x → x ≤ top → 0 ≤ y → y ≤ top → 0 ≤ h x y ∧ h x y ≤ top) {l m : List Int} (hl : l.length = 16) (hm : m.length = 16) : rightB (bothL h l m) = true :=
  right_of fun i hi => by
    have hi' : i < 16 := by rw [bothL_len hl hm] at hi; exact hi
    rw [both_at hl hm hi', inB_iff]
    have h1 := right_at (own_right l) i
    have h2 := right_at (own_right m) i
    exact hh _ _ h1.1 h1.2 h2.1 h2.2
theorem join_right {l m : List Int} (hl : l.length = 16) (hm : m.length = 16) : rightB (joinL l m) = true :=
  both_right (fun x y h1 h2 h3 h4 => by unfold mx; split <;> omega) hl hm
theorem more_right {l m : List Int} (hl : l.length = 16) (hm : m.length = 16) : rightB (moreL l m) = true :=
  both_right (fun x y h1 h2 h3 h4 => by unfold mr; split <;> omega) hl hm
/-- One knows no more than the other. -/
def withB (l m : List Int) : Bool := decide (moreL l m = zero)
end Go.Proofs.YtocoohpekpkmkaaGreat

namespace Go.Proofs.YtocoohpekpkmkaaGreat
set_option linter.unusedVariables false
set_option linter.unusedSimpArgs false
open Tally
theorem join_at {l m : List Int} (hl : l.length = 16) (hm : m.length = 16) {i : Nat} (hi : i < 16) : (joinL l m).getD i 0 = mx ((ownL l).getD i 0) ((ownL m).getD i 0) := both_at hl hm hi
theorem more_at {l m : List Int} (hl : l.length = 16) (hm : m.length = 16) {i : Nat} (hi : i < 16) : (moreL l m).getD i 0 = mr ((ownL l).getD i 0) ((ownL m).getD i 0) := both_at hl hm hi
theorem join_len {l m : List Int} (hl : l.length = 16) (hm : m.length = 16) : (joinL l m).length = 16 := bothL_len hl hm
theorem more_len {l m : List Int} (hl : l.length = 16) (hm : m.length = 16) : (moreL l m).length = 16 := bothL_len hl hm
theorem own_join {l m : List Int} (hl : l.length = 16) (hm : m.length = 16) : ownL (joinL l m) = joinL l m := own_own _ (join_right hl hm)
theorem own_more {l m : List Int} (hl : l.length = 16) (hm : m.length = 16) : ownL (moreL l m) = moreL l m := own_own _ (more_right hl hm)
theorem mx_or (x y : Int) : (x < y ∧ mx x y = y) ∨ (y ≤ x ∧ mx x y = x) := by unfold mx; split <;> omega
theorem mr_or (x y : Int) : (y < x ∧ mr x y = x) ∨ (x ≤ y ∧ mr x y = 0) := by unfold mr; split <;> omega
theorem join_comm {x y : List Int} (hx : x.length = 16) (hy : y.length = 16) : joinL y x = joinL x y := ext16 (join_len hy hx) (join_len hx hy) fun i hi => by
  rw [join_at hy hx hi, join_at hx hy hi]
  have a := mx_or ((ownL x).getD i 0) ((ownL y).getD i 0)
  have b := mx_or ((ownL y).getD i 0) ((ownL x).getD i 0)
  omega
theorem join_self {x y : List Int} (hx : x.length = 16) (hy : y.length = 16) : joinL (joinL x y) (joinL x y) = joinL x y := ext16 (join_len (join_len hx hy) (join_len hx hy)) (join_len hx hy) fun i hi => by
  rw [join_at (join_len hx hy) (join_len hx hy) hi, own_join hx hy]
  have a := mx_or ((joinL x y).getD i 0) ((joinL x y).getD i 0)
  omega
theorem join_more {x y : List Int} (hx : x.length = 16) (hy : y.length = 16) : joinL (joinL x y) y = joinL x y := ext16 (join_len (join_len hx hy) hy) (join_len hx hy) fun i hi => by
  rw [join_at (join_len hx hy) hy hi, own_join hx hy, join_at hx hy hi]
  have a := mx_or ((ownL x).getD i 0) ((ownL y).getD i 0)
  have b := mx_or (mx ((ownL x).getD i 0) ((ownL y).getD i 0)) ((ownL y).getD i 0)
  omega
theorem more_join {x y : List Int} (hx : x.length = 16) (hy : y.length = 16) : joinL y (moreL x y) = joinL x y := ext16 (join_len hy (more_len hx hy)) (join_len hx hy) fun i hi => by
  have h1 := right_at (own_right x) i
  have h2 := right_at (own_right y) i
  rw [join_at hy (more_len hx hy) hi, own_more hx hy, more_at hx hy hi, join_at hx hy hi]
  have a := mx_or ((ownL x).getD i 0) ((ownL y).getD i 0)
  have b := mr_or ((ownL x).getD i 0) ((ownL y).getD i 0)
  have c := mx_or ((ownL y).getD i 0) (mr ((ownL x).getD i 0) ((ownL y).getD i 0))
  omega
theorem with_fst {x y : List Int} (hx : x.length = 16) (hy : y.length = 16) : withB x (joinL x y) = true := decide_eq_true (ext16 (more_len hx (join_len hx hy)) rfl fun i hi => by
  rw [more_at hx (join_len hx hy) hi, own_join hx hy, join_at hx hy hi, zero_at i hi]
  have a := mx_or ((ownL x).getD i 0) ((ownL y).getD i 0)
  have b := mr_or ((ownL x).getD i 0) (mx ((ownL x).getD i 0) ((ownL y).getD i 0))
  omega)
theorem with_snd {x y : List Int} (hx : x.length = 16) (hy : y.length = 16) : withB y (joinL x y) = true := decide_eq_true (ext16 (more_len hy (join_len hx hy)) rfl fun i hi => by
  rw [more_at hy (join_len hx hy) hi, own_join hx hy, join_at hx hy hi, zero_at i hi]
  have a := mx_or ((ownL x).getD i 0) ((ownL y).getD i 0)
  have b := mr_or ((ownL y).getD i 0) (mx ((ownL x).getD i 0) ((ownL y).getD i 0))
  omega)
theorem join_assoc {x y z : List Int} (hx : x.length = 16) (hy : y.length = 16) (hz : z.length = 16) : joinL (joinL x y) z = joinL x (joinL y z) := ext16 (join_len (join_len hx hy) hz) (join_len hx (join_len hy hz)) fun i hi => by
  rw [join_at (join_len hx hy) hz hi, join_at hx (join_len hy hz) hi, own_join hx hy, own_join hy hz, join_at hx hy hi, join_at hy hz hi]
  have a := mx_or ((ownL x).getD i 0) ((ownL y).getD i 0)
  have b := mx_or ((ownL y).getD i 0) ((ownL z).getD i 0)
  have c := mx_or (mx ((ownL x).getD i 0) ((ownL y).getD i 0)) ((ownL z).getD i 0)
  have d := mx_or ((ownL x).getD i 0) (mx ((ownL y).getD i 0) ((ownL z).getD i 0))
  omega
theorem add_at {l : List Int} {s : Nat} {a : Int} (hl : l.length = 16) (hs : s < 16) (i : Nat) : (s = i ∧ (l.set s (l.getD s 0 + a)).getD i 0 = l.getD i 0 + a) ∨ (s ≠ i ∧ (l.set s (l.getD s 0 + a)).getD i 0 = l.getD i 0) := by
  rw [List.getD_eq_getElem?_getD]
  by_cases e : s = i
  · subst e; left; rw [List.getElem?_set_self (by omega)]; exact ⟨rfl, rfl⟩
  · right; rw [List.getElem?_set_ne e, ← List.getD_eq_getElem?_getD]; exact ⟨e, rfl⟩
theorem add_value {l : List Int} {s : Nat} {a : Int} (hl : l.length = 16) (hr : rightB l = true) (hs : s < 16) (hm : rightB (l.set s (l.getD s 0 + a)) = true) {n : Int} (hn : n = if s < 8 then a else -a) : valueL (l.set s (l.getD s 0 + a)) = valueL l + n := by
  unfold valueL
  rw [own_own _ hr, own_own _ hm, sumTo_set (by omega) 8 (Nat.le_refl _), hn]
  by_cases h : s < 8
  · rw [if_pos h, if_pos h, if_neg (by omega)]; omega
  · rw [if_neg h, if_neg h, if_pos (by omega)]; omega
theorem add_with {l : List Int} {s : Nat} {a : Int} (hl : l.length = 16) (hr : rightB l = true) (hs : s < 16) (hm : rightB (l.set s (l.getD s 0 + a)) = true) (ha : 0 ≤ a) : withB l (l.set s (l.getD s 0 + a)) = true := decide_eq_true (ext16 (more_len hl (by simp [hl])) rfl fun i hi => by
  rw [more_at hl (by simp [hl]) hi, own_own _ hr, own_own _ hm, zero_at i hi]
  have h1 := add_at (a := a) hl hs i
  have h2 := mr_or (l.getD i 0) ((l.set s (l.getD s 0 + a)).getD i 0)
  omega)
theorem add_join {l : List Int} {s : Nat} {a : Int} (hl : l.length = 16) (hr : rightB l = true) (hs : s < 16) (hm : rightB (l.set s (l.getD s 0 + a)) = true) (ha : 0 ≤ a) : joinL l (l.set s (l.getD s 0 + a)) = l.set s (l.getD s 0 + a) := ext16 (join_len hl (by simp [hl])) (by simp [hl]) fun i hi => by
  rw [join_at hl (by simp [hl]) hi, own_own _ hr, own_own _ hm]
  have h1 := add_at (a := a) hl hs i
  have h2 := mx_or (l.getD i 0) ((l.set s (l.getD s 0 + a)).getD i 0)
  omega
theorem add_back {l : List Int} {s : Nat} {a : Int} (hl : l.length = 16) (hr : rightB l = true) (hs : s < 16) (hm : rightB (l.set s (l.getD s 0 + a)) = true) (ha : 0 ≤ a) : withB (l.set s (l.getD s 0 + a)) l = decide (a = 0) := by
  unfold withB
  refine decide_eq_decide.2 ⟨fun h => ?_, fun h => ?_⟩
  · have h1 := more_at (l := l.set s (l.getD s 0 + a)) (m := l) (by simp [hl]) hl hs
    rw [h, zero_at s hs, own_own _ hr, own_own _ hm] at h1
    have h3 := add_at (a := a) hl hs s
    have h2 := right_at hr s
    have h4 := mr_or ((l.set s (l.getD s 0 + a)).getD s 0) (l.getD s 0)
    omega
  · refine ext16 (more_len (by simp [hl]) hl) rfl fun i hi => ?_
    rw [more_at (by simp [hl]) hl hi, own_own _ hr, own_own _ hm, zero_at i hi]
    have h3 := add_at (a := a) hl hs i
    have h4 := mr_or ((l.set s (l.getD s 0 + a)).getD i 0) (l.getD i 0)
    omega
end Go.Proofs.YtocoohpekpkmkaaGreat
