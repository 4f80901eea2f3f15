/- TallyJoins: joins go both ways, in any order: the whole statement, without a condition. -/
import Derived.Test.YtoepklcmdmeanaaTallyOpen
import Derived.Test.YtoepklcmdmeanaaTallyAlive
import Derived.Test.YtoepklcmdmeanaaTallyLaw
namespace Go.Proofs.Ytoepklcmdmeanaa.TallyJoins
open Go.ChangeShapes Go.WideShapes Go.ChangeAt Go.RowKit Go.Deep
open Tally
set_option linter.unusedVariables false
set_option linter.unusedSimpArgs false
/-- What a call of Join comes to. -/
def JoinTo (a b c : List Int) : Prop := ∀ w : World, Calls Try.prog 15 #[.agg (tc a), .agg (tc b)] w fun e w' => e = .returned (.agg (tc c)) ∧ Below w.heap.size w w'
theorem joinTo {a b c : List Int} (ha : a.length = 16) (hb : b.length = 16) (h : joinL a b = c) : JoinTo a b c := fun w => by
  have := join_any a b w ha hb
  rwa [h] at this
def WithTo (a b : List Int) (c : Bool) : Prop := ∀ w : World, Calls Try.prog 17 #[.agg (tc a), .agg (tc b)] w fun e w' => e = .returned (.bool c) ∧ Below w.heap.size w w'
theorem withTo {a b : List Int} {c : Bool} (ha : a.length = 16) (hb : b.length = 16) (h : withB a b = c) : WithTo a b c := fun w => by
  have := within2_any a b w ha hb
  rwa [h] at this
set_option maxRecDepth 100000 in
set_option maxHeartbeats 8000000 in
theorem walk (x y z : List Int) (w : World) (hx : x.length = 16) (_ : Wf x) (hy : y.length = 16) (_ : Wf y) (hz : z.length = 16) (_ : Wf z) :
    Calls Try.prog 6 #[.agg (tc x), .agg (tc y), .agg (tc z)] w fun e w' => e = .returned (.bool true) ∧ Below w.heap.size w w' := by
  have HS0 := Lib.hid (show (tc x).size = 16 by rw [tc_size, hx])
  have HS1 := Lib.hid (show (tc y).size = 16 by rw [tc_size, hy])
  have HS2 := Lib.hid (show (tc z).size = 16 by rw [tc_size, hz])
  obtain ⟨xy, hxy⟩ : ∃ xy, joinL x y = xy := ⟨_, rfl⟩
  obtain ⟨yz, hyz⟩ : ∃ yz, joinL y z = yz := ⟨_, rfl⟩
  obtain ⟨xyz, hxyz⟩ : ∃ xyz, joinL xy z = xyz := ⟨_, rfl⟩
  obtain ⟨dd, hdd⟩ : ∃ dd, moreL x y = dd := ⟨_, rfl⟩
  have lxy : xy.length = 16 := by rw [← hxy]; exact join_len hx hy
  have lyz : yz.length = 16 := by rw [← hyz]; exact join_len hy hz
  have lxyz : xyz.length = 16 := by rw [← hxyz]; exact join_len lxy hz
  have ldd : dd.length = 16 := by rw [← hdd]; exact more_len hx hy
  have HRX := Lib.hid (right_wf (show rightB xy = true by rw [← hxy]; exact join_right hx hy))
  have HRZ := Lib.hid (right_wf (show rightB xyz = true by rw [← hxyz]; exact join_right lxy hz))
  have HLX := Lib.hid lxy
  have HLZ := Lib.hid lxyz
  have HSX := Lib.hid (show (tc xy).size = 16 by rw [tc_size, lxy])
  have J0 := Lib.hid (joinTo hx hy hxy)
  have J1 := Lib.hid (joinTo hy hx ((join_comm hx hy).trans hxy))
  have J2 := Lib.hid (joinTo lxy hz hxyz)
  have J3 := Lib.hid (joinTo hy hz hyz)
  have J4 := Lib.hid (joinTo (c := xyz) hx lyz (by rw [← hyz, ← join_assoc hx hy hz, hxy, hxyz]))
  have J5 := Lib.hid (joinTo (c := xy) lxy lxy (by subst hxy; exact join_self hx hy))
  have J6 := Lib.hid (joinTo (c := xy) lxy hy (by subst hxy; exact join_more hx hy))
  have J7 := Lib.hid (joinTo (c := xy) hy ldd (by rw [← hdd, more_join hx hy, hxy]))
  have W1 := Lib.hid (withTo hx lxy (by subst hxy; exact with_fst hx hy))
  have W2 := Lib.hid (withTo hy lxy (by subst hxy; exact with_snd hx hy))
  obtain ⟨b, hbb⟩ : ∃ b, withB x y = b := ⟨_, rfl⟩
  have W3 := Lib.hid (withTo hx hy hbb)
  have hM := fun w => more_any x y w hx hy
  rw [hdd] at hM
  have M1 := Lib.hid hM
  have HZ := Lib.hid (show b = true → dd = zero from fun h => by rw [← hdd]; rw [h] at hbb; exact of_decide_eq_true hbb)
  clear hM hx hy hz lxy lyz lxyz ldd hxy hyz hxyz hdd hbb
  go_enter Try.func6, Try.ntmps6
  go_upto_region 1 with fail
  refine nameW ?_
  intro wv hwv
  obtain ⟨g, hg⟩ : ∃ g, g = w.heap.size := ⟨_, rfl⟩
  rw [← hg]
  have k0 : Blk wv g 24 (tc x) := by rw [hwv, hg]; exact ((Blk.new w _ _).alloc _).alloc _
  have k1 : Blk wv (g + 1) 24 (tc y) := by
    have h := (Blk.new (w.alloc (.cells (tc x) 24)) 24 (tc y)).alloc (.cells (tc z) 24)
    rw [hwv, hg]
    simpa using h
  have k2 : Blk wv (g + 2) 24 (tc z) := by
    have h := Blk.new ((w.alloc (.cells (tc x) 24)).alloc (.cells (tc y) 24)) 24 (tc z)
    rw [hwv, hg]
    simpa using h
  have hb : Below w.heap.size w wv := by rw [hwv]; exact (((Below.refl _ _).alloc (Nat.le_refl _) _).alloc (by simp) _).alloc (by simp; omega) _
  have hgw : w.heap.size ≤ g := by omega
  clear hwv hg
  go_wp2_with fail
  refine (alive28 wv).mono ?_
  rintro e w1 ⟨rfl, h1⟩
  have k0' := k0.below h1 k0.lt
  have k1' := k1.below h1 k1.lt
  have k2' := k2.below h1 k2.lt
  have b0 := hb.trans (h1.mono hb.size)
  clear k0 k1 k2 hb h1
  have k0 := k0'
  have k1 := k1'
  have k2 := k2'
  clear k0' k1' k2'
  go_upto_region 3 with fail
  go_cut [7, 8, 9] (fun s7 s8 s9 wx => ∃ g7 g8 g9, s7 = .pointer (some ⟨g7, 0, none⟩) ∧ s8 = .pointer (some ⟨g8, 0, none⟩) ∧ s9 = .pointer (some ⟨g9, 0, none⟩) ∧ Blk wx g7 26 (tc x) ∧ Blk wx g8 26 (tc y) ∧ Blk wx g9 26 (tc z) ∧ Below w.heap.size w wx)
  case first =>
    obtain ⟨hh, hhe⟩ : ∃ hh, hh = w1.heap.size := ⟨_, rfl⟩
    have n0 : Blk (((w1.alloc (.cells (tc zero) 26)).alloc (.cells (tc zero) 26)).alloc (.cells (tc zero) 26)) (hh) 26 (tc zero) := by
      have h := Blk.new w1 26 (tc zero)
      rw [hhe]
      have h2 := ((h.alloc (.cells (tc zero) 26)).alloc (.cells (tc zero) 26))
      simpa using h2
    have n1 : Blk (((w1.alloc (.cells (tc zero) 26)).alloc (.cells (tc zero) 26)).alloc (.cells (tc zero) 26)) (hh + 1) 26 (tc zero) := by
      have h := Blk.new (w1.alloc (.cells (tc zero) 26)) 26 (tc zero)
      rw [hhe]
      have h2 := (h.alloc (.cells (tc zero) 26))
      simpa using h2
    have n2 : Blk (((w1.alloc (.cells (tc zero) 26)).alloc (.cells (tc zero) 26)).alloc (.cells (tc zero) 26)) (hh + 2) 26 (tc zero) := by
      have h := Blk.new ((w1.alloc (.cells (tc zero) 26)).alloc (.cells (tc zero) 26)) 26 (tc zero)
      rw [hhe]
      simpa using h
    have m0 := (((k0.alloc (.cells (tc zero) 26)).alloc (.cells (tc zero) 26)).alloc (.cells (tc zero) 26))
    have l0 : g < hh := by rw [hhe]; exact k0.lt
    have m1 := (((k1.alloc (.cells (tc zero) 26)).alloc (.cells (tc zero) 26)).alloc (.cells (tc zero) 26))
    have l1 : (g + 1) < hh := by rw [hhe]; exact k1.lt
    have m2 := (((k2.alloc (.cells (tc zero) 26)).alloc (.cells (tc zero) 26)).alloc (.cells (tc zero) 26))
    have l2 : (g + 2) < hh := by rw [hhe]; exact k2.lt
    have bn := (((b0.alloc (by have := b0.size; simp; omega) (.cells (tc zero) 26)).alloc (by have := b0.size; simp; omega) (.cells (tc zero) 26)).alloc (by have := b0.size; simp; omega) (.cells (tc zero) 26))
    have hwh := b0.size
    rw [← hhe] at hwh
    have HN0 := Lib.hid n0.drew
    have HM0 := Lib.hid m0.drew
    clear n0 m0
    have HN1 := Lib.hid n1.drew
    have HM1 := Lib.hid m1.drew
    clear n1 m1
    have HN2 := Lib.hid n2.drew
    have HM2 := Lib.hid m2.drew
    clear n2 m2
    have HBN := Lib.hid bn.drew
    clear bn
    have HH := Lib.hid hhe
    rw [zero_tc] at HN0 HM0 HN1 HM1 HN2 HM2 HBN
    clear hhe
    refine wp_region_held_drew (S := fun w' => Blk w' g 24 (tc x) ∧ Blk w' (g + 1) 24 (tc y) ∧ Blk w' (g + 2) 24 (tc z)) (by kernel_rfl) ⟨k0, k1, k2⟩ (fun hS0 => ?_)
    refine wpAnyH_take (i := 0) rfl (by kernel_rfl) (by kernel_rfl) (by kernel_rfl) (fun _ _ _ h => h) (yieldsIf_ld (by rfl) rowR (.tmp 3) rfl (by rfl) (fun _ h => h.1) HS0.out) hS0 ?_
    simp only [Act.put, List.getElem_toArray, List.getElem_cons_zero, List.getElem_cons_succ, List.setIfInBounds_toArray, List.set_cons_succ, List.set_cons_zero]
    refine wpAnyH_take (i := 1) rfl (by kernel_rfl) (by kernel_rfl) (by kernel_rfl) (fun _ _ _ h => h) (yieldsIf_ld (by rfl) rowR (.tmp 4) rfl (by rfl) (fun _ h => h.2.1) HS1.out) hS0 ?_
    simp only [Act.put, List.getElem_toArray, List.getElem_cons_zero, List.getElem_cons_succ, List.setIfInBounds_toArray, List.set_cons_succ, List.set_cons_zero]
    refine wpAnyH_take (i := 2) rfl (by kernel_rfl) (by kernel_rfl) (by kernel_rfl) (fun _ _ _ h => h) (yieldsIf_ld (by rfl) rowR (.tmp 5) rfl (by rfl) (fun _ h => h.2.2) HS2.out) hS0 ?_
    simp only [Act.put, List.getElem_toArray, List.getElem_cons_zero, List.getElem_cons_succ, List.setIfInBounds_toArray, List.set_cons_succ, List.set_cons_zero]
    refine wpAnyH_ready (rs := [3, 4, 5]) (by kernel_rfl) (by simp) ?_
    refine AllReadyH.cons rfl (fun K hK => ?_) (AllReadyH.cons rfl (fun K hK => ?_) (AllReadyH.cons rfl (fun K hK => ?_) AllReadyH.nil))
    · go_simp
      refine hK.out _ _ ⟨(k0.alloc _), (k1.alloc _), (k2.alloc _)⟩ (fun _ => ?_)
      clear hK K
      refine wpAnyH_ready (rs := [4, 5]) (by kernel_rfl) (by simp) ?_
      refine AllReadyH.cons rfl (fun K hK => ?_) (AllReadyH.cons rfl (fun K hK => ?_) AllReadyH.nil)
      · go_simp
        refine hK.out _ _ ⟨((k0.alloc _).alloc _), ((k1.alloc _).alloc _), ((k2.alloc _).alloc _)⟩ (fun _ => ?_)
        clear hK K
        refine wpAnyH_ready (rs := [5]) (by kernel_rfl) (by simp) ?_
        refine AllReadyH.cons rfl (fun K hK => ?_) AllReadyH.nil
        go_simp
        refine hK.out _ _ ⟨(((k0.alloc _).alloc _).alloc _), (((k1.alloc _).alloc _).alloc _), (((k2.alloc _).alloc _).alloc _)⟩ (fun _ => ?_)
        clear hK K
        rw [← HH.out]
        refine wpAnyH_ready (rs := [6]) (by kernel_rfl) (by simp) ?_
        refine AllReadyH.cons rfl (fun K hK => ?_) AllReadyH.nil
        refine step_st rfl rowT (.tmp 7) (.tmp 13) rfl (by rfl) (by rfl) HN0.out HS0.out zero_size (tc_one _) ?_
        intro v0 d0_0 g0 z0
        have c0_0 := (HM0.out).grown g0 (by intro h; injection h; omega)
        have e1_0 := (HN1.out).grown g0 (by simp)
        have c1_0 := (HM1.out).grown g0 (by intro h; injection h; omega)
        have e2_0 := (HN2.out).grown g0 (by simp)
        have c2_0 := (HM2.out).grown g0 (by intro h; injection h; omega)
        have be0 := (HBN.out).grown g0 (by have := (HBN.out).size; first | exact this | omega) (fun q hq => by injection hq; omega)
        refine hK.out _ _ ⟨c0_0, c1_0, c2_0⟩ (fun _ => ?_)
        clear hK K
        refine wpAnyH_ready (rs := [7]) (by kernel_rfl) (by simp) ?_
        refine AllReadyH.cons rfl (fun K hK => ?_) AllReadyH.nil
        refine step_st rfl rowT (.tmp 8) (.tmp 14) rfl (by rfl) (by rfl) e1_0 HS1.out zero_size (tc_one _) ?_
        intro v1 d1_1 g1 z1
        have d0_1 := d0_0.grown g1 (by simp)
        have c0_1 := (c0_0).grown g1 (by intro h; injection h; omega)
        have c1_1 := (c1_0).grown g1 (by intro h; injection h; omega)
        have e2_1 := (e2_0).grown g1 (by simp)
        have c2_1 := (c2_0).grown g1 (by intro h; injection h; omega)
        have be1 := (be0).grown g1 (by have := (be0).size; first | exact this | omega) (fun q hq => by injection hq; omega)
        refine hK.out _ _ ⟨c0_1, c1_1, c2_1⟩ (fun _ => ?_)
        clear hK K
        refine wpAnyH_ready (rs := [8]) (by kernel_rfl) (by simp) ?_
        refine AllReadyH.cons rfl (fun K hK => ?_) AllReadyH.nil
        refine step_st rfl rowT (.tmp 9) (.tmp 15) rfl (by rfl) (by rfl) e2_1 HS2.out zero_size (tc_one _) ?_
        intro v2 d2_2 g2 z2
        have d0_2 := d0_1.grown g2 (by simp)
        have c0_2 := (c0_1).grown g2 (by intro h; injection h; omega)
        have d1_2 := d1_1.grown g2 (by simp)
        have c1_2 := (c1_1).grown g2 (by intro h; injection h; omega)
        have c2_2 := (c2_1).grown g2 (by intro h; injection h; omega)
        have be2 := (be1).grown g2 (by have := (be1).size; first | exact this | omega) (fun q hq => by injection hq; omega)
        refine hK.out _ _ ⟨c0_2, c1_2, c2_2⟩ (fun _ => ?_)
        clear hK K
        refine wpAnyH_done (by kernel_rfl) ?_ _
        have d0 := d0_2
        have c0 := c0_2
        have d1 := d1_2
        have c1 := c1_2
        have d2 := d2_2
        have c2 := c2_2
        have be := be2
        go_wp2_with fail
        go_meet
        exact ⟨_, _, _, rfl, rfl, rfl, d0, d1, d2, be⟩
      · go_simp
        refine hK.out _ _ ⟨((k0.alloc _).alloc _), ((k1.alloc _).alloc _), ((k2.alloc _).alloc _)⟩ (fun _ => ?_)
        clear hK K
        refine wpAnyH_ready (rs := [4]) (by kernel_rfl) (by simp) ?_
        refine AllReadyH.cons rfl (fun K hK => ?_) AllReadyH.nil
        go_simp
        refine hK.out _ _ ⟨(((k0.alloc _).alloc _).alloc _), (((k1.alloc _).alloc _).alloc _), (((k2.alloc _).alloc _).alloc _)⟩ (fun _ => ?_)
        clear hK K
        rw [← HH.out]
        refine wpAnyH_ready (rs := [6]) (by kernel_rfl) (by simp) ?_
        refine AllReadyH.cons rfl (fun K hK => ?_) AllReadyH.nil
        refine step_st rfl rowT (.tmp 7) (.tmp 13) rfl (by rfl) (by rfl) HN0.out HS0.out zero_size (tc_one _) ?_
        intro v0 d0_0 g0 z0
        have c0_0 := (HM0.out).grown g0 (by intro h; injection h; omega)
        have e1_0 := (HN2.out).grown g0 (by simp)
        have c1_0 := (HM1.out).grown g0 (by intro h; injection h; omega)
        have e2_0 := (HN1.out).grown g0 (by simp)
        have c2_0 := (HM2.out).grown g0 (by intro h; injection h; omega)
        have be0 := (HBN.out).grown g0 (by have := (HBN.out).size; first | exact this | omega) (fun q hq => by injection hq; omega)
        refine hK.out _ _ ⟨c0_0, c1_0, c2_0⟩ (fun _ => ?_)
        clear hK K
        refine wpAnyH_ready (rs := [7]) (by kernel_rfl) (by simp) ?_
        refine AllReadyH.cons rfl (fun K hK => ?_) AllReadyH.nil
        refine step_st rfl rowT (.tmp 8) (.tmp 14) rfl (by rfl) (by rfl) e1_0 HS1.out zero_size (tc_one _) ?_
        intro v1 d1_1 g1 z1
        have d0_1 := d0_0.grown g1 (by simp)
        have c0_1 := (c0_0).grown g1 (by intro h; injection h; omega)
        have c1_1 := (c1_0).grown g1 (by intro h; injection h; omega)
        have e2_1 := (e2_0).grown g1 (by simp)
        have c2_1 := (c2_0).grown g1 (by intro h; injection h; omega)
        have be1 := (be0).grown g1 (by have := (be0).size; first | exact this | omega) (fun q hq => by injection hq; omega)
        refine hK.out _ _ ⟨c0_1, c1_1, c2_1⟩ (fun _ => ?_)
        clear hK K
        refine wpAnyH_ready (rs := [8]) (by kernel_rfl) (by simp) ?_
        refine AllReadyH.cons rfl (fun K hK => ?_) AllReadyH.nil
        refine step_st rfl rowT (.tmp 9) (.tmp 15) rfl (by rfl) (by rfl) e2_1 HS2.out zero_size (tc_one _) ?_
        intro v2 d2_2 g2 z2
        have d0_2 := d0_1.grown g2 (by simp)
        have c0_2 := (c0_1).grown g2 (by intro h; injection h; omega)
        have d1_2 := d1_1.grown g2 (by simp)
        have c1_2 := (c1_1).grown g2 (by intro h; injection h; omega)
        have c2_2 := (c2_1).grown g2 (by intro h; injection h; omega)
        have be2 := (be1).grown g2 (by have := (be1).size; first | exact this | omega) (fun q hq => by injection hq; omega)
        refine hK.out _ _ ⟨c0_2, c1_2, c2_2⟩ (fun _ => ?_)
        clear hK K
        refine wpAnyH_done (by kernel_rfl) ?_ _
        have d0 := d0_2
        have c0 := c0_2
        have d1 := d1_2
        have c1 := c1_2
        have d2 := d2_2
        have c2 := c2_2
        have be := be2
        go_wp2_with fail
        go_meet
        exact ⟨_, _, _, rfl, rfl, rfl, d0, d1, d2, be⟩
    · go_simp
      refine hK.out _ _ ⟨(k0.alloc _), (k1.alloc _), (k2.alloc _)⟩ (fun _ => ?_)
      clear hK K
      refine wpAnyH_ready (rs := [3, 5]) (by kernel_rfl) (by simp) ?_
      refine AllReadyH.cons rfl (fun K hK => ?_) (AllReadyH.cons rfl (fun K hK => ?_) AllReadyH.nil)
      · go_simp
        refine hK.out _ _ ⟨((k0.alloc _).alloc _), ((k1.alloc _).alloc _), ((k2.alloc _).alloc _)⟩ (fun _ => ?_)
        clear hK K
        refine wpAnyH_ready (rs := [5]) (by kernel_rfl) (by simp) ?_
        refine AllReadyH.cons rfl (fun K hK => ?_) AllReadyH.nil
        go_simp
        refine hK.out _ _ ⟨(((k0.alloc _).alloc _).alloc _), (((k1.alloc _).alloc _).alloc _), (((k2.alloc _).alloc _).alloc _)⟩ (fun _ => ?_)
        clear hK K
        rw [← HH.out]
        refine wpAnyH_ready (rs := [6]) (by kernel_rfl) (by simp) ?_
        refine AllReadyH.cons rfl (fun K hK => ?_) AllReadyH.nil
        refine step_st rfl rowT (.tmp 7) (.tmp 13) rfl (by rfl) (by rfl) HN1.out HS0.out zero_size (tc_one _) ?_
        intro v0 d0_0 g0 z0
        have c0_0 := (HM0.out).grown g0 (by intro h; injection h; omega)
        have e1_0 := (HN0.out).grown g0 (by simp)
        have c1_0 := (HM1.out).grown g0 (by intro h; injection h; omega)
        have e2_0 := (HN2.out).grown g0 (by simp)
        have c2_0 := (HM2.out).grown g0 (by intro h; injection h; omega)
        have be0 := (HBN.out).grown g0 (by have := (HBN.out).size; first | exact this | omega) (fun q hq => by injection hq; omega)
        refine hK.out _ _ ⟨c0_0, c1_0, c2_0⟩ (fun _ => ?_)
        clear hK K
        refine wpAnyH_ready (rs := [7]) (by kernel_rfl) (by simp) ?_
        refine AllReadyH.cons rfl (fun K hK => ?_) AllReadyH.nil
        refine step_st rfl rowT (.tmp 8) (.tmp 14) rfl (by rfl) (by rfl) e1_0 HS1.out zero_size (tc_one _) ?_
        intro v1 d1_1 g1 z1
        have d0_1 := d0_0.grown g1 (by simp)
        have c0_1 := (c0_0).grown g1 (by intro h; injection h; omega)
        have c1_1 := (c1_0).grown g1 (by intro h; injection h; omega)
        have e2_1 := (e2_0).grown g1 (by simp)
        have c2_1 := (c2_0).grown g1 (by intro h; injection h; omega)
        have be1 := (be0).grown g1 (by have := (be0).size; first | exact this | omega) (fun q hq => by injection hq; omega)
        refine hK.out _ _ ⟨c0_1, c1_1, c2_1⟩ (fun _ => ?_)
        clear hK K
        refine wpAnyH_ready (rs := [8]) (by kernel_rfl) (by simp) ?_
        refine AllReadyH.cons rfl (fun K hK => ?_) AllReadyH.nil
        refine step_st rfl rowT (.tmp 9) (.tmp 15) rfl (by rfl) (by rfl) e2_1 HS2.out zero_size (tc_one _) ?_
        intro v2 d2_2 g2 z2
        have d0_2 := d0_1.grown g2 (by simp)
        have c0_2 := (c0_1).grown g2 (by intro h; injection h; omega)
        have d1_2 := d1_1.grown g2 (by simp)
        have c1_2 := (c1_1).grown g2 (by intro h; injection h; omega)
        have c2_2 := (c2_1).grown g2 (by intro h; injection h; omega)
        have be2 := (be1).grown g2 (by have := (be1).size; first | exact this | omega) (fun q hq => by injection hq; omega)
        refine hK.out _ _ ⟨c0_2, c1_2, c2_2⟩ (fun _ => ?_)
        clear hK K
        refine wpAnyH_done (by kernel_rfl) ?_ _
        have d0 := d0_2
        have c0 := c0_2
        have d1 := d1_2
        have c1 := c1_2
        have d2 := d2_2
        have c2 := c2_2
        have be := be2
        go_wp2_with fail
        go_meet
        exact ⟨_, _, _, rfl, rfl, rfl, d0, d1, d2, be⟩
      · go_simp
        refine hK.out _ _ ⟨((k0.alloc _).alloc _), ((k1.alloc _).alloc _), ((k2.alloc _).alloc _)⟩ (fun _ => ?_)
        clear hK K
        refine wpAnyH_ready (rs := [3]) (by kernel_rfl) (by simp) ?_
        refine AllReadyH.cons rfl (fun K hK => ?_) AllReadyH.nil
        go_simp
        refine hK.out _ _ ⟨(((k0.alloc _).alloc _).alloc _), (((k1.alloc _).alloc _).alloc _), (((k2.alloc _).alloc _).alloc _)⟩ (fun _ => ?_)
        clear hK K
        rw [← HH.out]
        refine wpAnyH_ready (rs := [6]) (by kernel_rfl) (by simp) ?_
        refine AllReadyH.cons rfl (fun K hK => ?_) AllReadyH.nil
        refine step_st rfl rowT (.tmp 7) (.tmp 13) rfl (by rfl) (by rfl) HN2.out HS0.out zero_size (tc_one _) ?_
        intro v0 d0_0 g0 z0
        have c0_0 := (HM0.out).grown g0 (by intro h; injection h; omega)
        have e1_0 := (HN0.out).grown g0 (by simp)
        have c1_0 := (HM1.out).grown g0 (by intro h; injection h; omega)
        have e2_0 := (HN1.out).grown g0 (by simp)
        have c2_0 := (HM2.out).grown g0 (by intro h; injection h; omega)
        have be0 := (HBN.out).grown g0 (by have := (HBN.out).size; first | exact this | omega) (fun q hq => by injection hq; omega)
        refine hK.out _ _ ⟨c0_0, c1_0, c2_0⟩ (fun _ => ?_)
        clear hK K
        refine wpAnyH_ready (rs := [7]) (by kernel_rfl) (by simp) ?_
        refine AllReadyH.cons rfl (fun K hK => ?_) AllReadyH.nil
        refine step_st rfl rowT (.tmp 8) (.tmp 14) rfl (by rfl) (by rfl) e1_0 HS1.out zero_size (tc_one _) ?_
        intro v1 d1_1 g1 z1
        have d0_1 := d0_0.grown g1 (by simp)
        have c0_1 := (c0_0).grown g1 (by intro h; injection h; omega)
        have c1_1 := (c1_0).grown g1 (by intro h; injection h; omega)
        have e2_1 := (e2_0).grown g1 (by simp)
        have c2_1 := (c2_0).grown g1 (by intro h; injection h; omega)
        have be1 := (be0).grown g1 (by have := (be0).size; first | exact this | omega) (fun q hq => by injection hq; omega)
        refine hK.out _ _ ⟨c0_1, c1_1, c2_1⟩ (fun _ => ?_)
        clear hK K
        refine wpAnyH_ready (rs := [8]) (by kernel_rfl) (by simp) ?_
        refine AllReadyH.cons rfl (fun K hK => ?_) AllReadyH.nil
        refine step_st rfl rowT (.tmp 9) (.tmp 15) rfl (by rfl) (by rfl) e2_1 HS2.out zero_size (tc_one _) ?_
        intro v2 d2_2 g2 z2
        have d0_2 := d0_1.grown g2 (by simp)
        have c0_2 := (c0_1).grown g2 (by intro h; injection h; omega)
        have d1_2 := d1_1.grown g2 (by simp)
        have c1_2 := (c1_1).grown g2 (by intro h; injection h; omega)
        have c2_2 := (c2_1).grown g2 (by intro h; injection h; omega)
        have be2 := (be1).grown g2 (by have := (be1).size; first | exact this | omega) (fun q hq => by injection hq; omega)
        refine hK.out _ _ ⟨c0_2, c1_2, c2_2⟩ (fun _ => ?_)
        clear hK K
        refine wpAnyH_done (by kernel_rfl) ?_ _
        have d0 := d0_2
        have c0 := c0_2
        have d1 := d1_2
        have c1 := c1_2
        have d2 := d2_2
        have c2 := c2_2
        have be := be2
        go_wp2_with fail
        go_meet
        exact ⟨_, _, _, rfl, rfl, rfl, d0, d1, d2, be⟩
    · go_simp
      refine hK.out _ _ ⟨(k0.alloc _), (k1.alloc _), (k2.alloc _)⟩ (fun _ => ?_)
      clear hK K
      refine wpAnyH_ready (rs := [3, 4]) (by kernel_rfl) (by simp) ?_
      refine AllReadyH.cons rfl (fun K hK => ?_) (AllReadyH.cons rfl (fun K hK => ?_) AllReadyH.nil)
      · go_simp
        refine hK.out _ _ ⟨((k0.alloc _).alloc _), ((k1.alloc _).alloc _), ((k2.alloc _).alloc _)⟩ (fun _ => ?_)
        clear hK K
        refine wpAnyH_ready (rs := [4]) (by kernel_rfl) (by simp) ?_
        refine AllReadyH.cons rfl (fun K hK => ?_) AllReadyH.nil
        go_simp
        refine hK.out _ _ ⟨(((k0.alloc _).alloc _).alloc _), (((k1.alloc _).alloc _).alloc _), (((k2.alloc _).alloc _).alloc _)⟩ (fun _ => ?_)
        clear hK K
        rw [← HH.out]
        refine wpAnyH_ready (rs := [6]) (by kernel_rfl) (by simp) ?_
        refine AllReadyH.cons rfl (fun K hK => ?_) AllReadyH.nil
        refine step_st rfl rowT (.tmp 7) (.tmp 13) rfl (by rfl) (by rfl) HN1.out HS0.out zero_size (tc_one _) ?_
        intro v0 d0_0 g0 z0
        have c0_0 := (HM0.out).grown g0 (by intro h; injection h; omega)
        have e1_0 := (HN2.out).grown g0 (by simp)
        have c1_0 := (HM1.out).grown g0 (by intro h; injection h; omega)
        have e2_0 := (HN0.out).grown g0 (by simp)
        have c2_0 := (HM2.out).grown g0 (by intro h; injection h; omega)
        have be0 := (HBN.out).grown g0 (by have := (HBN.out).size; first | exact this | omega) (fun q hq => by injection hq; omega)
        refine hK.out _ _ ⟨c0_0, c1_0, c2_0⟩ (fun _ => ?_)
        clear hK K
        refine wpAnyH_ready (rs := [7]) (by kernel_rfl) (by simp) ?_
        refine AllReadyH.cons rfl (fun K hK => ?_) AllReadyH.nil
        refine step_st rfl rowT (.tmp 8) (.tmp 14) rfl (by rfl) (by rfl) e1_0 HS1.out zero_size (tc_one _) ?_
        intro v1 d1_1 g1 z1
        have d0_1 := d0_0.grown g1 (by simp)
        have c0_1 := (c0_0).grown g1 (by intro h; injection h; omega)
        have c1_1 := (c1_0).grown g1 (by intro h; injection h; omega)
        have e2_1 := (e2_0).grown g1 (by simp)
        have c2_1 := (c2_0).grown g1 (by intro h; injection h; omega)
        have be1 := (be0).grown g1 (by have := (be0).size; first | exact this | omega) (fun q hq => by injection hq; omega)
        refine hK.out _ _ ⟨c0_1, c1_1, c2_1⟩ (fun _ => ?_)
        clear hK K
        refine wpAnyH_ready (rs := [8]) (by kernel_rfl) (by simp) ?_
        refine AllReadyH.cons rfl (fun K hK => ?_) AllReadyH.nil
        refine step_st rfl rowT (.tmp 9) (.tmp 15) rfl (by rfl) (by rfl) e2_1 HS2.out zero_size (tc_one _) ?_
        intro v2 d2_2 g2 z2
        have d0_2 := d0_1.grown g2 (by simp)
        have c0_2 := (c0_1).grown g2 (by intro h; injection h; omega)
        have d1_2 := d1_1.grown g2 (by simp)
        have c1_2 := (c1_1).grown g2 (by intro h; injection h; omega)
        have c2_2 := (c2_1).grown g2 (by intro h; injection h; omega)
        have be2 := (be1).grown g2 (by have := (be1).size; first | exact this | omega) (fun q hq => by injection hq; omega)
        refine hK.out _ _ ⟨c0_2, c1_2, c2_2⟩ (fun _ => ?_)
        clear hK K
        refine wpAnyH_done (by kernel_rfl) ?_ _
        have d0 := d0_2
        have c0 := c0_2
        have d1 := d1_2
        have c1 := c1_2
        have d2 := d2_2
        have c2 := c2_2
        have be := be2
        go_wp2_with fail
        go_meet
        exact ⟨_, _, _, rfl, rfl, rfl, d0, d1, d2, be⟩
      · go_simp
        refine hK.out _ _ ⟨((k0.alloc _).alloc _), ((k1.alloc _).alloc _), ((k2.alloc _).alloc _)⟩ (fun _ => ?_)
        clear hK K
        refine wpAnyH_ready (rs := [3]) (by kernel_rfl) (by simp) ?_
        refine AllReadyH.cons rfl (fun K hK => ?_) AllReadyH.nil
        go_simp
        refine hK.out _ _ ⟨(((k0.alloc _).alloc _).alloc _), (((k1.alloc _).alloc _).alloc _), (((k2.alloc _).alloc _).alloc _)⟩ (fun _ => ?_)
        clear hK K
        rw [← HH.out]
        refine wpAnyH_ready (rs := [6]) (by kernel_rfl) (by simp) ?_
        refine AllReadyH.cons rfl (fun K hK => ?_) AllReadyH.nil
        refine step_st rfl rowT (.tmp 7) (.tmp 13) rfl (by rfl) (by rfl) HN2.out HS0.out zero_size (tc_one _) ?_
        intro v0 d0_0 g0 z0
        have c0_0 := (HM0.out).grown g0 (by intro h; injection h; omega)
        have e1_0 := (HN1.out).grown g0 (by simp)
        have c1_0 := (HM1.out).grown g0 (by intro h; injection h; omega)
        have e2_0 := (HN0.out).grown g0 (by simp)
        have c2_0 := (HM2.out).grown g0 (by intro h; injection h; omega)
        have be0 := (HBN.out).grown g0 (by have := (HBN.out).size; first | exact this | omega) (fun q hq => by injection hq; omega)
        refine hK.out _ _ ⟨c0_0, c1_0, c2_0⟩ (fun _ => ?_)
        clear hK K
        refine wpAnyH_ready (rs := [7]) (by kernel_rfl) (by simp) ?_
        refine AllReadyH.cons rfl (fun K hK => ?_) AllReadyH.nil
        refine step_st rfl rowT (.tmp 8) (.tmp 14) rfl (by rfl) (by rfl) e1_0 HS1.out zero_size (tc_one _) ?_
        intro v1 d1_1 g1 z1
        have d0_1 := d0_0.grown g1 (by simp)
        have c0_1 := (c0_0).grown g1 (by intro h; injection h; omega)
        have c1_1 := (c1_0).grown g1 (by intro h; injection h; omega)
        have e2_1 := (e2_0).grown g1 (by simp)
        have c2_1 := (c2_0).grown g1 (by intro h; injection h; omega)
        have be1 := (be0).grown g1 (by have := (be0).size; first | exact this | omega) (fun q hq => by injection hq; omega)
        refine hK.out _ _ ⟨c0_1, c1_1, c2_1⟩ (fun _ => ?_)
        clear hK K
        refine wpAnyH_ready (rs := [8]) (by kernel_rfl) (by simp) ?_
        refine AllReadyH.cons rfl (fun K hK => ?_) AllReadyH.nil
        refine step_st rfl rowT (.tmp 9) (.tmp 15) rfl (by rfl) (by rfl) e2_1 HS2.out zero_size (tc_one _) ?_
        intro v2 d2_2 g2 z2
        have d0_2 := d0_1.grown g2 (by simp)
        have c0_2 := (c0_1).grown g2 (by intro h; injection h; omega)
        have d1_2 := d1_1.grown g2 (by simp)
        have c1_2 := (c1_1).grown g2 (by intro h; injection h; omega)
        have c2_2 := (c2_1).grown g2 (by intro h; injection h; omega)
        have be2 := (be1).grown g2 (by have := (be1).size; first | exact this | omega) (fun q hq => by injection hq; omega)
        refine hK.out _ _ ⟨c0_2, c1_2, c2_2⟩ (fun _ => ?_)
        clear hK K
        refine wpAnyH_done (by kernel_rfl) ?_ _
        have d0 := d0_2
        have c0 := c0_2
        have d1 := d1_2
        have c1 := c1_2
        have d2 := d2_2
        have c2 := c2_2
        have be := be2
        go_wp2_with fail
        go_meet
        exact ⟨_, _, _, rfl, rfl, rfl, d0, d1, d2, be⟩
  case rest =>
    clear k0 k1 k2 b0
    obtain ⟨g7, g8, g9, rfl, rfl, rfl, k7, k8, k9, b0⟩ := hcut
    go_wp2_with (first
      | ((with_reducible refine wpList_ld rowT k7 HS0.out ?_ ?_); rotate_left; (rfl))
      | ((with_reducible refine wpList_ld rowT k8 HS1.out ?_ ?_); rotate_left; (rfl)))
    refine (J0.out wc).mono ?_
    rintro e w4 ⟨rfl, h4⟩
    have k7a := k7.below h4 k7.lt
    have k8a := k8.below h4 k8.lt
    have k9a := k9.below h4 k9.lt
    have b4 := b0.trans (h4.mono b0.size)
    clear k7 k8 k9 b0 h4
    go_upto_region 5 with ((with_reducible refine wpList_st rowT (Blk.new _ _ _) HSX.out ?_ (tc_one xy) ?_ ?_ ?_); (rfl); rotate_left; (rfl); (rfl); intro w5 k10 g5 z5)
    have n7 : g7 ≠ w4.heap.size := by have := k7a.lt; omega
    have n8 : g8 ≠ w4.heap.size := by have := k8a.lt; omega
    have n9 : g9 ≠ w4.heap.size := by have := k9a.lt; omega
    have k7 := (k7a.alloc (.cells (tc zero) 26)).grown g5 (by intro h; injection h with h; exact n7 h.symm)
    have k8 := (k8a.alloc (.cells (tc zero) 26)).grown g5 (by intro h; injection h with h; exact n8 h.symm)
    have k9 := (k9a.alloc (.cells (tc zero) 26)).grown g5 (by intro h; injection h with h; exact n9 h.symm)
    have b5 : Below w.heap.size w w5 := ((b4.alloc b4.size _).grown g5 (by have := b4.size; simp; omega) (fun q hq => by injection hq with hq; have := b4.size; omega))
    obtain ⟨g10, hg10⟩ : ∃ g10, g10 = w4.heap.size := ⟨_, rfl⟩
    rw [← hg10] at k10 ⊢
    clear hg10 g5 z5 b4 k7a k8a k9a n7 n8 n9
    refine wp_region_below (by kernel_rfl) (by kernel_rfl) ?_
    intro T iT F hF hT
    have H7 := Lib.hid (show ∀ w', (∃ x, w' = F x) → Blk w' g7 26 (tc x) from fun w' ⟨x, hx⟩ => by rw [hx]; exact k7.below (hF x) k7.lt)
    have H8 := Lib.hid (show ∀ w', (∃ x, w' = F x) → Blk w' g8 26 (tc y) from fun w' ⟨x, hx⟩ => by rw [hx]; exact k8.below (hF x) k8.lt)
    have H9 := Lib.hid (show ∀ w', (∃ x, w' = F x) → Blk w' g9 26 (tc z) from fun w' ⟨x, hx⟩ => by rw [hx]; exact k9.below (hF x) k9.lt)
    have H10 := Lib.hid (show ∀ w', (∃ x, w' = F x) → Blk w' g10 26 (tc xy) from fun w' ⟨x, hx⟩ => by rw [hx]; exact k10.below (hF x) k10.lt)
    have HF := Lib.hid hF
    have HT := Lib.hid hT
    clear hF hT
    repeat (first
      | ((with_reducible refine quiet_ldg rowT H7.out HS0.out ?_ ?_ ?_); rotate_left; (rfl); (rfl); simp only [Act.put, List.setIfInBounds_toArray, List.set_cons_succ, List.set_cons_zero, eq_self, decide_true, Bool.not_true, Bool.not_false])
      | ((with_reducible refine quiet_ldg rowT H8.out HS1.out ?_ ?_ ?_); rotate_left; (rfl); (rfl); simp only [Act.put, List.setIfInBounds_toArray, List.set_cons_succ, List.set_cons_zero, eq_self, decide_true, Bool.not_true, Bool.not_false])
      | ((with_reducible refine quiet_ldg rowT H9.out HS2.out ?_ ?_ ?_); rotate_left; (rfl); (rfl); simp only [Act.put, List.setIfInBounds_toArray, List.set_cons_succ, List.set_cons_zero, eq_self, decide_true, Bool.not_true, Bool.not_false])
      | ((with_reducible refine quiet_ldg rowT H10.out HSX.out ?_ ?_ ?_); rotate_left; (rfl); (rfl); simp only [Act.put, List.setIfInBounds_toArray, List.set_cons_succ, List.set_cons_zero, eq_self, decide_true, Bool.not_true, Bool.not_false])
      | ((with_reducible refine quiet_ne twoT HLX.out HLX.out HRX.out HRX.out ?_ ?_ ?_ ?_); rotate_left; (rfl); (rfl); (rfl); simp only [Act.put, List.setIfInBounds_toArray, List.set_cons_succ, List.set_cons_zero, eq_self, decide_true, Bool.not_true, Bool.not_false])
      | ((with_reducible refine quiet_ne twoT HLZ.out HLZ.out HRZ.out HRZ.out ?_ ?_ ?_ ?_); rotate_left; (rfl); (rfl); (rfl); simp only [Act.put, List.setIfInBounds_toArray, List.set_cons_succ, List.set_cons_zero, eq_self, decide_true, Bool.not_true, Bool.not_false])
      | go_big_quiet_step ((first
        | (go_at_call_of 15 (Value.agg (tc yz)); exact calls_below HF.out HT.out (J4.out _))
        | (go_at_call_of 15 (Value.agg (tc xy)); go_at_call_of 15 (Value.agg (tc z)); exact calls_below HF.out HT.out (J2.out _))
        | (go_at_call_of 15 (Value.agg (tc xy)); go_at_call_of 15 (Value.agg (tc y)); exact calls_below HF.out HT.out (J6.out _))
        | (go_at_call_of 15 (Value.agg (tc xy)); exact calls_below HF.out HT.out (J5.out _))
        | (go_at_call_of 15 (Value.agg (tc z)); exact calls_below HF.out HT.out (J3.out _))
        | (go_at_call_of 15 (Value.agg (tc x)); exact calls_below HF.out HT.out (J1.out _)))))
    refine wpQuiet_nil ?_
    intro w' hw'
    obtain ⟨q, rfl⟩ := hw'
    have b6 := b5.trans ((HF.out q).mono b5.size)
    have k7b := H7.out _ ⟨q, rfl⟩
    have k8b := H8.out _ ⟨q, rfl⟩
    have k10b := H10.out _ ⟨q, rfl⟩
    clear HF HT H7 H8 H9 H10 k7 k8 k9 k10 b5
    generalize F q = w6 at *
    go_upto_region 7 with fail
    refine wp_region_below (by kernel_rfl) (by kernel_rfl) ?_
    intro T2 iT2 F2 hF2 hT2
    have H7 := Lib.hid (show ∀ w', (∃ x, w' = F2 x) → Blk w' g7 26 (tc x) from fun w' ⟨x, hx⟩ => by rw [hx]; exact k7b.below (hF2 x) k7b.lt)
    have H8 := Lib.hid (show ∀ w', (∃ x, w' = F2 x) → Blk w' g8 26 (tc y) from fun w' ⟨x, hx⟩ => by rw [hx]; exact k8b.below (hF2 x) k8b.lt)
    have H10 := Lib.hid (show ∀ w', (∃ x, w' = F2 x) → Blk w' g10 26 (tc xy) from fun w' ⟨x, hx⟩ => by rw [hx]; exact k10b.below (hF2 x) k10b.lt)
    have HF := Lib.hid hF2
    have HT := Lib.hid hT2
    clear hF2 hT2 k7b k8b k10b
    cases b
    case false =>
      repeat (first
        | ((with_reducible refine quiet_ldg rowT H7.out HS0.out ?_ ?_ ?_); rotate_left; (rfl); (rfl); simp only [Act.put, List.setIfInBounds_toArray, List.set_cons_succ, List.set_cons_zero, eq_self, decide_true, Bool.not_true, Bool.not_false])
        | ((with_reducible refine quiet_ldg rowT H8.out HS1.out ?_ ?_ ?_); rotate_left; (rfl); (rfl); simp only [Act.put, List.setIfInBounds_toArray, List.set_cons_succ, List.set_cons_zero, eq_self, decide_true, Bool.not_true, Bool.not_false])
        | ((with_reducible refine quiet_ldg rowT H10.out HSX.out ?_ ?_ ?_); rotate_left; (rfl); (rfl); simp only [Act.put, List.setIfInBounds_toArray, List.set_cons_succ, List.set_cons_zero, eq_self, decide_true, Bool.not_true, Bool.not_false])
        | ((with_reducible refine quiet_eq twoT HLX.out HLX.out HRX.out HRX.out ?_ ?_ ?_ ?_); rotate_left; (rfl); (rfl); (rfl); simp only [Act.put, List.setIfInBounds_toArray, List.set_cons_succ, List.set_cons_zero, eq_self, decide_true, Bool.not_true, Bool.not_false])
        | go_big_quiet_step ((first
          | (go_at_call_of 15 (Value.agg (tc y)); exact calls_below HF.out HT.out (J7.out _))
          | (go_at_call_of 17 (Value.agg (tc x)); go_at_call_of 17 (Value.agg (tc xy)); exact calls_below HF.out HT.out (W1.out _))
          | (go_at_call_of 17 (Value.agg (tc y)); go_at_call_of 17 (Value.agg (tc xy)); exact calls_below HF.out HT.out (W2.out _))
          | (go_at_call_of 17 (Value.agg (tc x)); go_at_call_of 17 (Value.agg (tc y)); exact calls_below HF.out HT.out (W3.out _))
          | (go_at_call 19; exact calls_below HF.out HT.out (M1.out _)))))
      refine wpQuiet_nil ?_
      intro w' hw'
      obtain ⟨q, rfl⟩ := hw'
      have b7 := b6.trans ((HF.out q).mono b6.size)
      clear HF HT H7 H8 H10
      go_wp2_with fail
      go_ret
      exact ⟨rfl, b7⟩
    case true =>
      obtain rfl := HZ.out rfl
      repeat (first
        | ((with_reducible refine quiet_ldg rowT H7.out HS0.out ?_ ?_ ?_); rotate_left; (rfl); (rfl); simp only [Act.put, List.setIfInBounds_toArray, List.set_cons_succ, List.set_cons_zero, eq_self, decide_true, Bool.not_true, Bool.not_false])
        | ((with_reducible refine quiet_ldg rowT H8.out HS1.out ?_ ?_ ?_); rotate_left; (rfl); (rfl); simp only [Act.put, List.setIfInBounds_toArray, List.set_cons_succ, List.set_cons_zero, eq_self, decide_true, Bool.not_true, Bool.not_false])
        | ((with_reducible refine quiet_ldg rowT H10.out HSX.out ?_ ?_ ?_); rotate_left; (rfl); (rfl); simp only [Act.put, List.setIfInBounds_toArray, List.set_cons_succ, List.set_cons_zero, eq_self, decide_true, Bool.not_true, Bool.not_false])
        | ((with_reducible refine quiet_eq twoT HLX.out HLX.out HRX.out HRX.out ?_ ?_ ?_ ?_); rotate_left; (rfl); (rfl); (rfl); simp only [Act.put, List.setIfInBounds_toArray, List.set_cons_succ, List.set_cons_zero, eq_self, decide_true, Bool.not_true, Bool.not_false])
        | ((with_reducible refine quiet_eq twoT zero_len zero_len (right_wf zero_right) (right_wf zero_right) ?_ ?_ ?_ ?_); rotate_left; (rfl); (rfl); (rfl); simp only [Act.put, List.setIfInBounds_toArray, List.set_cons_succ, List.set_cons_zero, eq_self, decide_true, Bool.not_true, Bool.not_false])
        | go_big_quiet_step ((first
          | (go_at_call_of 15 (Value.agg (tc y)); exact calls_below HF.out HT.out (J7.out _))
          | (go_at_call_of 17 (Value.agg (tc x)); go_at_call_of 17 (Value.agg (tc xy)); exact calls_below HF.out HT.out (W1.out _))
          | (go_at_call_of 17 (Value.agg (tc y)); go_at_call_of 17 (Value.agg (tc xy)); exact calls_below HF.out HT.out (W2.out _))
          | (go_at_call_of 17 (Value.agg (tc x)); go_at_call_of 17 (Value.agg (tc y)); exact calls_below HF.out HT.out (W3.out _))
          | (go_at_call 19; exact calls_below HF.out HT.out (M1.out _)))))
      refine wpQuiet_nil ?_
      intro w' hw'
      obtain ⟨q, rfl⟩ := hw'
      have b7 := b6.trans ((HF.out q).mono b6.size)
      clear HF HT H7 H8 H10
      go_wp2_with fail
      go_ret
      exact ⟨rfl, b7⟩
set_option maxRecDepth 100000 in
theorem lifted (os : Os) (started : os.Started) (H : Type) (enc : TypeId × Value → H) :
    ReturnsInHanded {} Try.checked os 6 .any (Rows.tallyJoinsSpec.pre6 enc Try.prog Try.f6 Rows.tallyJoinsRow.domain false) (Rows.tallyJoinsSpec.post enc Try.prog Try.f6 false true false false) := by
  refine returnsInHanded_of_change (C := Try.checked) own started (by kernel_rfl) Try.func6
    (ChangeSpec.witness6 (enc := enc) (C := Try.checked) false ⟨#[], #[.agg #[.int .i64 0, .int .i64 0, .int .i64 0, .int .i64 0, .int .i64 0, .int .i64 0, .int .i64 0, .int .i64 0, .int .i64 0, .int .i64 0, .int .i64 0, .int .i64 0, .int .i64 0, .int .i64 0, .int .i64 0, .int .i64 0], .agg #[.int .i64 0, .int .i64 0, .int .i64 0, .int .i64 0, .int .i64 0, .int .i64 0, .int .i64 0, .int .i64 0, .int .i64 0, .int .i64 0, .int .i64 0, .int .i64 0, .int .i64 0, .int .i64 0, .int .i64 0, .int .i64 0], .agg #[.int .i64 0, .int .i64 0, .int .i64 0, .int .i64 0, .int .i64 0, .int .i64 0, .int .i64 0, .int .i64 0, .int .i64 0, .int .i64 0, .int .i64 0, .int .i64 0, .int .i64 0, .int .i64 0, .int .i64 0, .int .i64 0]], []⟩ 8 (by kernel_rfl) (by kernel_rfl) (by kernel_rfl) (by kernel_rfl)) ?_
  intro W base args ds gs before hval0 hW hcnd _
  have hval : ∀ (j : Nat) t v, Try.f6.params[j]? = some t → args[j]? = some v → Value.okWide Try.prog W .any base t v := hval0
  have hW' := hW
  obtain ⟨p, q, hA0, hV, rfl, hfz, hnd⟩ := hW
  have hA : DataW.TrodAll enc Try.prog W 0 (fun _ => true) true Try.f6.params.toList args.toList ds p := hA0
  rw [Try.params6] at hA hval
  obtain ⟨v0, vs0, d0, ds0, p0, q0, hargs, rfl, rfl, h0, r0⟩ := trodAll_cons hA
  obtain ⟨v1, vs1, d1, ds1, p1, q1, rfl, rfl, rfl, h1, r1⟩ := trodAll_cons r0
  obtain ⟨v2, vs2, d2, ds2, p2, q2, rfl, rfl, rfl, h2, r2⟩ := trodAll_cons r1
  obtain ⟨rfl, rfl, rfl⟩ := trodAll_nil r2
  obtain rfl : args = #[v0, v1, v2] := by cases args; simp_all
  obtain ⟨rfl, rfl⟩ := trodVars_none hV
  have lt0 : ∀ x ∈ p0, x.block < W.heap.size := by obtain ⟨m, hm⟩ := h0; exact DataW.trod_lt m _ _ _ hm
  have k0 := h0
  have lt1 : ∀ x ∈ p1, x.block < W.heap.size := by obtain ⟨m, hm⟩ := h1; exact DataW.trod_lt m _ _ _ hm
  have k1 := h1
  have lt2 : ∀ x ∈ p2, x.block < W.heap.size := by obtain ⟨m, hm⟩ := h2; exact DataW.trod_lt m _ _ _ hm
  have k2 := h2
  obtain ⟨l0, rfl, n0, wf0⟩ := open_tally (hval 0 24 v0 rfl rfl) h0
  obtain ⟨l1, rfl, n1, wf1⟩ := open_tally (hval 1 24 v1 rfl rfl) h1
  obtain ⟨l2, rfl, n2, wf2⟩ := open_tally (hval 2 24 v2 rfl rfl) h2
  clear hA0 hval0
  refine (walk l0 l1 l2 W n0 wf0 n1 wf1 n2 wf2).mono fun e W' ⟨he, bel⟩ => ?_
  subst he
  exact ⟨_, rfl, _, _, _, [], _, [], hW', trodAll_mk1 (shut_bool Try.underlying4 _), (trodAll_cons_mk (Below.trod laidOut (by kernel_rfl) (of_decide_eq_true (by kernel_rfl)) k0 bel lt0) (trodAll_cons_mk (Below.trod laidOut (by kernel_rfl) (of_decide_eq_true (by kernel_rfl)) k1 bel lt1) (trodAll_cons_mk (Below.trod laidOut (by kernel_rfl) (of_decide_eq_true (by kernel_rfl)) k2 bel lt2) trodAll_mk0))), rfl, bel.frame _, fun h => by cases h⟩

theorem proved : Rows.TallyJoinsSaid :=
  OpenClaim.holds_of_wide 6 Try.f6 rfl rfl rfl rfl rfl rfl rfl ⟨rfl, rfl, rfl, rfl, rfl⟩ rfl rfl rfl rfl rfl (by kernel_rfl) Try.func6 (by kernel_rfl)
    (of_decide_eq_true (by kernel_rfl)) (by unfold Func.isWrapper; first | (rw [if_pos (by decide +kernel)]; kernel_rfl) | (rw [if_neg (by decide +kernel)]; exact ⟨rfl, rfl⟩))
    (fun os started H enc _ => lifted os started H enc)
#print axioms proved
end Go.Proofs.Ytoepklcmdmeanaa.TallyJoins
