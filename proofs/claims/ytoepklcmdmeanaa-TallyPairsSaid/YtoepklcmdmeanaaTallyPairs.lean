/- TallyPairs: what any two tallies know together, and more: the whole statement, without a condition. -/
import Derived.Test.YtoepklcmdmeanaaTallyOpen
import Derived.Test.YtoepklcmdmeanaaTallyAlive
import Derived.Test.YtoepklcmdmeanaaTallyWithin
namespace Go.Proofs.Ytoepklcmdmeanaa.TallyPairs
open Go.ChangeShapes Go.WideShapes Go.ChangeAt Go.RowKit Go.Deep
open Tally
set_option linter.unusedVariables false
set_option linter.unusedSimpArgs false
set_option maxRecDepth 100000 in
set_option maxHeartbeats 4000000 in
theorem walk (l m : List Int) (w : World) (hl : l.length = 16) (_ : Wf l) (hm : m.length = 16) (_ : Wf m) :
    Calls Try.prog 5 #[.agg (tc l), .agg (tc m)] w fun e w' => e = .returned (.bool true) ∧ Below w.heap.size w w' := by
  have HS0 := Lib.hid (show (tc l).size = 16 by rw [tc_size, hl])
  have HS1 := Lib.hid (show (tc m).size = 16 by rw [tc_size, hm])
  have HL := Lib.hid hl
  have HLM := Lib.hid hm
  have HJ := Lib.hid (show (joinL l m).length = 16 from bothL_len hl hm)
  have HJR := Lib.hid (right_wf (join_right hl hm))
  have HD := Lib.hid (show (moreL l m).length = 16 from bothL_len hl hm)
  have HDR := Lib.hid (right_wf (more_right hl hm))
  clear hl hm
  go_enter Try.func5, Try.ntmps5
  go_upto_region 1 with fail
  refine nameW ?_
  intro wv hwv
  obtain ⟨g, hg⟩ : ∃ g, g = w.heap.size := ⟨_, rfl⟩
  rw [← hg]
  have k0 : Blk wv g 24 (tc l) := by rw [hwv, hg]; exact (Blk.new w _ _).alloc _
  have k1 : Blk wv (g + 1) 24 (tc m) := by
    have h := Blk.new (w.alloc (.cells (tc l) 24)) 24 (tc m)
    rw [hwv, hg]
    simpa using h
  have hb : Below w.heap.size w wv := by rw [hwv]; exact ((Below.refl _ _).alloc (Nat.le_refl _) _).alloc (by simp) _
  have hgw : w.heap.size ≤ g := by omega
  clear hwv hg
  go_wp2_with fail
  refine (alive28 wv).mono ?_
  rintro e w1 ⟨rfl, h1⟩
  have k0' := k0.below h1 k0.lt
  have k1' := k1.below h1 k1.lt
  have b0 := hb.trans (h1.mono hb.size)
  clear k0 k1 hb h1
  have k0 := k0'
  have k1 := k1'
  clear k0' k1'
  go_upto_region 3 with fail
  go_cut [2, 3, 5, 6] (fun s2 s3 s5 s6 wx => ∃ g5 g6, s2 = .pointer (some ⟨g, 0, none⟩) ∧ s3 = .pointer (some ⟨g + 1, 0, none⟩) ∧ s5 = .pointer (some ⟨g5, 0, none⟩) ∧ s6 = .pointer (some ⟨g6, 0, none⟩) ∧ Blk wx g 24 (tc l) ∧ Blk wx (g + 1) 24 (tc m) ∧ Blk wx g5 26 (tc l) ∧ Blk wx g6 26 (tc m) ∧ Below w.heap.size w wx)
  case first =>
    obtain ⟨hh, hhe⟩ : ∃ hh, hh = w1.heap.size := ⟨_, rfl⟩
    have n0 : Blk ((w1.alloc (.cells (tc zero) 26)).alloc (.cells (tc zero) 26)) (hh) 26 (tc zero) := by
      have h := Blk.new w1 26 (tc zero)
      rw [hhe]
      have h2 := (h.alloc (.cells (tc zero) 26))
      simpa using h2
    have n1 : Blk ((w1.alloc (.cells (tc zero) 26)).alloc (.cells (tc zero) 26)) (hh + 1) 26 (tc zero) := by
      have h := Blk.new (w1.alloc (.cells (tc zero) 26)) 26 (tc zero)
      rw [hhe]
      simpa using h
    have m0 := ((k0.alloc (.cells (tc zero) 26)).alloc (.cells (tc zero) 26))
    have l0 : g < hh := by rw [hhe]; exact k0.lt
    have m1 := ((k1.alloc (.cells (tc zero) 26)).alloc (.cells (tc zero) 26))
    have l1 : (g + 1) < hh := by rw [hhe]; exact k1.lt
    have bn := ((b0.alloc (by have := b0.size; simp; omega) (.cells (tc zero) 26)).alloc (by have := b0.size; simp; omega) (.cells (tc zero) 26))
    have hwh := b0.size
    rw [← hhe] at hwh
    have HN0 := Lib.hid n0.drew
    have HM0 := Lib.hid m0.drew
    clear n0 m0
    have HN1 := Lib.hid n1.drew
    have HM1 := Lib.hid m1.drew
    clear n1 m1
    have HBN := Lib.hid bn.drew
    clear bn
    have HH := Lib.hid hhe
    rw [zero_tc] at HN0 HM0 HN1 HM1 HBN
    clear hhe
    refine wp_region_held_drew (S := fun w' => Blk w' g 24 (tc l) ∧ Blk w' (g + 1) 24 (tc m)) (by kernel_rfl) ⟨k0, k1⟩ (fun hS0 => ?_)
    refine wpAnyH_take (i := 0) rfl (by kernel_rfl) (by kernel_rfl) (by kernel_rfl) (fun _ _ _ h => h) (yieldsIf_ld (by rfl) rowR (.tmp 2) rfl (by rfl) (fun _ h => h.1) HS0.out) hS0 ?_
    simp only [Act.put, List.getElem_toArray, List.getElem_cons_zero, List.getElem_cons_succ, List.setIfInBounds_toArray, List.set_cons_succ, List.set_cons_zero]
    refine wpAnyH_take (i := 1) rfl (by kernel_rfl) (by kernel_rfl) (by kernel_rfl) (fun _ _ _ h => h) (yieldsIf_ld (by rfl) rowR (.tmp 3) rfl (by rfl) (fun _ h => h.2) HS1.out) hS0 ?_
    simp only [Act.put, List.getElem_toArray, List.getElem_cons_zero, List.getElem_cons_succ, List.setIfInBounds_toArray, List.set_cons_succ, List.set_cons_zero]
    refine wpAnyH_ready (rs := [2, 3]) (by kernel_rfl) (by simp) ?_
    refine AllReadyH.cons rfl (fun K hK => ?_) (AllReadyH.cons rfl (fun K hK => ?_) AllReadyH.nil)
    · go_simp
      refine hK.out _ _ ⟨(k0.alloc _), (k1.alloc _)⟩ (fun _ => ?_)
      clear hK K
      refine wpAnyH_ready (rs := [3]) (by kernel_rfl) (by simp) ?_
      refine AllReadyH.cons rfl (fun K hK => ?_) AllReadyH.nil
      go_simp
      refine hK.out _ _ ⟨((k0.alloc _).alloc _), ((k1.alloc _).alloc _)⟩ (fun _ => ?_)
      clear hK K
      rw [← HH.out]
      refine wpAnyH_ready (rs := [4]) (by kernel_rfl) (by simp) ?_
      refine AllReadyH.cons rfl (fun K hK => ?_) AllReadyH.nil
      refine step_st rfl rowT (.tmp 5) (.tmp 9) rfl (by rfl) (by rfl) HN0.out HS0.out zero_size (tc_one _) ?_
      intro v0 d0_0 g0 z0
      have c0_0 := (HM0.out).grown g0 (by intro h; injection h; omega)
      have e1_0 := (HN1.out).grown g0 (by simp)
      have c1_0 := (HM1.out).grown g0 (by intro h; injection h; omega)
      have be0 := (HBN.out).grown g0 (by have := (HBN.out).size; first | exact this | omega) (fun q hq => by injection hq; omega)
      refine hK.out _ _ ⟨c0_0, c1_0⟩ (fun _ => ?_)
      clear hK K
      refine wpAnyH_ready (rs := [5]) (by kernel_rfl) (by simp) ?_
      refine AllReadyH.cons rfl (fun K hK => ?_) AllReadyH.nil
      refine step_st rfl rowT (.tmp 6) (.tmp 10) rfl (by rfl) (by rfl) e1_0 HS1.out zero_size (tc_one _) ?_
      intro v1 d1_1 g1 z1
      have d0_1 := d0_0.grown g1 (by simp)
      have c0_1 := (c0_0).grown g1 (by intro h; injection h; omega)
      have c1_1 := (c1_0).grown g1 (by intro h; injection h; omega)
      have be1 := (be0).grown g1 (by have := (be0).size; first | exact this | omega) (fun q hq => by injection hq; omega)
      refine hK.out _ _ ⟨c0_1, c1_1⟩ (fun _ => ?_)
      clear hK K
      refine wpAnyH_done (by kernel_rfl) ?_ _
      have d0 := d0_1
      have c0 := c0_1
      have d1 := d1_1
      have c1 := c1_1
      have be := be1
      go_wp2_with fail
      go_meet
      exact ⟨_, _, rfl, rfl, rfl, rfl, c0, c1, d0, d1, be⟩
    · go_simp
      refine hK.out _ _ ⟨(k0.alloc _), (k1.alloc _)⟩ (fun _ => ?_)
      clear hK K
      refine wpAnyH_ready (rs := [2]) (by kernel_rfl) (by simp) ?_
      refine AllReadyH.cons rfl (fun K hK => ?_) AllReadyH.nil
      go_simp
      refine hK.out _ _ ⟨((k0.alloc _).alloc _), ((k1.alloc _).alloc _)⟩ (fun _ => ?_)
      clear hK K
      rw [← HH.out]
      refine wpAnyH_ready (rs := [4]) (by kernel_rfl) (by simp) ?_
      refine AllReadyH.cons rfl (fun K hK => ?_) AllReadyH.nil
      refine step_st rfl rowT (.tmp 5) (.tmp 9) rfl (by rfl) (by rfl) HN1.out HS0.out zero_size (tc_one _) ?_
      intro v0 d0_0 g0 z0
      have c0_0 := (HM0.out).grown g0 (by intro h; injection h; omega)
      have e1_0 := (HN0.out).grown g0 (by simp)
      have c1_0 := (HM1.out).grown g0 (by intro h; injection h; omega)
      have be0 := (HBN.out).grown g0 (by have := (HBN.out).size; first | exact this | omega) (fun q hq => by injection hq; omega)
      refine hK.out _ _ ⟨c0_0, c1_0⟩ (fun _ => ?_)
      clear hK K
      refine wpAnyH_ready (rs := [5]) (by kernel_rfl) (by simp) ?_
      refine AllReadyH.cons rfl (fun K hK => ?_) AllReadyH.nil
      refine step_st rfl rowT (.tmp 6) (.tmp 10) rfl (by rfl) (by rfl) e1_0 HS1.out zero_size (tc_one _) ?_
      intro v1 d1_1 g1 z1
      have d0_1 := d0_0.grown g1 (by simp)
      have c0_1 := (c0_0).grown g1 (by intro h; injection h; omega)
      have c1_1 := (c1_0).grown g1 (by intro h; injection h; omega)
      have be1 := (be0).grown g1 (by have := (be0).size; first | exact this | omega) (fun q hq => by injection hq; omega)
      refine hK.out _ _ ⟨c0_1, c1_1⟩ (fun _ => ?_)
      clear hK K
      refine wpAnyH_done (by kernel_rfl) ?_ _
      have d0 := d0_1
      have c0 := c0_1
      have d1 := d1_1
      have c1 := c1_1
      have be := be1
      go_wp2_with fail
      go_meet
      exact ⟨_, _, rfl, rfl, rfl, rfl, c0, c1, d0, d1, be⟩
  case rest =>
    clear k0 k1 b0
    obtain ⟨g5, g6, rfl, rfl, rfl, rfl, k0, k1, k5, k6, b0⟩ := hcut
    go_upto_region 4 with fail
    refine wp_region_below (by kernel_rfl) (by kernel_rfl) ?_
    intro T iT F hF hT
    have H0 := Lib.hid (show ∀ w', (∃ x, w' = F x) → Blk w' g 24 (tc l) from fun w' ⟨x, hx⟩ => by rw [hx]; exact k0.below (hF x) k0.lt)
    have H1 := Lib.hid (show ∀ w', (∃ x, w' = F x) → Blk w' (g + 1) 24 (tc m) from fun w' ⟨x, hx⟩ => by rw [hx]; exact k1.below (hF x) k1.lt)
    have H5 := Lib.hid (show ∀ w', (∃ x, w' = F x) → Blk w' g5 26 (tc l) from fun w' ⟨x, hx⟩ => by rw [hx]; exact k5.below (hF x) k5.lt)
    have H6 := Lib.hid (show ∀ w', (∃ x, w' = F x) → Blk w' g6 26 (tc m) from fun w' ⟨x, hx⟩ => by rw [hx]; exact k6.below (hF x) k6.lt)
    have HF := Lib.hid hF
    have HT := Lib.hid hT
    clear hF hT k0 k1 k5 k6
    repeat (first
      | ((with_reducible refine quiet_ldg rowR H0.out HS0.out ?_ ?_ ?_); rotate_left; (rfl); (rfl); simp only [Act.put, List.setIfInBounds_toArray, List.set_cons_succ, List.set_cons_zero, eq_self, decide_true])
      | ((with_reducible refine quiet_ldg rowR H1.out HS1.out ?_ ?_ ?_); rotate_left; (rfl); (rfl); simp only [Act.put, List.setIfInBounds_toArray, List.set_cons_succ, List.set_cons_zero, eq_self, decide_true])
      | ((with_reducible refine quiet_ldg rowT H5.out HS0.out ?_ ?_ ?_); rotate_left; (rfl); (rfl); simp only [Act.put, List.setIfInBounds_toArray, List.set_cons_succ, List.set_cons_zero, eq_self, decide_true])
      | ((with_reducible refine quiet_ldg rowT H6.out HS1.out ?_ ?_ ?_); rotate_left; (rfl); (rfl); simp only [Act.put, List.setIfInBounds_toArray, List.set_cons_succ, List.set_cons_zero, eq_self, decide_true])
      | ((with_reducible refine quiet_eq twoR HJ.out HJ.out HJR.out HJR.out ?_ ?_ ?_ ?_); rotate_left; (rfl); (rfl); (rfl); simp only [Act.put, List.setIfInBounds_toArray, List.set_cons_succ, List.set_cons_zero, eq_self, decide_true])
      | ((with_reducible refine quiet_eq twoR HD.out HD.out HDR.out HDR.out ?_ ?_ ?_ ?_); rotate_left; (rfl); (rfl); (rfl); simp only [Act.put, List.setIfInBounds_toArray, List.set_cons_succ, List.set_cons_zero, eq_self, decide_true])
      | go_big_quiet_step ((first
          | (go_at_call 15; exact calls_below HF.out HT.out (join_any l m _ HL.out HLM.out))
          | (go_at_call 16; exact calls_below HF.out HT.out (rjoin_any l m _ HL.out HLM.out))
          | (go_at_call 17; exact calls_below HF.out HT.out (within2_any l m _ HL.out HLM.out))
          | (go_at_call 18; exact calls_below HF.out HT.out (rwithin_any l m _ HL.out HLM.out))
          | (go_at_call 19; exact calls_below HF.out HT.out (more_any l m _ HL.out HLM.out))
          | (go_at_call 20; exact calls_below HF.out HT.out (rmore_any l m _ HL.out HLM.out)))))
    refine wpQuiet_nil ?_
    intro w' hw'
    obtain ⟨q, rfl⟩ := hw'
    have b6 := b0.trans ((HF.out q).mono b0.size)
    clear HF HT H0 H1 H5 H6
    go_wp2_with fail
    go_ret
    exact ⟨rfl, b6⟩
set_option maxRecDepth 100000 in
theorem lifted (os : Os) (started : os.Started) (H : Type) (enc : TypeId × Value → H) :
    ReturnsInHanded {} Try.checked os 5 .any (Rows.tallyPairsSpec.pre6 enc Try.prog Try.f5 Rows.tallyPairsRow.domain false) (Rows.tallyPairsSpec.post enc Try.prog Try.f5 false true false false) := by
  refine returnsInHanded_of_change (C := Try.checked) own started (by kernel_rfl) Try.func5
    (ChangeSpec.witness6 (enc := enc) (C := Try.checked) false ⟨#[], #[.agg #[.int .i64 0, .int .i64 0, .int .i64 0, .int .i64 0, .int .i64 0, .int .i64 0, .int .i64 0, .int .i64 0, .int .i64 0, .int .i64 0, .int .i64 0, .int .i64 0, .int .i64 0, .int .i64 0, .int .i64 0, .int .i64 0], .agg #[.int .i64 0, .int .i64 0, .int .i64 0, .int .i64 0, .int .i64 0, .int .i64 0, .int .i64 0, .int .i64 0, .int .i64 0, .int .i64 0, .int .i64 0, .int .i64 0, .int .i64 0, .int .i64 0, .int .i64 0, .int .i64 0]], []⟩ 8 (by kernel_rfl) (by kernel_rfl) (by kernel_rfl) (by kernel_rfl)) ?_
  intro W base args ds gs before hval0 hW hcnd _
  have hval : ∀ (j : Nat) t v, Try.f5.params[j]? = some t → args[j]? = some v → Value.okWide Try.prog W .any base t v := hval0
  have hW' := hW
  obtain ⟨p, q, hA0, hV, rfl, hfz, hnd⟩ := hW
  have hA : DataW.TrodAll enc Try.prog W 0 (fun _ => true) true Try.f5.params.toList args.toList ds p := hA0
  rw [Try.params5] at hA hval
  obtain ⟨v0, vs0, d0, ds0, p0, q0, hargs, rfl, rfl, h0, r0⟩ := trodAll_cons hA
  obtain ⟨v1, vs1, d1, ds1, p1, q1, rfl, rfl, rfl, h1, r1⟩ := trodAll_cons r0
  obtain ⟨rfl, rfl, rfl⟩ := trodAll_nil r1
  obtain rfl : args = #[v0, v1] := by cases args; simp_all
  obtain ⟨rfl, rfl⟩ := trodVars_none hV
  have lt0 : ∀ x ∈ p0, x.block < W.heap.size := by obtain ⟨m, hm⟩ := h0; exact DataW.trod_lt m _ _ _ hm
  have k0 := h0
  have lt1 : ∀ x ∈ p1, x.block < W.heap.size := by obtain ⟨m, hm⟩ := h1; exact DataW.trod_lt m _ _ _ hm
  have k1 := h1
  obtain ⟨l0, rfl, n0, wf0⟩ := open_tally (hval 0 24 v0 rfl rfl) h0
  obtain ⟨l1, rfl, n1, wf1⟩ := open_tally (hval 1 24 v1 rfl rfl) h1
  clear hA0 hval0
  refine (walk l0 l1 W n0 wf0 n1 wf1).mono fun e W' ⟨he, bel⟩ => ?_
  subst he
  exact ⟨_, rfl, _, _, _, [], _, [], hW', trodAll_mk1 (shut_bool Try.underlying4 _), (trodAll_cons_mk (Below.trod laidOut (by kernel_rfl) (of_decide_eq_true (by kernel_rfl)) k0 bel lt0) (trodAll_cons_mk (Below.trod laidOut (by kernel_rfl) (of_decide_eq_true (by kernel_rfl)) k1 bel lt1) trodAll_mk0)), rfl, bel.frame _, fun h => by cases h⟩

theorem proved : Rows.TallyPairsSaid :=
  OpenClaim.holds_of_wide 5 Try.f5 rfl rfl rfl rfl rfl rfl rfl ⟨rfl, rfl, rfl, rfl, rfl⟩ rfl rfl rfl rfl rfl (by kernel_rfl) Try.func5 (by kernel_rfl)
    (of_decide_eq_true (by kernel_rfl)) (by unfold Func.isWrapper; first | (rw [if_pos (by decide +kernel)]; kernel_rfl) | (rw [if_neg (by decide +kernel)]; exact ⟨rfl, rfl⟩))
    (fun os started H enc _ => lifted os started H enc)
#print axioms proved
end Go.Proofs.Ytoepklcmdmeanaa.TallyPairs
