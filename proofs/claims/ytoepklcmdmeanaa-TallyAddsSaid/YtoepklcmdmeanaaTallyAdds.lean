/- TallyAdds: a count turns the value by itself: the whole statement, without a condition. -/
import Derived.Test.YtoepklcmdmeanaaTallyOpen
import Derived.Test.YtoepklcmdmeanaaTallyAlive
import Derived.Test.YtoepklcmdmeanaaTallyLaw
namespace Go.Proofs.Ytoepklcmdmeanaa.TallyAdds
open Go.ChangeShapes Go.WideShapes Go.ChangeAt Go.RowKit Go.Deep
open Tally
set_option linter.unusedVariables false
set_option linter.unusedSimpArgs false
set_option maxRecDepth 100000 in
set_option maxHeartbeats 4000000 in
theorem walk (l : List Int) (x y : Int) (w : World) (hl : l.length = 16) (_ : Wf l) (_ : -9223372036854775808 ≤ x) (_ : x ≤ 9223372036854775807) (_ : -9223372036854775808 ≤ y) (_ : y ≤ 9223372036854775807) :
    Calls Try.prog 7 #[.agg (tc l), .int .i64 x, .int .i64 y] w fun e w' => e = .returned (.bool true) ∧ Below w.heap.size w w' := by
  have HS := Lib.hid (show (tc l).size = 16 by rw [tc_size, hl])
  have HL := Lib.hid hl
  have hrl := add_len hl x y
  have HRL := Lib.hid hrl.1
  have H24 := Lib.hid hrl.2
  have HRS := Lib.hid (show (tc (addL l x y).1).size = 16 by rw [tc_size, hrl.1])
  have HAC := Lib.hid (add_cases hl x y)
  clear hl hrl
  have k0 : Blk (w.alloc (.cells (tc l) 24)) w.heap.size 24 (tc l) := Blk.new w _ _
  have hb : Below w.heap.size w (w.alloc (.cells (tc l) 24)) := (Below.refl _ _).alloc (Nat.le_refl _) _
  go_enter Try.func7, Try.ntmps7
  go_upto_region 1 with fail
  refine nameW ?_
  intro wv hwv
  rw [← hwv] at k0 hb
  obtain ⟨g, hg⟩ : ∃ g, g = w.heap.size := ⟨_, rfl⟩
  rw [← hg] at k0 ⊢
  have hgw : w.heap.size ≤ g := by omega
  clear hwv hg
  go_wp2_with fail
  refine (alive28 wv).mono ?_
  rintro e w1 ⟨rfl, h1⟩
  have k1 := k0.below h1 k0.lt
  have b1 := hb.trans (h1.mono hb.size)
  clear k0 hb h1
  go_upto_region 4 with (first
    | ((with_reducible refine wpList_ld rowR k1 HS.out ?_ ?_); rotate_left; (rfl))
    | ((with_reducible refine wpList_st rowT (Blk.new _ _ _) HS.out ?_ (tc_one l) ?_ ?_ ?_); (rfl); rotate_left; (rfl); (rfl); intro w3 k7 g3 z3))
  have b3 : Below w.heap.size w w3 := ((b1.alloc b1.size _).grown g3 (by have := b1.size; simp; omega) (fun q hq => by injection hq with hq; have := b1.size; omega))
  obtain ⟨g7, hg7⟩ : ∃ g7, g7 = w1.heap.size := ⟨_, rfl⟩
  rw [← hg7] at k7 ⊢
  clear hg7 g3 z3 b1 k1
  go_wp2_with ((with_reducible refine wpList_ld rowT k7 HS.out ?_ ?_); rotate_left; (rfl))
  refine (add_any l x y w3 HL.out).mono ?_
  rintro e w4 ⟨rfl, h4⟩
  have k74 := k7.below h4 k7.lt
  have b4 := b3.trans (h4.mono b3.size)
  clear k7 b3 h4
  generalize hE : addL l x y = E at *
  clear hE
  obtain ⟨m, er⟩ := E
  simp only at HRL H24 HRS ⊢
  go_upto_region 5 with ((with_reducible refine wpList_st rowT (Blk.new _ _ _) HRS.out ?_ (tc_one m) ?_ ?_ ?_); (rfl); rotate_left; (rfl); (rfl); intro w5 k8 g5 z5)
  have hk75 : g7 ≠ w4.heap.size := by have := k74.lt; omega
  have k75 := (k74.alloc (.cells (tc zero) 26)).grown g5 (by intro h; injection h with h; exact hk75 h.symm)
  have b5 : Below w.heap.size w w5 := ((b4.alloc b4.size _).grown g5 (by have := b4.size; simp; omega) (fun q hq => by injection hq with hq; have := b4.size; omega))
  obtain ⟨g8, hg8⟩ : ∃ g8, g8 = w4.heap.size := ⟨_, rfl⟩
  rw [← hg8] at k8 ⊢
  clear hg8 g5 z5 b4 k74 hk75
  rcases HAC.out with ⟨er', he, hne⟩ | ⟨hr, hs, ha, ha0, hn, he, hmr⟩
  · injection he with he1 he2
    subst he1 he2
    have hd : (er != 0) = true := by rw [bne_iff_ne]; exact hne
    clear hne HAC
    go_wp2_with (first
      | ((with_reducible refine wpList_ld rowT k8 HRS.out ?_ ?_); rotate_left; (rfl))
      | ((with_reducible refine wpList_eq twoT HRL.out zero_len (right_wf H24.out) (right_wf zero_right) ?_ ?_ ?_ ?_); rotate_left; (rfl); (rfl); (rfl)))
    go_ret
    exact ⟨rfl, b5⟩
  · injection he with he1 he2
    subst he2
    have hv := add_value HL.out hr hs hmr hn
    have hw1 := add_with HL.out hr hs hmr ha
    have hw2 := add_back HL.out hr hs hmr ha
    have hj := add_join HL.out hr hs hmr ha
    have hz : decide (amt y = 0) = decide (y = 0) := decide_eq_decide.2 ha0
    rw [hz] at hw2
    rw [← he1] at hv hw1 hw2 hj
    have hvb : (-8796093022208 ≤ valueL l ∧ valueL l ≤ 8796093022208) ∧ -1099511627776 ≤ y ∧ y ≤ 1099511627776 := by
      have h1 := sumTo_bd (own_right l) 8
      have h2 : valueL l = sumTo (ownL l) 8 := rfl
      unfold top at h1
      have h3 := right_at hr (slot x y)
      have h4 := right_at hmr (slot x y)
      have h5 := add_at (a := amt y) HL.out hs (slot x y)
      unfold top at h3 h4
      have h6 : amt y ≤ 1099511627776 := by
        rcases h5 with h5 | h5
        · omega
        · exact absurd rfl h5.1
      split at hn <;> omega
    have HV := Lib.hid hv
    have HW1 := Lib.hid hw1
    have HW2 := Lib.hid hw2
    have HJ := Lib.hid hj
    have HVB := Lib.hid hvb
    clear hv hw1 hw2 hj hz hvb hr hs ha ha0 hn hmr he1 HAC
    have hq1 := fun w => value_any m w HRL.out
    rw [HV.out] at hq1
    have HQ1 := Lib.hid hq1
    have hq2 := fun w => within2_any l m w HL.out HRL.out
    rw [HW1.out] at hq2
    have HQ2 := Lib.hid hq2
    have hq3 := fun w => within2_any m l w HRL.out HL.out
    rw [HW2.out] at hq3
    have HQ3 := Lib.hid hq3
    have hq4 := fun w => join_any l m w HL.out HRL.out
    rw [HJ.out] at hq4
    have HQ4 := Lib.hid hq4
    clear hq1 hq2 hq3 hq4
    go_upto_region 7 with fail
    obtain ⟨⟨hv1, hv2⟩, hv3, hv4⟩ := HVB.out
    have hyy : (y == 0) = decide (y = 0) := rfl
    refine wp_region_below (by kernel_rfl) (by kernel_rfl) ?_
    intro T iT F hF hT
    have H7 := Lib.hid (show ∀ w', (∃ x, w' = F x) → Blk w' g7 26 (tc l) from fun w' ⟨x, hx⟩ => by rw [hx]; exact k75.below (hF x) k75.lt)
    have H8 := Lib.hid (show ∀ w', (∃ x, w' = F x) → Blk w' g8 26 (tc m) from fun w' ⟨x, hx⟩ => by rw [hx]; exact k8.below (hF x) k8.lt)
    have HF := Lib.hid hF
    have HT := Lib.hid hT
    clear hF hT k75 k8
    obtain ⟨b, hb1, hb2⟩ : ∃ b : Bool, decide (y = 0) = b ∧ (y == 0) = b := ⟨_, rfl, rfl⟩
    rw [hb1] at HQ3
    clear hyy hb1
    cases b
    all_goals
     repeat (first
      | ((with_reducible refine quiet_ldg rowT H7.out HS.out ?_ ?_ ?_); rotate_left; (rfl); (rfl); simp only [Act.put, List.setIfInBounds_toArray, List.set_cons_succ, List.set_cons_zero, eq_self, decide_true, Bool.not_true, Bool.not_false])
      | ((with_reducible refine quiet_ldg rowT H8.out HRS.out ?_ ?_ ?_); rotate_left; (rfl); (rfl); simp only [Act.put, List.setIfInBounds_toArray, List.set_cons_succ, List.set_cons_zero, eq_self, decide_true, Bool.not_true, Bool.not_false])
      | ((with_reducible refine quiet_eq twoT HRL.out HRL.out (right_wf H24.out) (right_wf H24.out) ?_ ?_ ?_ ?_); rotate_left; (rfl); (rfl); (rfl); simp only [Act.put, List.setIfInBounds_toArray, List.set_cons_succ, List.set_cons_zero, eq_self, decide_true, Bool.not_true, Bool.not_false])
      | go_big_quiet_step ((first
          | (go_at_call_of 13 (Value.agg (tc l)); exact calls_below HF.out HT.out (value_any l _ HL.out))
          | (go_at_call_of 13 (Value.agg (tc m)); exact calls_below HF.out HT.out (HQ1.out _))
          | (go_at_call 17; exact calls_below HF.out HT.out (HQ2.out _))
          | (go_at_call 17; exact calls_below HF.out HT.out (HQ3.out _))
          | (go_at_call 15; exact calls_below HF.out HT.out (HQ4.out _)))))
    all_goals
      refine wpQuiet_nil ?_
      intro w' hw'
      obtain ⟨q, rfl⟩ := hw'
      have b6 := b5.trans ((HF.out q).mono b5.size)
      clear HF HT H7 H8
      go_wp2_with fail
      go_ret
      exact ⟨rfl, b6⟩
set_option maxRecDepth 100000 in
theorem lifted (os : Os) (started : os.Started) (H : Type) (enc : TypeId × Value → H) :
    ReturnsInHanded {} Try.checked os 7 .any (Rows.tallyAddsSpec.pre6 enc Try.prog Try.f7 Rows.tallyAddsRow.domain false) (Rows.tallyAddsSpec.post enc Try.prog Try.f7 false true false false) := by
  refine returnsInHanded_of_change (C := Try.checked) own started (by kernel_rfl) Try.func7
    (ChangeSpec.witness6 (enc := enc) (C := Try.checked) false ⟨#[], #[.agg #[.int .i64 0, .int .i64 0, .int .i64 0, .int .i64 0, .int .i64 0, .int .i64 0, .int .i64 0, .int .i64 0, .int .i64 0, .int .i64 0, .int .i64 0, .int .i64 0, .int .i64 0, .int .i64 0, .int .i64 0, .int .i64 0], .int .i64 0, .int .i64 0], []⟩ 8 (by kernel_rfl) (by kernel_rfl) (by kernel_rfl) (by kernel_rfl)) ?_
  intro W base args ds gs before hval0 hW hcnd _
  have hval : ∀ (j : Nat) t v, Try.f7.params[j]? = some t → args[j]? = some v → Value.okWide Try.prog W .any base t v := hval0
  have hW' := hW
  obtain ⟨p, q, hA0, hV, rfl, hfz, hnd⟩ := hW
  have hA : DataW.TrodAll enc Try.prog W 0 (fun _ => true) true Try.f7.params.toList args.toList ds p := hA0
  rw [Try.params7] at hA hval
  obtain ⟨v0, vs0, d0, ds0, p0, q0, hargs, rfl, rfl, h0, r0⟩ := trodAll_cons hA
  obtain ⟨v1, vs1, d1, ds1, p1, q1, rfl, rfl, rfl, h1, r1⟩ := trodAll_cons r0
  obtain ⟨v2, vs2, d2, ds2, p2, q2, rfl, rfl, rfl, h2, r2⟩ := trodAll_cons r1
  obtain ⟨rfl, rfl, rfl⟩ := trodAll_nil r2
  obtain rfl : args = #[v0, v1, v2] := by cases args; simp_all
  obtain ⟨rfl, rfl⟩ := trodVars_none hV
  have lt0 : ∀ x ∈ p0, x.block < W.heap.size := by obtain ⟨m, hm⟩ := h0; exact DataW.trod_lt m _ _ _ hm
  have k0 := h0
  have lt1 : ∀ x ∈ p1, x.block < W.heap.size := by obtain ⟨m, hm⟩ := h1; exact DataW.trod_lt m _ _ _ hm
  have k1 := h1
  have lt2 : ∀ x ∈ p2, x.block < W.heap.size := by obtain ⟨m, hm⟩ := h2; exact DataW.trod_lt m _ _ _ hm
  have k2 := h2
  obtain ⟨l0, rfl, n0, wf0⟩ := open_tally (hval 0 24 v0 rfl rfl) h0
  obtain ⟨x1, rfl, rfl, rfl, wf1⟩ := open_int Try.underlying3 (hval 1 3 v1 rfl rfl) h1
  have hb1 : -9223372036854775808 ≤ x1 ∧ x1 ≤ 9223372036854775807 := by
    have hmin : IntKind.i64.min = -9223372036854775808 := rfl
    have hmax : IntKind.i64.max = 9223372036854775807 := rfl
    simp only [Lit.wf, Bool.and_eq_true, decide_eq_true_eq] at wf1
    omega
  obtain ⟨x2, rfl, rfl, rfl, wf2⟩ := open_int Try.underlying3 (hval 2 3 v2 rfl rfl) h2
  have hb2 : -9223372036854775808 ≤ x2 ∧ x2 ≤ 9223372036854775807 := by
    have hmin : IntKind.i64.min = -9223372036854775808 := rfl
    have hmax : IntKind.i64.max = 9223372036854775807 := rfl
    simp only [Lit.wf, Bool.and_eq_true, decide_eq_true_eq] at wf2
    omega
  clear hA0 hval0
  refine (walk l0 x1 x2 W n0 wf0 hb1.1 hb1.2 hb2.1 hb2.2).mono fun e W' ⟨he, bel⟩ => ?_
  subst he
  exact ⟨_, rfl, _, _, _, [], _, [], hW', trodAll_mk1 (shut_bool Try.underlying4 _), (trodAll_cons_mk (Below.trod laidOut (by kernel_rfl) (of_decide_eq_true (by kernel_rfl)) k0 bel lt0) (trodAll_cons_mk (Below.trod laidOut (by kernel_rfl) (of_decide_eq_true (by kernel_rfl)) k1 bel lt1) (trodAll_cons_mk (Below.trod laidOut (by kernel_rfl) (of_decide_eq_true (by kernel_rfl)) k2 bel lt2) trodAll_mk0))), rfl, bel.frame _, fun h => by cases h⟩

theorem proved : Rows.TallyAddsSaid :=
  OpenClaim.holds_of_wide 7 Try.f7 rfl rfl rfl rfl rfl rfl rfl ⟨rfl, rfl, rfl, rfl, rfl⟩ rfl rfl rfl rfl rfl (by kernel_rfl) Try.func7 (by kernel_rfl)
    (of_decide_eq_true (by kernel_rfl)) (by unfold Func.isWrapper; first | (rw [if_pos (by decide +kernel)]; kernel_rfl) | (rw [if_neg (by decide +kernel)]; exact ⟨rfl, rfl⟩))
    (fun os started H enc _ => lifted os started H enc)
#print axioms proved
end Go.Proofs.Ytoepklcmdmeanaa.TallyAdds
