/- TallyCounts: whether any tally may be, its value, and with any count: the whole statement, without a condition. -/
import Derived.Test.YtoepklcmdmeanaaTallyOpen
import Derived.Test.YtoepklcmdmeanaaTallyAlive
import Derived.Test.YtoepklcmdmeanaaTallyRAdd
namespace Go.Proofs.Ytoepklcmdmeanaa.TallyCounts
open Go.ChangeShapes Go.WideShapes Go.ChangeAt Go.RowKit Go.Deep
open Tally
set_option linter.unusedVariables false
set_option maxRecDepth 100000 in
set_option maxHeartbeats 2000000 in
theorem walk (l : List Int) (x y : Int) (w : World) (hl : l.length = 16) (hwf : Wf l) (_ : -9223372036854775808 ≤ x) (_ : x ≤ 9223372036854775807) (_ : -9223372036854775808 ≤ y) (_ : y ≤ 9223372036854775807) :
    Calls Try.prog 3 #[.agg (tc l), .int .i64 x, .int .i64 y] w fun e w' => e = .returned (.bool true) ∧ Below w.heap.size w w' := by
  have hs : (tc l).size = 16 := by rw [tc_size, hl]
  have HS := Lib.hid hs
  have HL := Lib.hid hl
  have hrl : (addL l x y).1.length = 16 ∧ rightB (addL l x y).1 = true := add_len hl x y
  have HRL := Lib.hid hrl.1
  have HRR := Lib.hid hrl.2
  have HRS := Lib.hid (show (tc (addL l x y).1).size = 16 by rw [tc_size, hrl.1])
  clear hl hs hrl
  have k0 : Blk (w.alloc (.cells (tc l) 24)) w.heap.size 24 (tc l) := Blk.new w _ _
  have hb : Below w.heap.size w (w.alloc (.cells (tc l) 24)) := (Below.refl _ _).alloc (Nat.le_refl _) _
  go_enter Try.func3, Try.ntmps3
  go_upto_region 1 with fail
  refine nameW ?_
  intro wv hwv
  rw [← hwv] at k0 hb
  obtain ⟨g, hg⟩ : ∃ g, g = w.heap.size := ⟨_, rfl⟩
  rw [← hg] at k0 ⊢
  have hgw : w.heap.size ≤ g := by omega
  clear hwv hg
  go_wp2_with fail
  refine (alive28 wv).mono ?_
  rintro e w1 ⟨rfl, h1⟩
  have k1 := k0.below h1 k0.lt
  have b1 := hb.trans (h1.mono hb.size)
  clear k0 hb h1
  go_wp2_with ((with_reducible refine wpList_ld rowR k1 HS.out ?_ ?_); rotate_left; (rfl))
  refine (add_any l x y w1 HL.out).mono ?_
  rintro e w2 ⟨rfl, h2⟩
  have k2 := k1.below h2 k1.lt
  have b2 := b1.trans (h2.mono b1.size)
  clear k1 b1 h2
  generalize hE : addL l x y = E at *
  have HE := Lib.hid hE
  clear hE
  obtain ⟨m, er⟩ := E
  simp only at HRL HRR HRS ⊢
  go_upto_region 4 with ((with_reducible refine wpList_st rowT (Blk.new _ _ _) HRS.out ?_ (tc_one m) ?_ ?_ ?_); (rfl); rotate_left; (rfl); (rfl); intro w3 k3 g3 z3)
  have hk23 : g ≠ w2.heap.size := by have := k2.lt; omega
  have k2b := (k2.alloc (.cells (tc zero) 26)).grown g3 (by intro h; injection h with h; exact hk23 h.symm)
  have b3 : Below w.heap.size w w3 := ((b2.alloc b2.size _).grown g3 (by have := b2.size; simp; omega) (fun q hq => by injection hq with hq; have := b2.size; omega))
  obtain ⟨g7, hg7⟩ : ∃ g7, g7 = w2.heap.size := ⟨_, rfl⟩
  rw [← hg7] at k3 ⊢
  clear hg7 g3 z3 b2 k2 hk23
  go_wp2_with ((with_reducible refine wpList_ld rowR k2b HS.out ?_ ?_); rotate_left; (rfl))
  refine (radd_any l x y w3 HL.out).mono ?_
  unfold AddEnd
  rw [HE.out]
  rintro e w4 ⟨rfl, h4⟩
  have k4 := k2b.below h4 k2b.lt
  have k7 := k3.below h4 k3.lt
  have b4 := b3.trans (h4.mono b3.size)
  clear k2b k3 b3 h4
  go_upto_region 5 with ((with_reducible refine wpList_st rowR (Blk.new _ _ _) HRS.out ?_ (tc_one m) ?_ ?_ ?_); (rfl); rotate_left; (rfl); (rfl); intro w5 k9 g5 z5)
  have hk45 : g ≠ w4.heap.size := by have := k4.lt; omega
  have hk75 : g7 ≠ w4.heap.size := by have := k7.lt; omega
  have k4b := (k4.alloc (.cells (tc zero) 24)).grown g5 (by intro h; injection h with h; exact hk45 h.symm)
  have k7b := (k7.alloc (.cells (tc zero) 24)).grown g5 (by intro h; injection h with h; exact hk75 h.symm)
  have b5 : Below w.heap.size w w5 := ((b4.alloc b4.size _).grown g5 (by have := b4.size; simp; omega) (fun q hq => by injection hq with hq; have := b4.size; omega))
  obtain ⟨g9, hg9⟩ : ∃ g9, g9 = w4.heap.size := ⟨_, rfl⟩
  rw [← hg9] at k9 ⊢
  clear hg9 g5 z5 b4 k4 k7 hk45 hk75
  refine wp_region_below (by kernel_rfl) (by kernel_rfl) ?_
  intro T iT F hF hT
  have S3 : ∀ w', (∃ x, w' = F x) → Blk w' g 24 (tc l) := fun w' ⟨x, hx⟩ => by rw [hx]; exact k4b.below (hF x) k4b.lt
  have S7 : ∀ w', (∃ x, w' = F x) → Blk w' g7 26 (tc m) := fun w' ⟨x, hx⟩ => by rw [hx]; exact k7b.below (hF x) k7b.lt
  have S9 : ∀ w', (∃ x, w' = F x) → Blk w' g9 24 (tc m) := fun w' ⟨x, hx⟩ => by rw [hx]; exact k9.below (hF x) k9.lt
  have HF := Lib.hid hF
  have HT := Lib.hid hT
  have H3 := Lib.hid S3
  have H7 := Lib.hid S7
  have H9 := Lib.hid S9
  clear hF hT S3 S7 S9
  repeat (first
    | ((with_reducible refine quiet_ldg rowR H3.out HS.out ?_ ?_ ?_); rotate_left; (rfl); (rfl); simp only [Act.put, List.setIfInBounds_toArray, List.set_cons_succ, List.set_cons_zero, eq_self, decide_true])
    | ((with_reducible refine quiet_ldg rowT H7.out HRS.out ?_ ?_ ?_); rotate_left; (rfl); (rfl); simp only [Act.put, List.setIfInBounds_toArray, List.set_cons_succ, List.set_cons_zero, eq_self, decide_true])
    | ((with_reducible refine quiet_ldg rowR H9.out HRS.out ?_ ?_ ?_); rotate_left; (rfl); (rfl); simp only [Act.put, List.setIfInBounds_toArray, List.set_cons_succ, List.set_cons_zero, eq_self, decide_true])
    | ((with_reducible refine quiet_eq twoR HRL.out HRL.out (right_wf HRR.out) (right_wf HRR.out) ?_ ?_ ?_ ?_); rotate_left; (rfl); (rfl); (rfl); simp only [Act.put, List.setIfInBounds_toArray, List.set_cons_succ, List.set_cons_zero, eq_self, decide_true])
    | go_big_quiet_step ((first
        | (go_at_call 11; exact calls_below HF.out HT.out (right_any l _ HL.out))
        | (go_at_call 12; exact calls_below HF.out HT.out (rright_any l _ HL.out))
        | (go_at_call 13; exact calls_below HF.out HT.out (value_any l _ HL.out))
        | (go_at_call 14; exact calls_below HF.out HT.out (rvalue_any l _ HL.out)))))
  refine wpQuiet_nil ?_
  intro w' hw'
  obtain ⟨q, rfl⟩ := hw'
  have b6 := b5.trans ((HF.out q).mono b5.size)
  clear HF HT H3 H7 H9
  go_wp2_with fail
  go_ret
  exact ⟨rfl, b6⟩
set_option maxRecDepth 100000 in
theorem lifted (os : Os) (started : os.Started) (H : Type) (enc : TypeId × Value → H) :
    ReturnsInHanded {} Try.checked os 3 .any (Rows.tallyCountsSpec.pre6 enc Try.prog Try.f3 Rows.tallyCountsRow.domain false) (Rows.tallyCountsSpec.post enc Try.prog Try.f3 false true false false) := by
  refine returnsInHanded_of_change (C := Try.checked) own started (by kernel_rfl) Try.func3
    (ChangeSpec.witness6 (enc := enc) (C := Try.checked) false ⟨#[], #[.agg #[.int .i64 0, .int .i64 0, .int .i64 0, .int .i64 0, .int .i64 0, .int .i64 0, .int .i64 0, .int .i64 0, .int .i64 0, .int .i64 0, .int .i64 0, .int .i64 0, .int .i64 0, .int .i64 0, .int .i64 0, .int .i64 0], .int .i64 0, .int .i64 0], []⟩ 8 (by kernel_rfl) (by kernel_rfl) (by kernel_rfl) (by kernel_rfl)) ?_
  intro W base args ds gs before hval0 hW hcnd _
  have hval : ∀ (j : Nat) t v, Try.f3.params[j]? = some t → args[j]? = some v → Value.okWide Try.prog W .any base t v := hval0
  have hW' := hW
  obtain ⟨p, q, hA0, hV, rfl, hfz, hnd⟩ := hW
  have hA : DataW.TrodAll enc Try.prog W 0 (fun _ => true) true Try.f3.params.toList args.toList ds p := hA0
  rw [Try.params3] at hA hval
  obtain ⟨v0, vs0, d0, ds0, p0, q0, hargs, rfl, rfl, h0, r0⟩ := trodAll_cons hA
  obtain ⟨v1, vs1, d1, ds1, p1, q1, rfl, rfl, rfl, h1, r1⟩ := trodAll_cons r0
  obtain ⟨v2, vs2, d2, ds2, p2, q2, rfl, rfl, rfl, h2, r2⟩ := trodAll_cons r1
  obtain ⟨rfl, rfl, rfl⟩ := trodAll_nil r2
  obtain rfl : args = #[v0, v1, v2] := by cases args; simp_all
  obtain ⟨rfl, rfl⟩ := trodVars_none hV
  have lt0 : ∀ x ∈ p0, x.block < W.heap.size := by obtain ⟨m, hm⟩ := h0; exact DataW.trod_lt m _ _ _ hm
  have k0 := h0
  have lt1 : ∀ x ∈ p1, x.block < W.heap.size := by obtain ⟨m, hm⟩ := h1; exact DataW.trod_lt m _ _ _ hm
  have k1 := h1
  have lt2 : ∀ x ∈ p2, x.block < W.heap.size := by obtain ⟨m, hm⟩ := h2; exact DataW.trod_lt m _ _ _ hm
  have k2 := h2
  obtain ⟨l0, rfl, n0, wf0⟩ := open_tally (hval 0 24 v0 rfl rfl) h0
  obtain ⟨x1, rfl, rfl, rfl, wf1⟩ := open_int Try.underlying3 (hval 1 3 v1 rfl rfl) h1
  have hb1 : -9223372036854775808 ≤ x1 ∧ x1 ≤ 9223372036854775807 := by
    have hmin : IntKind.i64.min = -9223372036854775808 := rfl
    have hmax : IntKind.i64.max = 9223372036854775807 := rfl
    simp only [Lit.wf, Bool.and_eq_true, decide_eq_true_eq] at wf1
    omega
  obtain ⟨x2, rfl, rfl, rfl, wf2⟩ := open_int Try.underlying3 (hval 2 3 v2 rfl rfl) h2
  have hb2 : -9223372036854775808 ≤ x2 ∧ x2 ≤ 9223372036854775807 := by
    have hmin : IntKind.i64.min = -9223372036854775808 := rfl
    have hmax : IntKind.i64.max = 9223372036854775807 := rfl
    simp only [Lit.wf, Bool.and_eq_true, decide_eq_true_eq] at wf2
    omega
  clear hA0 hval0
  refine (walk l0 x1 x2 W n0 wf0 hb1.1 hb1.2 hb2.1 hb2.2).mono fun e W' ⟨he, bel⟩ => ?_
  subst he
  exact ⟨_, rfl, _, _, _, [], _, [], hW', trodAll_mk1 (shut_bool Try.underlying4 _), (trodAll_cons_mk (Below.trod laidOut (by kernel_rfl) (of_decide_eq_true (by kernel_rfl)) k0 bel lt0) (trodAll_cons_mk (Below.trod laidOut (by kernel_rfl) (of_decide_eq_true (by kernel_rfl)) k1 bel lt1) (trodAll_cons_mk (Below.trod laidOut (by kernel_rfl) (of_decide_eq_true (by kernel_rfl)) k2 bel lt2) trodAll_mk0))), rfl, bel.frame _, fun h => by cases h⟩

theorem proved : Rows.TallyCountsSaid :=
  OpenClaim.holds_of_wide 3 Try.f3 rfl rfl rfl rfl rfl rfl rfl ⟨rfl, rfl, rfl, rfl, rfl⟩ rfl rfl rfl rfl rfl (by kernel_rfl) Try.func3 (by kernel_rfl)
    (of_decide_eq_true (by kernel_rfl)) (by unfold Func.isWrapper; first | (rw [if_pos (by decide +kernel)]; kernel_rfl) | (rw [if_neg (by decide +kernel)]; exact ⟨rfl, rfl⟩))
    (fun os started H enc _ => lifted os started H enc)
#print axioms proved
end Go.Proofs.Ytoepklcmdmeanaa.TallyCounts
