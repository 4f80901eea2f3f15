/- EventOrder: of any two events just one is later, unless their times and dots are the same; later goes on: the whole statement, without a condition. -/
import Derived.Test.YtiemlnomlfebkaaEvOpen
import Derived.Test.YtiemlnomlfebkaaQuiet
namespace Go.Proofs.Ytiemlnomlfebkaa.EventOrder
open Go.ChangeShapes Go.WideShapes Go.ChangeAt Go.RowKit Go.Deep
open Dot Evt
set_option linter.unusedVariables false
set_option linter.unusedSimpArgs false
set_option maxRecDepth 100000 in
set_option maxHeartbeats 4000000 in
theorem walk (x : Ev) (A0 : Option Addr) (m0 c0 : Nat) (y : Ev) (A1 : Option Addr) (m1 c1 : Nat) (z : Ev) (A2 : Option Addr) (m2 c2 : Nat) (w : World) :
    Calls Try.prog 4 #[.agg (ec x (.slice A0 m0 c0)), .agg (ec y (.slice A1 m1 c1)), .agg (ec z (.slice A2 m2 c2))] w fun e w' => e = .returned (.bool true) ∧ Below w.heap.size w w' := by
  have hxy := fun w => later_any x y A0 A1 m0 c0 m1 c1 w
  have hyx := fun w => later_any y x A1 A0 m1 c1 m0 c0 w
  have hyz := fun w => later_any y z A1 A2 m1 c1 m2 c2 w
  have hxz := fun w => later_any x z A0 A2 m0 c0 m2 c2 w
  have hnone := @later_none x y
  have hnone2 := @later_none y x
  have hone := @later_one x y
  have hon := @later_on x y z
  generalize laterB x y = XY at *
  generalize laterB y x = YX at *
  generalize laterB y z = YZ at *
  generalize laterB x z = XZ at *
  obtain ⟨cx, hcx⟩ : ∃ cx, cx = ec x (.slice A0 m0 c0) := ⟨_, rfl⟩
  obtain ⟨cy, hcy⟩ : ∃ cy, cy = ec y (.slice A1 m1 c1) := ⟨_, rfl⟩
  obtain ⟨cz, hcz⟩ : ∃ cz, cz = ec z (.slice A2 m2 c2) := ⟨_, rfl⟩
  rw [← hcx, ← hcy] at hxy
  rw [← hcy, ← hcx] at hyx
  rw [← hcy, ← hcz] at hyz
  rw [← hcx, ← hcz] at hxz
  rw [← hcx, ← hcy, ← hcz]
  obtain ⟨⟨nx, qx⟩, tx, ex, ux, vx, px, lx⟩ := x
  obtain ⟨⟨ny, qy⟩, ty, ey, uy, vy, py, ly⟩ := y
  simp only at hnone hnone2 hone hon
  have X0 := Lib.hid (show cx[0]? = some (.int .i64 nx) by rw [hcx]; rfl)
  have X1 := Lib.hid (show cx[1]? = some (.int .i64 qx) by rw [hcx]; rfl)
  have X2 := Lib.hid (show cx[2]? = some (.int .i64 tx) by rw [hcx]; rfl)
  have Y0 := Lib.hid (show cy[0]? = some (.int .i64 ny) by rw [hcy]; rfl)
  have Y1 := Lib.hid (show cy[1]? = some (.int .i64 qy) by rw [hcy]; rfl)
  have Y2 := Lib.hid (show cy[2]? = some (.int .i64 ty) by rw [hcy]; rfl)
  have SX := Lib.hid (show cx.size = 14 by rw [hcx]; rfl)
  have SY := Lib.hid (show cy.size = 14 by rw [hcy]; rfl)
  have SZ := Lib.hid (show cz.size = 14 by rw [hcz]; rfl)
  have HXY := Lib.hid hxy
  have HYX := Lib.hid hyx
  have HYZ := Lib.hid hyz
  have HXZ := Lib.hid hxz
  have HN := Lib.hid hnone
  have HN2 := Lib.hid hnone2
  have HO := Lib.hid hone
  have HON := Lib.hid hon
  clear hxy hyx hyz hxz hnone hnone2 hone hon hcx hcy hcz
  go_enter Try.func4, Try.ntmps4
  go_upto_region 1 with fail
  refine nameW ?_
  intro wv hwv
  obtain ⟨b, hb⟩ : ∃ b, b = w.heap.size := ⟨_, rfl⟩
  rw [← hb]
  have kx : Blk wv b 28 cx := by rw [hwv, hb]; exact ((Blk.new w _ _).alloc _).alloc _
  have ky : Blk wv (b + 1) 28 cy := by
    have h := Blk.new (w.alloc (.cells cx 28)) 28 cy
    rw [show (w.alloc (.cells cx 28)).heap.size = w.heap.size + 1 by simp] at h
    rw [hwv, hb]
    exact h.alloc _
  have kz : Blk wv (b + 1 + 1) 28 cz := by
    have h := Blk.new ((w.alloc (.cells cx 28)).alloc (.cells cy 28)) 28 cz
    rw [show ((w.alloc (.cells cx 28)).alloc (.cells cy 28)).heap.size = w.heap.size + 1 + 1 by simp] at h
    rw [hwv, hb]
    exact h
  have gb : Below b w wv := by rw [hwv, hb]; exact (((Below.refl _ _).alloc (Nat.le_refl _) _).alloc (by simp) _).alloc (by simp; omega) _
  have HB := Lib.hid hb
  clear hwv hb
  go_wp2_with fail
  refine (alive07 wv).mono ?_
  rintro e w1 ⟨rfl, h1⟩
  have kx1 := kx.below h1 kx.lt
  have ky1 := ky.below h1 ky.lt
  have kz1 := kz.below h1 kz.lt
  have b1 := gb.trans (h1.mono (by have := kx.lt; omega))
  clear kx ky kz gb h1
  go_upto_region 3 with fail
  refine wp_region_below (by kernel_rfl) (by kernel_rfl) ?_
  intro T iT F hF hT
  have HF := Lib.hid hF
  have HT := Lib.hid hT
  clear hF hT
  (with_reducible refine quiet_ld rowE (fun w' hw' => by obtain ⟨qf, rfl⟩ := hw'; exact kx1.below (HF.out qf) kx1.lt) SX.out ?_ ?_); rotate_left; (rfl); simp only [Act.put, List.setIfInBounds_toArray, List.set_cons_succ, List.set_cons_zero]
  (with_reducible refine quiet_ld rowE (fun w' hw' => by obtain ⟨qf, rfl⟩ := hw'; exact ky1.below (HF.out qf) ky1.lt) SY.out ?_ ?_); rotate_left; (rfl); simp only [Act.put, List.setIfInBounds_toArray, List.set_cons_succ, List.set_cons_zero]
  go_big_quiet_step ((go_at_call 15; exact calls_below HF.out HT.out (HXY.out _)))
  (with_reducible refine quiet_ld rowE (fun w' hw' => by obtain ⟨qf, rfl⟩ := hw'; exact ky1.below (HF.out qf) ky1.lt) SY.out ?_ ?_); rotate_left; (rfl); simp only [Act.put, List.setIfInBounds_toArray, List.set_cons_succ, List.set_cons_zero]
  (with_reducible refine quiet_ld rowE (fun w' hw' => by obtain ⟨qf, rfl⟩ := hw'; exact kx1.below (HF.out qf) kx1.lt) SX.out ?_ ?_); rotate_left; (rfl); simp only [Act.put, List.setIfInBounds_toArray, List.set_cons_succ, List.set_cons_zero]
  go_big_quiet_step ((go_at_call 15; exact calls_below HF.out HT.out (HYX.out _)))
  repeat (go_big_quiet_step (fail))
  refine wpQuiet_nil ?_
  intro w' hw'
  obtain ⟨qf, rfl⟩ := hw'
  have bF := HF.out qf
  have kxF := kx1.below bF kx1.lt
  have kyF := ky1.below bF ky1.lt
  have kzF := kz1.below bF kz1.lt
  have hbF := b1.trans (bF.mono (by have := kx1.lt; omega))
  have hxs := kxF.lt
  clear HF HT HXY HYX kx1 ky1 kz1
  generalize F qf = wf at *
  have s0 := (kxF.cell 0).trans X0.out
  have s1 := (kxF.cell 1).trans X1.out
  have s2 := (kxF.cell 2).trans X2.out
  have r0 := (kyF.cell 0).trans Y0.out
  have r1 := (kyF.cell 1).trans Y1.out
  have r2 := (kyF.cell 2).trans Y2.out
  by_cases ht : tx = ty
  · subst ht
    by_cases hn : nx = ny
    · subst hn
      by_cases hq : qx = qy
      · subst hq
        obtain rfl : XY = false := HN.out rfl rfl
        obtain rfl : YX = false := HN2.out rfl rfl
        go_wp2_with fail
        go_ret
        exact ⟨rfl, by rw [← HB.out]; exact hbF⟩
      · have hv := Lib.hid <| HO.out (by rintro ⟨_, h⟩; exact hq (congrArg Prod.snd h))
        rcases YX with _ | _
        · obtain rfl : XY = true := hv
          go_wp2_with first
            | ((with_reducible refine wpList_ldg rowE kyF SY.out ?_ ?_ ?_); rotate_left; (rfl); (rfl))
            | ((with_reducible refine wpList_ldg rowE kzF SZ.out ?_ ?_ ?_); rotate_left; (rfl); (rfl))
          refine (HYZ.out _).mono ?_
          rintro e w2 ⟨rfl, b2⟩
          have hb2 := hbF.trans (b2.mono (by omega))
          have kxG := kxF.below b2 kxF.lt
          have kzG := kzF.below b2 kzF.lt
          clear kxF kzF kyF
          rcases YZ with _ | _
          · go_wp2_with fail
            go_ret
            exact ⟨rfl, by rw [← HB.out]; exact hb2⟩
          · obtain rfl : XZ = true := HON.out (by simp) (by simp)
            go_wp2_with first
              | ((with_reducible refine wpList_ldg rowE kxG SX.out ?_ ?_ ?_); rotate_left; (rfl); (rfl))
              | ((with_reducible refine wpList_ldg rowE kzG SZ.out ?_ ?_ ?_); rotate_left; (rfl); (rfl))
            refine (HXZ.out _).mono ?_
            rintro e w3 ⟨rfl, b3⟩
            have hb3 := hb2.trans (b3.mono (by have := b2.size; omega))
            go_wp2_with fail
            go_ret
            exact ⟨rfl, by rw [← HB.out]; exact hb3⟩
        · obtain rfl : XY = false := hv
          go_wp2_with fail
          go_ret
          exact ⟨rfl, by rw [← HB.out]; exact hbF⟩
    · have hv := Lib.hid <| HO.out (by rintro ⟨_, h⟩; exact hn (congrArg Prod.fst h))
      rcases YX with _ | _
      · obtain rfl : XY = true := hv
        go_wp2_with first
          | ((with_reducible refine wpList_ldg rowE kyF SY.out ?_ ?_ ?_); rotate_left; (rfl); (rfl))
          | ((with_reducible refine wpList_ldg rowE kzF SZ.out ?_ ?_ ?_); rotate_left; (rfl); (rfl))
        refine (HYZ.out _).mono ?_
        rintro e w2 ⟨rfl, b2⟩
        have hb2 := hbF.trans (b2.mono (by omega))
        have kxG := kxF.below b2 kxF.lt
        have kzG := kzF.below b2 kzF.lt
        clear kxF kzF kyF
        rcases YZ with _ | _
        · go_wp2_with fail
          go_ret
          exact ⟨rfl, by rw [← HB.out]; exact hb2⟩
        · obtain rfl : XZ = true := HON.out (by simp) (by simp)
          go_wp2_with first
            | ((with_reducible refine wpList_ldg rowE kxG SX.out ?_ ?_ ?_); rotate_left; (rfl); (rfl))
            | ((with_reducible refine wpList_ldg rowE kzG SZ.out ?_ ?_ ?_); rotate_left; (rfl); (rfl))
          refine (HXZ.out _).mono ?_
          rintro e w3 ⟨rfl, b3⟩
          have hb3 := hb2.trans (b3.mono (by have := b2.size; omega))
          go_wp2_with fail
          go_ret
          exact ⟨rfl, by rw [← HB.out]; exact hb3⟩
      · obtain rfl : XY = false := hv
        go_wp2_with fail
        go_ret
        exact ⟨rfl, by rw [← HB.out]; exact hbF⟩
  · have hv := Lib.hid <| HO.out (by rintro ⟨h, _⟩; exact ht h)
    have ht2 : (tx == ty) = false := by rw [beq_eq_false_iff_ne]; exact ht
    rcases YX with _ | _
    · obtain rfl : XY = true := hv
      go_wp2_with first
        | ((with_reducible refine wpList_ldg rowE kyF SY.out ?_ ?_ ?_); rotate_left; (rfl); (rfl))
        | ((with_reducible refine wpList_ldg rowE kzF SZ.out ?_ ?_ ?_); rotate_left; (rfl); (rfl))
      refine (HYZ.out _).mono ?_
      rintro e w2 ⟨rfl, b2⟩
      have hb2 := hbF.trans (b2.mono (by omega))
      have kxG := kxF.below b2 kxF.lt
      have kzG := kzF.below b2 kzF.lt
      clear kxF kzF kyF
      rcases YZ with _ | _
      · go_wp2_with fail
        go_ret
        exact ⟨rfl, by rw [← HB.out]; exact hb2⟩
      · obtain rfl : XZ = true := HON.out (by simp) (by simp)
        go_wp2_with first
          | ((with_reducible refine wpList_ldg rowE kxG SX.out ?_ ?_ ?_); rotate_left; (rfl); (rfl))
          | ((with_reducible refine wpList_ldg rowE kzG SZ.out ?_ ?_ ?_); rotate_left; (rfl); (rfl))
        refine (HXZ.out _).mono ?_
        rintro e w3 ⟨rfl, b3⟩
        have hb3 := hb2.trans (b3.mono (by have := b2.size; omega))
        go_wp2_with fail
        go_ret
        exact ⟨rfl, by rw [← HB.out]; exact hb3⟩
    · obtain rfl : XY = false := hv
      go_wp2_with fail
      go_ret
      exact ⟨rfl, by rw [← HB.out]; exact hbF⟩
set_option maxRecDepth 100000 in
theorem lifted (os : Os) (started : os.Started) (H : Type) (enc : TypeId × Value → H) :
    ReturnsInHanded {} Try.checked os 4 .any (Rows.eventOrderSpec.pre6 enc Try.prog Try.f4 Rows.eventOrderRow.domain false) (Rows.eventOrderSpec.post enc Try.prog Try.f4 false true false false) := by
  refine returnsInHanded_of_change (C := Try.checked) own started (by kernel_rfl) Try.func4
    (ChangeSpec.witness6 (enc := enc) (C := Try.checked) false ⟨#[], #[.agg (ec exZ (.slice none 0 0)), .agg (ec exZ (.slice none 0 0)), .agg (ec exZ (.slice none 0 0))], []⟩ 8 (by kernel_rfl) (by kernel_rfl) (by kernel_rfl) (by kernel_rfl)) ?_
  intro W base args ds gs before hval0 hW hcnd _
  have hval : ∀ (j : Nat) t v, Try.f4.params[j]? = some t → args[j]? = some v → Value.okWide Try.prog W .any base t v := hval0
  have hW' := hW
  obtain ⟨p, q, hA0, hV, rfl, hfz, hnd⟩ := hW
  have hA : DataW.TrodAll enc Try.prog W 0 (fun _ => true) true Try.f4.params.toList args.toList ds p := hA0
  rw [Try.params4] at hA hval
  obtain ⟨v0, vs0, d0, ds0, p0, q0, hargs, rfl, rfl, h0, r0⟩ := trodAll_cons hA
  obtain ⟨v1, vs1, d1, ds1, p1, q1, rfl, rfl, rfl, h1, r1⟩ := trodAll_cons r0
  obtain ⟨v2, vs2, d2, ds2, p2, q2, rfl, rfl, rfl, h2, r2⟩ := trodAll_cons r1
  obtain ⟨rfl, rfl, rfl⟩ := trodAll_nil r2
  obtain rfl : args = #[v0, v1, v2] := by cases args; simp_all
  obtain ⟨rfl, rfl⟩ := trodVars_none hV
  have lt0 : ∀ x ∈ p0, x.block < W.heap.size := by obtain ⟨m, hm⟩ := h0; exact DataW.trod_lt m _ _ _ hm
  have k0 := h0
  have lt1 : ∀ x ∈ p1, x.block < W.heap.size := by obtain ⟨m, hm⟩ := h1; exact DataW.trod_lt m _ _ _ hm
  have k1 := h1
  have lt2 : ∀ x ∈ p2, x.block < W.heap.size := by obtain ⟨m, hm⟩ := h2; exact DataW.trod_lt m _ _ _ hm
  have k2 := h2
  obtain ⟨e0, A0, n0, c0, rfl, hp0, w0, l0⟩ := open_ev (hval 0 28 v0 rfl rfl) h0
  obtain ⟨e1, A1, n1, c1, rfl, hp1, w1, l1⟩ := open_ev (hval 1 28 v1 rfl rfl) h1
  obtain ⟨e2, A2, n2, c2, rfl, hp2, w2, l2⟩ := open_ev (hval 2 28 v2 rfl rfl) h2
  clear hA0 hval0
  refine (walk e0 A0 n0 c0 e1 A1 n1 c1 e2 A2 n2 c2 W ).mono fun e W' ⟨he, bel⟩ => ?_
  subst he
  exact ⟨_, rfl, _, _, _, [], _, [], hW', trodAll_mk1 (shut_bool Try.underlying4 _), (trodAll_cons_mk (Below.trod laidOut (by kernel_rfl) (of_decide_eq_true (by kernel_rfl)) k0 bel lt0) (trodAll_cons_mk (Below.trod laidOut (by kernel_rfl) (of_decide_eq_true (by kernel_rfl)) k1 bel lt1) (trodAll_cons_mk (Below.trod laidOut (by kernel_rfl) (of_decide_eq_true (by kernel_rfl)) k2 bel lt2) trodAll_mk0))), rfl, bel.frame _, fun h => by cases h⟩

theorem proved : Rows.EventOrderSaid :=
  OpenClaim.holds_of_wide 4 Try.f4 rfl rfl rfl rfl rfl rfl rfl ⟨rfl, rfl, rfl, rfl, rfl⟩ rfl rfl rfl rfl rfl (by kernel_rfl) Try.func4 (by kernel_rfl)
    (of_decide_eq_true (by kernel_rfl)) (by unfold Func.isWrapper; first | (rw [if_pos (by decide +kernel)]; kernel_rfl) | (rw [if_neg (by decide +kernel)]; exact ⟨rfl, rfl⟩))
    (fun os started H enc _ => lifted os started H enc)
#print axioms proved
end Go.Proofs.Ytiemlnomlfebkaa.EventOrder
