/- The walk of the document's Add. -/
import Derived.Test.YtacmdkjodnaohaaDotCopy
import Derived.Test.YtacmdkjodnaohaaDotLaw
namespace Go.Proofs.Ytacmdkjodnaohaa
open Go.RowKit
open Dot
set_option maxRecDepth 100000 in
set_option maxHeartbeats 2000000 in
theorem radd_any (s : SetV) (n q : Int) (w : World) (hU : s.U.length = 8) (hr : RdD w w.heap.size s.A s.n s.l) :
    Calls Try.prog 12 #[.agg (uc s.U (.slice s.A s.n s.c)), .agg #[.int .i64 n, .int .i64 q]] w (AddEnd w s.U s.l (n, q)) := by
  unfold AddEnd
  obtain ⟨E, hE⟩ : ∃ E, E = addE s.U s.l (n, q) := ⟨_, rfl⟩
  obtain ⟨G, hG⟩ : ∃ G, G = addG s.U s.l (n, q) := ⟨_, rfl⟩
  rw [← hE, ← hG]
  have HS := Lib.hid (uc_size hU (.slice s.A s.n s.c))
  obtain ⟨sc, hsc⟩ : ∃ sc, sc = uc s.U (.slice s.A s.n s.c) := ⟨_, rfl⟩
  rw [← hsc] at HS ⊢
  have hrh := fun w' (hb : Below w.heap.size w w') => rhas_any s.U hU s.A s.n s.c s.l n q w' ((hr.below hb).more hb.size)
  have hrl := fun w' (hb : Below w.heap.size w w') => rlist_any s.U hU s.A s.n s.c s.l w' ((hr.below hb).more hb.size)
  rw [← hsc] at hrh hrl
  have HRH := Lib.hid hrh
  have HRL := Lib.hid hrl
  have HSC := Lib.hid hsc
  clear hsc hrh hrl
  obtain ⟨zc, hzc⟩ : ∃ zc, zc = uc (uptoS noG) (.slice none 0 0) := ⟨_, rfl⟩
  have hzl : zc = #[.int .i64 0, .int .i64 0, .int .i64 0, .int .i64 0, .int .i64 0, .int .i64 0, .int .i64 0, .int .i64 0, .slice none 0 0] := by rw [hzc]; kernel_rfl
  have hz1 : (zeroValue 35).run Try.prog w = .ok (.agg zc) w := by rw [hzc]; kernel_rfl
  have ZS := Lib.hid (show zc.size = 9 by rw [hzl]; rfl)
  have Z1 := Lib.hid (show zc.all (·.oneCell') = true by rw [hzc]; exact uc_one rfl)
  have ZS2 := Lib.hid (show (#[.int .i64 0, .int .i64 0, .int .i64 0, .int .i64 0, .int .i64 0, .int .i64 0, .int .i64 0, .int .i64 0, .slice none 0 0] : Array Value).size = 9 from rfl)
  have Z12 := Lib.hid (show (#[.int .i64 0, .int .i64 0, .int .i64 0, .int .i64 0, .int .i64 0, .int .i64 0, .int .i64 0, .int .i64 0, .slice none 0 0] : Array Value).all (·.oneCell') = true by rw [← hzl, hzc]; exact uc_one rfl)
  have HZC := Lib.hid hzc
  have HZL := Lib.hid hzl
  clear hzc hzl hz1
  go_enter Try.func12, Try.ntmps12
  go_upto_region 1 with fail
  refine nameW ?_
  intro wv hwv
  obtain ⟨b, hb⟩ : ∃ b, b = w.heap.size := ⟨_, rfl⟩
  rw [← hb]
  have kb : Blk wv b 35 sc := by rw [hwv, hb]; exact ((Blk.new w _ _).alloc _).alloc _
  have kd : Blk wv (b + 1) 27 #[.int .i64 n, .int .i64 q] := by
    have h := (Blk.new (w.alloc (.cells sc 35)) 27 #[.int .i64 n, .int .i64 q]).alloc (.cells zc 35)
    rw [HZL.out] at h
    rw [hwv, hb]
    simpa using h
  have kz : Blk wv (b + 1 + 1) 35 zc := by
    have h := Blk.new ((w.alloc (.cells sc 35)).alloc (.cells #[.int .i64 n, .int .i64 q] 27)) 35 zc
    rw [HZL.out] at h ⊢
    rw [hwv, hb]
    simpa using h
  have gb : Below w.heap.size w wv := by rw [hwv]; exact (((Below.refl _ _).alloc (Nat.le_refl _) _).alloc (by simp) _).alloc (by simp; omega) _
  have hrv : RdD wv w.heap.size s.A s.n s.l := hr.below gb
  have hbw : w.heap.size ≤ b := by omega
  have t0 : wv.cell? ⟨b + 1, 0, none⟩ = some (.int .i64 n) := kd.cell 0
  have t1 : wv.cell? ⟨b + 1, 1, none⟩ = some (.int .i64 q) := kd.cell 1
  clear hwv hb
  go_wp2_with fail
  refine (rmay_any n q wv).mono ?_
  rintro e w1 ⟨rfl, h1⟩
  have kb1 := kb.below h1 kb.lt
  have kd1 := kd.below h1 kd.lt
  have kz1 := kz.below h1 kz.lt
  have b1 := gb.trans (h1.mono gb.size)
  have hr1 := hrv.below (h1.mono gb.size)
  clear kb kd kz gb t0 t1 h1 hrv
  by_cases hm : mayB (n, q) = true
  case neg =>
    have hm2 : mayB (n, q) = false := by simpa using hm
    have hE2 : E = 2 := by rw [hE]; unfold addE; rw [hm2]; rfl
    have hG2 : G = noG := by rw [hG]; unfold addG; rw [hm2]; rfl
    rw [hm2]
    clear hE hG hm
    subst hE2
    subst hG2
    go_wp2_with ((with_reducible refine wpList_st rowRS kz1 ZS2.out ZS.out Z12.out ?_ ?_ ?_); rotate_left; (rfl); (rfl); intro w7 k7 g7 z7)
    rw [← HZL.out, HZC.out] at k7
    have b7 := b1.grown g7 b1.size (fun q hq => by injection hq; omega)
    exact bodyPost_ret (v := .tuple #[.agg (uc (uptoS noG) (.slice none 0 0)), .int .i64 2]) (results_blk2 rfl rowRS k7 (by rw [← HZC.out]; exact ZS.out) rfl rfl) rfl ⟨none, 0, 0, rfl, by rw [more_no]; exact OwnD.nil _ _, b7⟩
  rw [hm]
  have t0 : w1.cell? ⟨b + 1, 0, none⟩ = some (.int .i64 n) := kd1.cell 0
  have t1 : w1.cell? ⟨b + 1, 1, none⟩ = some (.int .i64 q) := kd1.cell 1
  have HM := Lib.hid hm
  have HE := Lib.hid hE
  have HG := Lib.hid hG
  clear hE hG hm
  go_wp2_with ((with_reducible refine wpList_ld rowRS kb1 HS.out ?_ ?_); rotate_left; (rfl))
  refine (HRH.out w1 b1).mono ?_
  rintro e w2 ⟨rfl, h2⟩
  have kb2 := kb1.below h2 kb1.lt
  have kd2 := kd1.below h2 kd1.lt
  have kz2 := kz1.below h2 kz1.lt
  have b2 := b1.trans (h2.mono b1.size)
  have hr2 := hr1.below (h2.mono b1.size)
  clear kb1 kd1 kz1 b1 h2 t0 t1 hr1
  cases hh : hasB s.U s.l (n, q)
  case true =>
    have hE2 : E = 9 := by rw [HE.out]; unfold addE; rw [HM.out, hh]; rfl
    have hG2 : G = noG := by rw [HG.out]; unfold addG; rw [hh]; simp
    clear HE HG hh
    subst hE2
    subst hG2
    go_wp2_with ((with_reducible refine wpList_st rowRS kz2 ZS2.out ZS.out Z12.out ?_ ?_ ?_); rotate_left; (rfl); (rfl); intro w7 k7 g7 z7)
    rw [← HZL.out, HZC.out] at k7
    have b7 := b2.grown g7 b2.size (fun q hq => by injection hq; omega)
    exact bodyPost_ret (v := .tuple #[.agg (uc (uptoS noG) (.slice none 0 0)), .int .i64 9]) (results_blk2 rfl rowRS k7 (by rw [← HZC.out]; exact ZS.out) rfl rfl) rfl ⟨none, 0, 0, rfl, by rw [more_no]; exact OwnD.nil _ _, b7⟩
  case false =>
    have hE2 : E = 0 := by rw [HE.out]; unfold addE; rw [HM.out, hh]; rfl
    have hG2 : G = putG (hasG s.U s.l) (n, q) := by rw [HG.out]; unfold addG; rw [HM.out, hh]; simp
    have hG3 : G = listG (dotsS (hasG s.U s.l) ++ [(n, q)]) := by rw [hG2, listG_snoc, if_pos HM.out, listG_dots (hasG_in _ _)]
    have HG3 := Lib.hid hG3
    clear HE HG hh hG2 hG3
    subst hE2
    have hbz : b + 2 < w2.heap.size := kz2.lt
    go_upto_region 5 with fail
    refine wp_region_held_drew (S := fun w' => Below (b + 1 + 1) w2 w') (by kernel_rfl) (Below.refl _ _).drew (fun hS => ?_)
    refine wpAnyH_take (i := 0) rfl (by kernel_rfl) (by kernel_rfl) (by kernel_rfl) (fun _ _ _ h => h) (yieldsIf_ld (by rfl) rowRS (.tmp 2) rfl rfl (fun w hw => kb2.below hw (by omega)) HS.out) hS ?_
    simp only [Act.put, List.getElem_toArray, List.getElem_cons_zero, List.getElem_cons_succ, List.setIfInBounds_toArray, List.set_cons_succ, List.set_cons_zero]
    refine wpAnyH_take (i := 2) rfl (by kernel_rfl) (by kernel_rfl) (by kernel_rfl) (fun _ _ _ h => h) (yieldsIf_ld (by rfl) rowDt (.tmp 3) rfl rfl (fun w hw => kd2.below hw (by omega)) rfl) hS ?_
    simp only [Act.put, List.getElem_toArray, List.getElem_cons_zero, List.getElem_cons_succ, List.setIfInBounds_toArray, List.set_cons_succ, List.set_cons_zero]
    have gbd := b2.drew
    have kzd := kz2.drew
    refine wpAnyH_ready (rs := [1, 3]) (by kernel_rfl) (by simp) ?_
    refine AllReadyH.cons rfl (fun K hK => ?_) (AllReadyH.cons rfl (fun K hK => ?_) .nil)
    case' refine_1 =>
      go_simp
      refine (HRL.out _ gbd).mono ?_
      rintro e w3 ⟨A, m, c, rfl, o3, h3⟩
      have gX := gbd.trans (h3.mono gbd.size)
      have kX := kzd.below h3 kzd.lt
      have oX := o3.mono (base' := b + 1 + 1) (by simp; omega)
      refine hK.out _ _ (hS.trans (h3.mono (by simp; omega))) (fun hS => ?_)
      clear hK K
      refine wpAnyH_ready (rs := [3]) (by kernel_rfl) (by simp) ?_
      refine AllReadyH.cons rfl (fun K hK => ?_) .nil
      go_simp
      refine hK.out _ _ (hS.alloc (by have := hS.size; omega) _) (fun hS => ?_)
      clear hK K
      have rX := Rd.made w3 #[.int .i64 n, .int .i64 q] 27 (0, 0)
      have oY := oX.alloc (.cells #[.int .i64 n, .int .i64 q] 27)
      have kY := kX.alloc (.cells #[.int .i64 n, .int .i64 q] 27)
      have gY := gX.alloc gX.size (.cells #[.int .i64 n, .int .i64 q] 27)
      generalize w3.alloc (.cells #[.int .i64 n, .int .i64 q] 27) = wX at *
      generalize w3.heap.size = gx at *
      clear h3 o3 oX kX gX
    case' refine_2 =>
      go_simp
      refine hK.out _ _ (hS.alloc (by simp; omega) _) (fun hS => ?_)
      clear hK K
      have r3 := Rd.made w2.drew #[.int .i64 n, .int .i64 q] 27 (0, 0)
      have k3 := kzd.alloc (.cells #[.int .i64 n, .int .i64 q] 27)
      have g3 := gbd.alloc gbd.size (.cells #[.int .i64 n, .int .i64 q] 27)
      refine wpAnyH_ready (rs := [1]) (by kernel_rfl) (by simp) ?_
      refine AllReadyH.cons rfl (fun K hK => ?_) .nil
      go_simp
      refine (HRL.out _ g3).mono ?_
      rintro e wX ⟨A, m, c, rfl, o3, h3⟩
      refine hK.out _ _ (hS.trans (h3.mono (by simp; omega))) (fun hS => ?_)
      clear hK K
      have gY := g3.trans (h3.mono g3.size)
      have kY := k3.below h3 k3.lt
      have oY := o3.mono (base' := b + 1 + 1) (by simp; omega)
      have rX := r3.below (h3.mono (by simp))
      change Rd _ (w2.heap.size + 1) (some ⟨w2.heap.size, 0, none⟩) _ at rX
      have hbz2 := hbz
      generalize w2.heap.size = gx at *
      clear h3 o3 r3 k3 g3
    all_goals
      have hm1 : m ≤ 1000 := by
        have h1 := oY.1
        have h2 := dotsTo_len (hasG s.U s.l) 8
        have h3 : dotsS (hasG s.U s.l) = dotsTo (hasG s.U s.l) 8 := rfl
        rw [h3] at h1
        omega
      refine wpAnyH_ready (rs := [4]) (by kernel_rfl) (by simp) ?_
      refine AllReadyH.cons rfl (fun K hK => ?_) .nil
      refine step_appD rfl (.tmp 15) (.tmp 17) rfl (by rfl) oY (by rfl) (m := 1) (news := [(n, q)]) rX rfl (by omega) (Nat.le_of_lt kY.lt) ?_
      intro A5 c5 w5 o5 g5 m5 b5
      have k5 := kY.grown g5 (own_ne oY.2 kY (by decide))
      have gY5 := gY.trans (b5.mono (by omega))
      refine hK.out _ _ (hS.trans b5) (fun hS => ?_)
      clear hK K
      refine wpAnyH_ready (rs := [5]) (by kernel_rfl) (by simp) ?_
      refine AllReadyH.cons rfl (fun K hK => ?_) .nil
      go_simp
      refine (rof_any A5 (m + 1) c5 _ w5 o5.rd (by omega)).mono ?_
      rw [← HG3.out]
      rintro e w6 ⟨A6, m6, c6, rfl, o6, h6⟩
      have hk5 := k5.lt
      have k6 := k5.below h6 k5.lt
      have gY6 := gY5.trans (h6.mono gY5.size)
      have HS6 := Lib.hid (uc_size (show (uptoS G).length = 8 by simp [uptoS]) (.slice A6 m6 c6))
      refine hK.out _ _ (hS.trans (h6.mono (by omega))) (fun hS => ?_)
      clear hK K
      have o6b := o6.mono gY5.size
      have hne6 := own_ne o6b.2 k6 (by decide)
      refine wpAnyH_ready (rs := [6]) (by kernel_rfl) (by simp) ?_
      refine AllReadyH.cons rfl (fun K hK => ?_) .nil
      rw [if_pos (by rfl)]
      refine wp_store_mid 35 _ _ rfl (b + 1 + 1) 0 (uc (uptoS G) (.slice A6 m6 c6)) rfl rfl (fun j hj => ?_) (by rw [HS6.out]; kernel_rfl) (uc_one rfl) ?_
      · rw [k6.cell, k6.free]
        have h1 := ZS.out
        have h2 := HS6.out
        simp
        omega
      obtain ⟨cs', q1, q2, q3, q4⟩ := setCells_heap w6 (b + 1 + 1) (uc (uptoS G) (.slice A6 m6 c6)).toList 0 _ k6
      have hcs : cs' = uc (uptoS G) (.slice A6 m6 c6) := by
        apply Array.ext_getElem?
        intro i
        by_cases hi : i < 9
        · have := q4 i (by simpa [HS6.out] using hi) (by rw [ZS.out]; omega)
          simpa using this
        · rw [Array.getElem?_eq_none (by rw [q2, ZS.out]; omega), Array.getElem?_eq_none (by rw [HS6.out]; omega)]
      rw [hcs] at q1
      have g7 : w6.grownBy (w6.setCells (b + 1 + 1) 0 (uc (uptoS G) (.slice A6 m6 c6)).toList) (some (b + 1 + 1)) := by
        obtain ⟨e1, e2, e3, e4⟩ := setCells_size w6 (b + 1 + 1) (uc (uptoS G) (.slice A6 m6 c6)).toList 0
        exact ⟨e2, e3, e4, by rw [e1]; exact Nat.le_refl _, fun k hk hne => setCells_other w6 (b + 1 + 1) _ _ k (fun e => hne (by rw [e]))⟩
      have k7 : Blk (w6.setCells (b + 1 + 1) 0 (uc (uptoS G) (.slice A6 m6 c6)).toList) (b + 1 + 1) 35 (uc (uptoS G) (.slice A6 m6 c6)) := q1
      have o7 := o6b.grown g7 (.inr hne6)
      have gY7 := gY6.grown g7 gY6.size (fun q hq => by injection hq; omega)
      have hk6 := k6.lt
      have hS7 := hS.grown g7 (by omega) (fun q hq => by injection hq; omega)
      generalize w6.setCells (b + 1 + 1) 0 (uc (uptoS G) (.slice A6 m6 c6)).toList = w7 at *
      refine hK.out _ _ hS7 (fun hS => ?_)
      clear hK K
      refine wpAnyH_take (i := 7) (v := ?rv225) rfl (by kernel_rfl) (by kernel_rfl) (by kernel_rfl) (fun _ _ _ h => h) (Or.inl ⟨by rfl, ?ry225⟩) hS ?_
      case ry225 => (intro wS hSw; clear hSw; go_simp; (try with_reducible rfl))
      simp only [Act.put, List.getElem_toArray, List.getElem_cons_zero, List.getElem_cons_succ, List.setIfInBounds_toArray, List.set_cons_succ, List.set_cons_zero]
      refine wpAnyH_done (by kernel_rfl) ?_ _
      clear g7 q1 q2 q3 q4 hcs
      go_wp2_with fail
      exact bodyPost_ret (v := .tuple #[.agg (uc (uptoS G) (.slice A6 m6 c6)), .int .i64 0]) (results_blk2 rfl rowRS k7 HS6.out rfl rfl) rfl ⟨A6, m6, c6, rfl, o7, gY7⟩
end Go.Proofs.Ytacmdkjodnaohaa
