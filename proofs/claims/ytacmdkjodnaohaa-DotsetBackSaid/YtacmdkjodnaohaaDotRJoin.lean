/- The walk of the document's Join. -/
import Derived.Test.YtacmdkjodnaohaaDotLess
namespace Go.Proofs.Ytacmdkjodnaohaa
open Go.RowKit
open Dot
set_option maxRecDepth 100000 in
set_option maxHeartbeats 2000000 in
theorem rjoin_any (s u : SetV) (w : World) (hU : s.U.length = 8) (hU' : u.U.length = 8) (hr : RdD w w.heap.size s.A s.n s.l) (hr' : RdD w w.heap.size u.A u.n u.l) :
    Calls Try.prog 25 #[.agg (uc s.U (.slice s.A s.n s.c)), .agg (uc u.U (.slice u.A u.n u.c))] w (CopyEnd w (uptoS (orG (hasG s.U s.l) (hasG u.U u.l))) (moreS (orG (hasG s.U s.l) (hasG u.U u.l)))) := by
  unfold CopyEnd
  obtain ⟨G, hG⟩ : ∃ G, G = orG (hasG s.U s.l) (hasG u.U u.l) := ⟨_, rfl⟩
  rw [← hG]
  have HGE := Lib.hid hG
  clear hG
  have HS := Lib.hid (uc_size hU (.slice s.A s.n s.c))
  have HS' := Lib.hid (uc_size hU' (.slice u.A u.n u.c))
  obtain ⟨sc, hsc⟩ : ∃ sc, sc = uc s.U (.slice s.A s.n s.c) := ⟨_, rfl⟩
  obtain ⟨sd, hsd⟩ : ∃ sd, sd = uc u.U (.slice u.A u.n u.c) := ⟨_, rfl⟩
  have hr1 := fun w' (hb : Below w.heap.size w w') => rlist_any s.U hU s.A s.n s.c s.l w' ((hr.below hb).more hb.size)
  have hr2 := fun w' (hb : Below w.heap.size w w') => rlist_any u.U hU' u.A u.n u.c u.l w' ((hr'.below hb).more hb.size)
  rw [← hsc] at hr1
  rw [← hsd] at hr2
  rw [← hsc, ← hsd]
  rw [← hsc] at HS
  rw [← hsd] at HS'
  have HR1 := Lib.hid hr1
  have HR2 := Lib.hid hr2
  have HSC := Lib.hid hsc
  have HSD := Lib.hid hsd
  have HZ9 := Lib.hid (uc_size (show (uptoS noG).length = 8 by simp [uptoS]) (.slice none 0 0))
  clear hsc hsd hr1 hr2
  go_enter Try.func25, Try.ntmps25
  go_upto_region 1 with fail
  refine nameW ?_
  intro wv hwv
  obtain ⟨b, hb⟩ : ∃ b, b = w.heap.size := ⟨_, rfl⟩
  rw [← hb]
  have kb : Blk wv b 35 sc := by rw [hwv, hb]; exact ((Blk.new w _ _).alloc _).alloc _
  have kd : Blk wv (b + 1) 35 sd := by
    have h := (Blk.new (w.alloc (.cells sc 35)) 35 sd).alloc (.cells #[.int .i64 0, .int .i64 0, .int .i64 0, .int .i64 0, .int .i64 0, .int .i64 0, .int .i64 0, .int .i64 0, .slice none 0 0] 35)
    rw [hwv, hb]
    simpa using h
  have kz : Blk wv (b + 1 + 1) 35 (uc (uptoS noG) (.slice none 0 0)) := by
    have h := Blk.new ((w.alloc (.cells sc 35)).alloc (.cells sd 35)) 35 (uc (uptoS noG) (.slice none 0 0))
    have hz : uc (uptoS noG) (.slice none 0 0) = #[.int .i64 0, .int .i64 0, .int .i64 0, .int .i64 0, .int .i64 0, .int .i64 0, .int .i64 0, .int .i64 0, .slice none 0 0] := by kernel_rfl
    rw [hz] at h ⊢
    rw [hwv, hb]
    simpa using h
  have gb : Below w.heap.size w wv := by rw [hwv]; exact (((Below.refl _ _).alloc (Nat.le_refl _) _).alloc (by simp) _).alloc (by simp; omega) _
  have hbw : w.heap.size ≤ b := by omega
  have hbz : b + 2 < wv.heap.size := kz.lt
  clear hwv hb
  refine wp_region_held_drew (S := fun w' => Below (b + 1 + 1) wv w') (by kernel_rfl) (Below.refl _ _).drew (fun hS => ?_)
  refine wpAnyH_take (i := 0) rfl (by kernel_rfl) (by kernel_rfl) (by kernel_rfl) (fun _ _ _ h => h) (yieldsIf_ld (by rfl) rowRS (.tmp 2) rfl rfl (fun w hw => kb.below hw (by omega)) HS.out) hS ?_
  simp only [Act.put, List.getElem_toArray, List.getElem_cons_zero, List.getElem_cons_succ, List.setIfInBounds_toArray, List.set_cons_succ, List.set_cons_zero]
  refine wpAnyH_take (i := 2) rfl (by kernel_rfl) (by kernel_rfl) (by kernel_rfl) (fun _ _ _ h => h) (yieldsIf_ld (by rfl) rowRS (.tmp 3) rfl rfl (fun w hw => kd.below hw (by omega)) HS'.out) hS ?_
  simp only [Act.put, List.getElem_toArray, List.getElem_cons_zero, List.getElem_cons_succ, List.setIfInBounds_toArray, List.set_cons_succ, List.set_cons_zero]
  have gbd := gb.drew
  have kzd := kz.drew
  refine wpAnyH_ready (rs := [1]) (by kernel_rfl) (by simp) ?_
  refine AllReadyH.cons rfl (fun K hK => ?_) .nil
  go_simp
  refine (HR1.out _ gbd).mono ?_
  rintro e w3 ⟨A, m, c, rfl, o3, h3⟩
  have gX := gbd.trans (h3.mono gbd.size)
  have kX := kzd.below h3 kzd.lt
  refine hK.out _ _ (hS.trans (h3.mono (by simp; omega))) (fun hS => ?_)
  clear hK K
  refine wpAnyH_ready (rs := [3]) (by kernel_rfl) (by simp) ?_
  refine AllReadyH.cons rfl (fun K hK => ?_) .nil
  go_simp
  refine (HR2.out _ gX).mono ?_
  rintro e wX ⟨A', m', c', rfl, o4, h4⟩
  have gY := gX.trans (h4.mono gX.size)
  have kY := kX.below h4 kX.lt
  have o3' := (o3.mono (base' := b + 1 + 1) (by simp; omega)).below h4 (Nat.le_refl _)
  refine hK.out _ _ (hS.trans (h4.mono (by have := h3.size; simp at this; omega))) (fun hS => ?_)
  clear hK K
  have hm1 : m ≤ 800 := by
    have h1 := o3.1
    have h2 := dotsTo_len (hasG s.U s.l) 8
    have h5 : dotsS (hasG s.U s.l) = dotsTo (hasG s.U s.l) 8 := rfl
    rw [h5] at h1
    omega
  have hm2 : m' ≤ 800 := by
    have h1 := o4.1
    have h2 := dotsTo_len (hasG u.U u.l) 8
    have h5 : dotsS (hasG u.U u.l) = dotsTo (hasG u.U u.l) 8 := rfl
    rw [h5] at h1
    omega
  refine wpAnyH_ready (rs := [4]) (by kernel_rfl) (by simp) ?_
  refine AllReadyH.cons rfl (fun K hK => ?_) .nil
  refine step_appD rfl (.tmp 6) (.tmp 8) rfl (by rfl) o3' (by rfl) (news := dotsS (hasG u.U u.l)) o4.raw o4.1 (by omega) (Nat.le_of_lt kY.lt) ?_
  intro A5 c5 w5 o5 g5 m5 b5
  have k5 := kY.grown g5 (own_ne o3'.2 kY (by decide))
  have gY5 := gY.trans (b5.mono (by omega))
  refine hK.out _ _ (hS.trans b5) (fun hS => ?_)
  clear hK K
  refine wpAnyH_ready (rs := [5]) (by kernel_rfl) (by simp) ?_
  refine AllReadyH.cons rfl (fun K hK => ?_) .nil
  go_simp
  refine (rof_any A5 (m + m') c5 _ w5 o5.rd (by omega)).mono ?_
  rw [show listG (dotsS (hasG s.U s.l) ++ dotsS (hasG u.U u.l)) = G by rw [listG_app, listG_dots (hasG_in _ _), listG_dots (hasG_in _ _), HGE.out]]
  rintro e w6 ⟨A6, m6, c6, rfl, o6, h6⟩
  have hk5 := k5.lt
  have k6 := k5.below h6 k5.lt
  have gY6 := gY5.trans (h6.mono gY5.size)
  have HS6 := Lib.hid (uc_size (show (uptoS G).length = 8 by simp [uptoS]) (.slice A6 m6 c6))
  refine hK.out _ _ (hS.trans (h6.mono (by omega))) (fun hS => ?_)
  clear hK K
  have o6b := o6.mono gY5.size
  have hne6 := own_ne o6b.2 k6 (by decide)
  refine wpAnyH_ready (rs := [6]) (by kernel_rfl) (by simp) ?_
  refine AllReadyH.cons rfl (fun K hK => ?_) .nil
  rw [if_pos (by rfl)]
  refine wp_store_mid 35 _ _ rfl (b + 1 + 1) 0 (uc (uptoS G) (.slice A6 m6 c6)) rfl rfl (fun j hj => ?_) (by rw [HS6.out]; kernel_rfl) (uc_one rfl) ?_
  · rw [k6.cell, k6.free]
    have h1 := HZ9.out
    have h2 := HS6.out
    simp
    omega
  obtain ⟨cs', q1, q2, q3, q4⟩ := setCells_heap w6 (b + 1 + 1) (uc (uptoS G) (.slice A6 m6 c6)).toList 0 _ k6
  have hcs : cs' = uc (uptoS G) (.slice A6 m6 c6) := by
    apply Array.ext_getElem?
    intro i
    by_cases hi : i < 9
    · have := q4 i (by simpa [HS6.out] using hi) (by rw [HZ9.out]; omega)
      simpa using this
    · rw [Array.getElem?_eq_none (by rw [q2, HZ9.out]; omega), Array.getElem?_eq_none (by rw [HS6.out]; omega)]
  rw [hcs] at q1
  have g7 : w6.grownBy (w6.setCells (b + 1 + 1) 0 (uc (uptoS G) (.slice A6 m6 c6)).toList) (some (b + 1 + 1)) := by
    obtain ⟨e1, e2, e3, e4⟩ := setCells_size w6 (b + 1 + 1) (uc (uptoS G) (.slice A6 m6 c6)).toList 0
    exact ⟨e2, e3, e4, by rw [e1]; exact Nat.le_refl _, fun k hk hne => setCells_other w6 (b + 1 + 1) _ _ k (fun e => hne (by rw [e]))⟩
  have k7 : Blk (w6.setCells (b + 1 + 1) 0 (uc (uptoS G) (.slice A6 m6 c6)).toList) (b + 1 + 1) 35 (uc (uptoS G) (.slice A6 m6 c6)) := q1
  have o7 := o6b.grown g7 (.inr hne6)
  have gY7 := gY6.grown g7 gY6.size (fun q hq => by injection hq; omega)
  have hk6 := k6.lt
  have hS7 := hS.grown g7 (by omega) (fun q hq => by injection hq; omega)
  generalize w6.setCells (b + 1 + 1) 0 (uc (uptoS G) (.slice A6 m6 c6)).toList = w7 at *
  refine hK.out _ _ hS7 (fun hS => ?_)
  clear hK K
  refine wpAnyH_done (by kernel_rfl) ?_ _
  clear g7 q1 q2 q3 q4 hcs
  go_wp2_with fail
  exact bodyPost_ret (v := .agg (uc (uptoS G) (.slice A6 m6 c6))) (results_blk rfl rowRS k7 HS6.out rfl) rfl ⟨A6, m6, c6, rfl, o7, gY7⟩
end Go.Proofs.Ytacmdkjodnaohaa
