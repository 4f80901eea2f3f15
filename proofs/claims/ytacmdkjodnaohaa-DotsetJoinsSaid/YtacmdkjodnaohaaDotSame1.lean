/- The walk of the law's closure 'same'. -/
import Derived.Test.YtacmdkjodnaohaaDotOpen
import Derived.Test.YtacmdkjodnaohaaDotPlain
namespace Go.Proofs.Ytacmdkjodnaohaa
open Go.RowKit
open Dot
set_option maxRecDepth 100000 in
set_option maxHeartbeats 2000000 in
theorem same1_any (U V : List Int) (hU : U.length = 8) (hV : V.length = 8) (wU : Wf U) (wV : Wf V) (A : Option Addr) (n c : Nat) (l : List Dt) (B : Option Addr) (m d : Nat) (k : List Dt) (w : World) (hr : RdD w w.heap.size A n l) (hs : RdD w w.heap.size B m k) (hn : n ≤ 1000) (hm : m ≤ 1000) :
    Calls Try.prog 28 #[.agg (uc U (.slice A n c)), .agg (uc V (.slice B m d))] w fun e w' => e = .returned (.bool (decide (U = V) && decide (l = k))) ∧ Below w.heap.size w w' := by
  have HS := Lib.hid (uc_size hU (.slice A n c))
  have HT := Lib.hid (uc_size hV (.slice B m d))
  have hfa := fun (w' : World) (hb : Below w.heap.size w w') => from_any U hU A n c l w' ((hr.below hb).more hb.size) (by omega)
  have hfb := fun (w' : World) (hb : Below w.heap.size w w') => from_any V hV B m d k w' ((hs.below hb).more hb.size) (by omega)
  have hsm := fun (A' : Option Addr) (n' c' : Nat) (B' : Option Addr) (m' d' : Nat) (w' : World) (h : RdD w' w'.heap.size A' n' l) (h' : RdD w' w'.heap.size B' m' k) => same_any U V hU hV wU wV A' B' n' c' m' d' l k w' h h' (by rw [h.1, ← hr.1]; omega)
  obtain ⟨R, hR⟩ : ∃ R, R = (decide (U = V) && decide (l = k)) := ⟨_, rfl⟩
  rw [← hR] at hsm ⊢
  obtain ⟨sc, hsc⟩ : ∃ sc, sc = uc U (.slice A n c) := ⟨_, rfl⟩
  obtain ⟨sd, hsd⟩ : ∃ sd, sd = uc V (.slice B m d) := ⟨_, rfl⟩
  unfold CopyEnd at hfa hfb
  rw [← hsc] at HS hfa ⊢
  rw [← hsd] at HT hfb ⊢
  have HFA := Lib.hid hfa
  have HFB := Lib.hid hfb
  have HSM := Lib.hid hsm
  clear hfa hfb hsm hsc hsd hR
  go_enter Try.func28, Try.ntmps28
  go_upto_region 1 with fail
  refine nameW ?_
  intro wv hwv
  obtain ⟨b, hb⟩ : ∃ b, b = w.heap.size := ⟨_, rfl⟩
  rw [← hb]
  have kb : Blk wv b 30 sc := by rw [hwv, hb]; exact (Blk.new w _ _).alloc _
  have kd : Blk wv (b + 1) 30 sd := by
    have h := Blk.new (w.alloc (.cells sc 30)) 30 sd
    rw [hwv, hb]
    simpa using h
  have gb : Below w.heap.size w wv := by rw [hwv]; exact ((Below.refl _ _).alloc (Nat.le_refl _) _).alloc (by simp) _
  clear hwv hb
  refine wp_region_held_drew (S := fun w' => Below wv.heap.size wv w') (by kernel_rfl) (Below.refl _ _).drew (fun hS => ?_)
  generalize wv.drew = wd at *
  refine wpAnyH_take (i := 0) rfl (by kernel_rfl) (by kernel_rfl) (by kernel_rfl) (fun _ _ _ h => h) (yieldsIf_ld (by rfl) rowS (.tmp 2) rfl rfl (fun w hw => kb.below hw kb.lt) HS.out) hS ?_
  simp only [Act.put, List.getElem_toArray, List.getElem_cons_zero, List.getElem_cons_succ, List.setIfInBounds_toArray, List.set_cons_succ, List.set_cons_zero]
  refine wpAnyH_take (i := 2) rfl (by kernel_rfl) (by kernel_rfl) (by kernel_rfl) (fun _ _ _ h => h) (yieldsIf_ld (by rfl) rowS (.tmp 3) rfl rfl (fun w hw => kd.below hw kd.lt) HT.out) hS ?_
  simp only [Act.put, List.getElem_toArray, List.getElem_cons_zero, List.getElem_cons_succ, List.setIfInBounds_toArray, List.set_cons_succ, List.set_cons_zero]
  refine wpAnyH_ready (rs := [1]) (by kernel_rfl) (by simp) ?_
  refine AllReadyH.cons rfl (fun K hK => ?_) .nil
  go_simp
  refine (HFA.out _ (gb.trans (hS.mono gb.size))).mono ?_
  rintro e v1 ⟨B1, n1, d1, rfl, p1, hh⟩
  replace p1 := p1.rd
  refine hK.out _ _ (hS.trans (hh.mono hS.size)) (fun hS => ?_)
  clear hK K hh
  refine wpAnyH_ready (rs := [3]) (by kernel_rfl) (by simp) ?_
  refine AllReadyH.cons rfl (fun K hK => ?_) .nil
  go_simp
  refine (HFB.out _ (gb.trans (hS.mono gb.size))).mono ?_
  rintro e v2 ⟨B2, n2, d2, rfl, p2, hh⟩
  replace p1 := (p1.below hh).size
  replace p2 := p2.rd
  refine hK.out _ _ (hS.trans (hh.mono hS.size)) (fun hS => ?_)
  clear hK K hh
  refine wpAnyH_ready (rs := [4]) (by kernel_rfl) (by simp) ?_
  refine AllReadyH.cons rfl (fun K hK => ?_) .nil
  go_simp
  refine (HSM.out B1 n1 d1 B2 n2 d2 _ p1 p2).mono ?_
  rintro e v3 ⟨rfl, hh⟩
  refine hK.out _ _ (hS.trans (hh.mono hS.size)) (fun hS => ?_)
  clear hK K hh p1 p2
  refine wpAnyH_take (i := 5) (v := ?rv69) rfl (by kernel_rfl) (by kernel_rfl) (by kernel_rfl) (fun _ _ _ h => h) (Or.inl ⟨by rfl, ?ry69⟩) hS ?_
  case ry69 => (intro wS hSw; clear hSw; go_simp; (try with_reducible rfl))
  simp only [Act.put, List.getElem_toArray, List.getElem_cons_zero, List.getElem_cons_succ, List.setIfInBounds_toArray, List.set_cons_succ, List.set_cons_zero]
  refine wpAnyH_done (by kernel_rfl) ?_ _
  go_wp2_with fail
  go_ret
  exact ⟨rfl, gb.trans (hS.mono gb.size)⟩
end Go.Proofs.Ytacmdkjodnaohaa
