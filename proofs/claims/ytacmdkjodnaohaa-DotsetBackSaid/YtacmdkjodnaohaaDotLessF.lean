/- The walk of the program's Less. -/
import Derived.Test.YtacmdkjodnaohaaDotDel
namespace Go.Proofs.Ytacmdkjodnaohaa
open Go.RowKit
open Dot
theorem dots_in (G : Grid) : InD (dotsS G) := fun d hd => by
  obtain ⟨n, q, h1, h2, _, rfl⟩ := (mem_dotsTo G d 8).1 hd
  exact ⟨n, q, rfl, h1, h2⟩
theorem lessD_flt {G : Grid} (hG : InG G) (U : List Int) (l : List Dt) : lessD U l (dotsS G) = fltG (hasG U l) (dotsS G) := by
  unfold lessD fltG
  apply List.filter_congr
  intro d hd
  obtain ⟨n, q, h1, h2, h3, rfl⟩ := (mem_dotsTo G d 8).1 hd
  have h4 := hG n q h3
  have hm : mayB ((n : Int), (q : Int)) = true := by rw [may_iff]; simp only; omega
  unfold hasB isG
  rw [hm]
  rfl
set_option maxRecDepth 100000 in
set_option maxHeartbeats 2000000 in
theorem less_any (s u : SetV) (w : World) (hU : s.U.length = 8) (hU' : u.U.length = 8) (hr : RdD w w.heap.size s.A s.n s.l) (hr' : RdD w w.heap.size u.A u.n u.l) :
    Calls Try.prog 26 #[.agg (uc s.U (.slice s.A s.n s.c)), .agg (uc u.U (.slice u.A u.n u.c))] w (ListEnd w (lessD u.U u.l (dotsS (hasG s.U s.l)))) := by
  have hfl := lessD_flt (hasG_in s.U s.l) u.U u.l
  rw [hfl]
  clear hfl
  unfold ListEnd
  have hmf : ∀ (fn : Fn) (first cap : Array Value) (w : World), (Instr.makeFunc fn first cap).run Try.prog w = .ok (.func fn first cap) w := fun _ _ _ _ => rfl
  have HS := Lib.hid (uc_size hU (.slice s.A s.n s.c))
  have HT := Lib.hid (uc_size hU' (.slice u.A u.n u.c))
  have hls := fun w' (hb : Below w.heap.size w w') => list_any s w' hU ((hr.below hb).more hb.size)
  unfold ListEnd at hls
  have hIN := dots_in (hasG s.U s.l)
  have hLN := dots_len2 (hasG s.U s.l)
  generalize dotsS (hasG s.U s.l) = LL at *
  obtain ⟨sc, hsc⟩ : ∃ sc, sc = uc s.U (.slice s.A s.n s.c) := ⟨_, rfl⟩
  obtain ⟨sd, hsd⟩ : ∃ sd, sd = uc u.U (.slice u.A u.n u.c) := ⟨_, rfl⟩
  rw [← hsc] at HS hls ⊢
  rw [← hsd] at HT ⊢
  have hb1 := build1 hU' u.A u.n u.c
  rw [← hsd] at hb1
  have HB1 := Lib.hid hb1
  have HSD := Lib.hid hsd
  have HLS := Lib.hid hls
  have HIN := Lib.hid hIN
  clear hsc hsd hb1 hls hIN
  go_enter Try.func26, Try.ntmps26
  go_upto_region 1 with fail
  refine nameW ?_
  intro wv hwv
  obtain ⟨b, hb⟩ : ∃ b, b = w.heap.size := ⟨_, rfl⟩
  rw [← hb]
  have kb : Blk wv b 30 sc := by rw [hwv, hb]; exact (Blk.new w _ _).alloc _
  have ku : Blk wv (b + 1) 30 sd := by
    have h := Blk.new (w.alloc (.cells sc 30)) 30 sd
    rw [hwv, hb]
    simpa using h
  have gb : Below w.heap.size w wv := by rw [hwv]; exact ((Below.refl _ _).alloc (Nat.le_refl _) _).alloc (by simp) _
  have hrv : RdD wv w.heap.size u.A u.n u.l := hr'.below gb
  have hrow := (rowset_one u hU' (hrv.more gb.size) (Nat.le_refl _) 30 (0, 0)).more (B' := (wv.alloc (.cells sd 30)).heap.size) (by simp)
  rw [← HSD.out] at hrow
  clear hwv hb
  go_wp2_with first
    | ((with_reducible refine wpList_ld rowS ku HT.out ?_ ?_); rotate_left; (rfl))
    | ((refine wpList_bs (v := .slice (some ⟨wv.heap.size, 0, none⟩) 1 1) (w' := wv.alloc (.cells sd 30)) rfl 96 1 #[(0, .tmp 6)] rfl ?_ ?_); (simp only [List.map_toArray, List.map_cons, List.map_nil]; exact HB1.out wv))
  refine (of_any [u] 1 wv.heap.size _ rfl (by decide) hrow).mono ?_
  rintro e w2 ⟨rfl, k2, h2⟩
  rw [lays_one] at k2
  have bx : Below wv.heap.size wv (wv.alloc (.cells sd 30)) := (Below.refl _ _).alloc (Nat.le_refl _) _
  have by2 := bx.trans (h2.mono (by simp))
  have kb2 := kb.below by2 kb.lt
  have b2 := gb.trans (by2.mono gb.size)
  obtain ⟨g, hg⟩ : ∃ g, g = (wv.alloc (.cells sd 30)).heap.size := ⟨_, rfl⟩
  rw [← hg] at k2 ⊢
  clear hg hrow kb ku gb h2 bx by2 hrv
  obtain ⟨w3, hw3⟩ : ∃ w3, w3 = w2.alloc (.cells #[.pointer (some ⟨g, 0, none⟩)] 71) := ⟨_, rfl⟩
  obtain ⟨gp, hgp⟩ : ∃ gp, gp = w2.heap.size := ⟨_, rfl⟩
  have kp : Blk w3 gp 71 #[.pointer (some ⟨g, 0, none⟩)] := by rw [hw3, hgp]; exact Blk.new w2 _ _
  have k3 : Blk w3 g 98 (gc (hasG u.U u.l)) := by rw [hw3]; exact k2.alloc _
  have kb3 : Blk w3 b 30 sc := by rw [hw3]; exact kb2.alloc _
  have b3 : Below w.heap.size w w3 := by rw [hw3]; exact b2.alloc b2.size _
  have HW := Lib.hid hw3
  have HGP := Lib.hid hgp
  clear hw3 hgp k2 kb2 b2
  go_upto_region 2 with fail
  rw [← HW.out, ← HGP.out]
  go_wp2_with ((with_reducible refine wpList_ld rowS kb3 HS.out ?_ ?_); rotate_left; (rfl))
  refine (HLS.out w3 b3).mono ?_
  rintro e w4 ⟨A, m, c, rfl, oL, h4⟩
  have k4 := k3.below h4 k3.lt
  have kp4 := kp.below h4 kp.lt
  have b4 := b3.trans (h4.mono b3.size)
  have hm : m ≤ 1000 := by rw [oL.1]; omega
  have oL4 := oL.mono b3.size
  clear h4 k3 kp kb3 b3 oL
  go_wp2_with fail
  refine (delete_any gp g m c w.heap.size A LL (hasG u.U u.l) w4 hm HIN.out oL4 b4.size k4 kp4).mono ?_
  rintro e w5 ⟨A5, m5, c5, rfl, o5, b5⟩
  have b55 := b4.trans b5
  clear k4 kp4 b4 b5 oL4
  go_wp2_with fail
  go_ret
  exact ⟨A5, m5, c5, rfl, o5, b55⟩
end Go.Proofs.Ytacmdkjodnaohaa
