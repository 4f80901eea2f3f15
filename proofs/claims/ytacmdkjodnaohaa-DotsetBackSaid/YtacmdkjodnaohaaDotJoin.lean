/- The walk of Join. -/
import Derived.Test.YtacmdkjodnaohaaDotGreat
namespace Go.Proofs.Ytacmdkjodnaohaa
open Go.RowKit
open Dot
theorem rowset_two {w : World} {B : Nat} (s u : SetV) (h : s.U.length = 8) (h' : u.U.length = 8) (hr : RdD w B s.A s.n s.l) (hr' : RdD w B u.A u.n u.l) (hB : B ≤ w.heap.size) (t : TypeId) (mk : Nat × Nat) :
    RowSet (w.alloc (.cells (uc s.U (.slice s.A s.n s.c) ++ uc u.U (.slice u.A u.n u.c)) t mk)) B w.heap.size [s, u] := by
  refine ⟨by simp, fun i x hi => ?_⟩
  have hb : Below w.heap.size w (w.alloc (.cells (uc s.U (.slice s.A s.n s.c) ++ uc u.U (.slice u.A u.n u.c)) t mk)) := (Below.refl _ _).alloc (Nat.le_refl _) _
  have hs := uc_size h (.slice s.A s.n s.c)
  match i, hi with
  | 0, hi =>
    simp at hi
    subst hi
    refine ⟨fun j v hv => ?_, h, hr.below (hb.mono hB)⟩
    have hj : j < 9 := by
      have := (List.getElem?_eq_some_iff.1 hv).1
      unfold SetV.cs at this
      rw [List.length_append, List.length_map, h] at this
      exact this
    rw [Nat.zero_mul, Nat.zero_add, World.cell?_alloc_mark, Array.getElem?_append_left (by omega)]
    unfold uc
    rw [List.getElem?_toArray]
    exact hv
  | 1, hi =>
    simp at hi
    subst hi
    refine ⟨fun j v hv => ?_, h', hr'.below (hb.mono hB)⟩
    rw [World.cell?_alloc_mark, Array.getElem?_append_right (by omega), hs, show 1 * 9 + j - 9 = j by omega]
    unfold uc
    rw [List.getElem?_toArray]
    exact hv
  | i + 2, hi => simp at hi
set_option maxRecDepth 100000 in
set_option maxHeartbeats 2000000 in
theorem join_any (s u : SetV) (w : World) (hU : s.U.length = 8) (hU' : u.U.length = 8) (hr : RdD w w.heap.size s.A s.n s.l) (hr' : RdD w w.heap.size u.A u.n u.l) :
    Calls Try.prog 24 #[.agg (uc s.U (.slice s.A s.n s.c)), .agg (uc u.U (.slice u.A u.n u.c))] w (CopyEnd w (uptoS (orG (hasG s.U s.l) (hasG u.U u.l))) (moreS (orG (hasG s.U s.l) (hasG u.U u.l)))) := by
  unfold CopyEnd
  obtain ⟨G, hG⟩ : ∃ G, G = orG (hasG s.U s.l) (hasG u.U u.l) := ⟨_, rfl⟩
  rw [← hG]
  have HGE := Lib.hid hG
  clear hG
  have HS := Lib.hid (uc_size hU (.slice s.A s.n s.c))
  have HS' := Lib.hid (uc_size hU' (.slice u.A u.n u.c))
  obtain ⟨sc, hsc⟩ : ∃ sc, sc = uc s.U (.slice s.A s.n s.c) := ⟨_, rfl⟩
  obtain ⟨sd, hsd⟩ : ∃ sd, sd = uc u.U (.slice u.A u.n u.c) := ⟨_, rfl⟩
  have hb1 := build2 hU hU' s.A u.A s.n s.c u.n u.c
  rw [← hsc, ← hsd] at hb1 ⊢
  rw [← hsc] at HS
  rw [← hsd] at HS'
  have HB1 := Lib.hid hb1
  have HSC := Lib.hid hsc
  have HSD := Lib.hid hsd
  have HZ9 := Lib.hid (uc_size (show (uptoS noG).length = 8 by simp [uptoS]) (.slice none 0 0))
  clear hsc hsd hb1
  go_enter Try.func24, Try.ntmps24
  go_upto_region 1 with fail
  refine nameW ?_
  intro wv hwv
  obtain ⟨b, hb⟩ : ∃ b, b = w.heap.size := ⟨_, rfl⟩
  rw [← hb]
  have kb : Blk wv b 30 sc := by rw [hwv, hb]; exact ((Blk.new w _ _).alloc _).alloc _
  have kd : Blk wv (b + 1) 30 sd := by
    have h := (Blk.new (w.alloc (.cells sc 30)) 30 sd).alloc (.cells #[.int .i64 0, .int .i64 0, .int .i64 0, .int .i64 0, .int .i64 0, .int .i64 0, .int .i64 0, .int .i64 0, .slice none 0 0] 30)
    rw [hwv, hb]
    simpa using h
  have kz : Blk wv (b + 1 + 1) 30 (uc (uptoS noG) (.slice none 0 0)) := by
    have h := Blk.new ((w.alloc (.cells sc 30)).alloc (.cells sd 30)) 30 (uc (uptoS noG) (.slice none 0 0))
    have hz : uc (uptoS noG) (.slice none 0 0) = #[.int .i64 0, .int .i64 0, .int .i64 0, .int .i64 0, .int .i64 0, .int .i64 0, .int .i64 0, .int .i64 0, .slice none 0 0] := by kernel_rfl
    rw [hz] at h ⊢
    rw [hwv, hb]
    simpa using h
  have gb : Below w.heap.size w wv := by rw [hwv]; exact (((Below.refl _ _).alloc (Nat.le_refl _) _).alloc (by simp) _).alloc (by simp; omega) _
  have hrow := (rowset_two s u hU hU' ((hr.below gb).more gb.size) ((hr'.below gb).more gb.size) (Nat.le_refl _) 30 (0, 0)).more (B' := (wv.alloc (.cells (sc ++ sd) 30)).heap.size) (by simp)
  rw [← HSC.out, ← HSD.out] at hrow
  have hbw : w.heap.size ≤ b := by omega
  clear hwv hb
  go_wp2_with first
    | ((with_reducible refine wpList_ld rowS kb HS.out ?_ ?_); rotate_left; (rfl))
    | ((with_reducible refine wpList_ld rowS kd HS'.out ?_ ?_); rotate_left; (rfl))
    | ((refine wpList_bs (v := .slice (some ⟨wv.heap.size, 0, none⟩) 2 2) (w' := wv.alloc (.cells (sc ++ sd) 30)) rfl 96 2 #[(0, .tmp 5), (1, .tmp 6)] rfl ?_ ?_); (simp only [List.map_toArray, List.map_cons, List.map_nil]; exact HB1.out wv))
  refine (of_any [s, u] 2 wv.heap.size _ rfl (by decide) hrow).mono ?_
  rintro e w2 ⟨rfl, k2, h2⟩
  rw [lays_two, ← HGE.out] at k2
  have bx : Below wv.heap.size wv (wv.alloc (.cells (sc ++ sd) 30)) := (Below.refl _ _).alloc (Nat.le_refl _) _
  have by2 := bx.trans (h2.mono (by simp))
  have kz2 := kz.below by2 kz.lt
  have b2 := gb.trans (by2.mono gb.size)
  obtain ⟨g, hg⟩ : ∃ g, g = (wv.alloc (.cells (sc ++ sd) 30)).heap.size := ⟨_, rfl⟩
  rw [← hg] at k2 ⊢
  clear hg hrow kb kd kz gb h2 bx by2
  go_wp2_with fail
  refine (close_any _ G w2 k2).mono ?_
  rintro e w4 ⟨A, m, c, rfl, o4, h4⟩
  have kz4 := kz2.below h4 kz2.lt
  have b4 := b2.trans (h4.mono b2.size)
  have HSG := Lib.hid (uc_size (show (uptoS G).length = 8 by simp [uptoS]) (.slice A m c))
  have H1G := Lib.hid (uc_one (U := uptoS G) (s := .slice A m c) rfl)
  have o5 := o4.mono b2.size
  have hne := own_ne o5.2 kz4 (by decide)
  clear kz2 b2 k2 h4 o4
  go_wp2_with ((with_reducible refine wpList_st rowS kz4 HSG.out HZ9.out H1G.out ?_ ?_ ?_); rotate_left; (rfl); (rfl); intro w7 k7 g7 z7)
  have b7 := b4.grown g7 b4.size (fun q hq => by injection hq; omega)
  have o7 := o5.grown g7 (.inr hne)
  exact bodyPost_ret (v := .agg (uc (uptoS G) (.slice A m c))) (results_blk rfl rowS k7 HSG.out rfl) rfl ⟨A, m, c, rfl, o7, b7⟩
end Go.Proofs.Ytacmdkjodnaohaa
