/- The walk of the document's of. -/
import Derived.Test.YtocoohpekpkmkaaRegMeetM
namespace Go.Proofs.Ytocoohpekpkmkaa
set_option linter.unusedVariables false
set_option linter.unusedSimpArgs false
open Go.RowKit
open Reg
theorem ofV_step {l : List Vl} {n : Int} (k : Nat) (hk : k < l.length) : ofV (l.drop k) n = if l[k].1 = n then l[k] else ofV (l.drop (k + 1)) n := by
  rw [List.drop_eq_getElem_cons hk]
  unfold ofV
  rw [List.find?_cons]
  by_cases h : l[k].1 = n
  · rw [if_pos h, show (l[k].1 == n) = true by simpa using h]
    rfl
  · rw [if_neg h, show (l[k].1 == n) = false by simpa using h]
set_option maxRecDepth 100000 in
set_option maxHeartbeats 1000000 in
theorem rof29_any (U : List Int) (hU : U.length = 8) (A : Option Addr) (n c B : Nat) (l : List Vl) (nd : Int) (w : World) (hl : RdV w B A n l) (hB : B ≤ w.heap.size) (hn : n ≤ 100000) :
    Calls Try.prog 56 #[.agg (uc U (.slice A n c)), .int .i64 nd] w fun e w' => e = .returned (v3 (ofV l nd)) ∧ Below w.heap.size w w' := by
  have HN := Lib.hid hl.1
  have HNB := Lib.hid hn
  have HRK := Lib.hid fun (w' : World) (hb : Below w.heap.size w w') => hl.below (hb.mono hB)
  obtain ⟨R, hR⟩ : ∃ R, R = ofV l nd := ⟨_, rfl⟩
  rw [← hR]
  have HR := Lib.hid hR
  have H8 := Lib.hid (uc_last hU (.slice A n c))
  clear hl hn hR hU hB
  obtain ⟨r0, r1, r2⟩ := R
  unfold v3
  simp only
  go_enter Try.func56, Try.ntmps56
  go_upto_region 1 with fail
  refine nameW ?_
  intro wv hwv
  have kb : Blk wv w.heap.size 25 (uc U (.slice A n c)) := by rw [hwv]; exact (Blk.new w _ _).alloc _
  have kz : Blk wv (w.heap.size + 1) 105 #[.int .i64 0, .int .i64 0, .int .i64 0] := by
    have h := Blk.new (w.alloc (.cells (uc U (.slice A n c)) 25)) 105 #[.int .i64 0, .int .i64 0, .int .i64 0]
    rw [hwv]
    simpa using h
  have gb : Below w.heap.size w wv := by rw [hwv]; exact ((Below.refl _ _).alloc (Nat.le_refl _) _).alloc (by simp) _
  have t8 : wv.cell? ⟨w.heap.size, 8, none⟩ = some (.slice A n c) := (kb.cell 8).trans H8.out
  clear hwv kb
  go_wp2_with fail
  go_loopw [10] (fun i wr => ∃ k : Nat, k ≤ n ∧ i = .int .i64 k ∧ (r0, r1, r2) = ofV (l.drop k) nd ∧ Blk wr (w.heap.size + 1) 105 #[.int .i64 0, .int .i64 0, .int .i64 0] ∧ Below w.heap.size w wr) (fun i _ => n - (intOf i).toNat)
  case atStart => exact ⟨0, by omega, rfl, HR.out, kz, gb⟩
  case round =>
    clear kz gb t8
    obtain ⟨k, hk, rfl, hr, kz, gb⟩ := hrel
    by_cases hlt : k < n
    · have hkl : k < l.length := by rw [← HN.out]; exact hlt
      have hkb : k < 100000 := by have := HNB.out; omega
      obtain ⟨ad, hA, q5, q0, q1, q2⟩ := (HRK.out wr gb).2 k _ (List.getElem?_eq_getElem hkl)
      rw [ofV_step k hkl] at hr
      generalize l[k] = d at *
      obtain ⟨x, s, z⟩ := d
      simp only at q0 q1 q2 hr
      subst hA
      have hk0 : (0 : Int) ≤ (k : Int) := by omega
      have hkn : (k : Int) < (n : Int) := by omega
      by_cases hx : x = nd
      · rw [if_pos hx] at hr
        obtain ⟨rfl, h2⟩ := Prod.mk.inj hr
        obtain ⟨rfl, rfl⟩ := Prod.mk.inj h2
        subst hx
        clear hr h2
        go_upto_region 4 with fail
        refine nameW ?_
        intro wn hwn
        have kd : Blk wn wr.heap.size 105 #[.int .i64 r0, .int .i64 r1, .int .i64 r2] := by rw [hwn]; exact Blk.new wr _ _
        have bn : Below wr.heap.size wr wn := by rw [hwn]; exact (Below.refl _ _).alloc (Nat.le_refl _) _
        have kz1 := kz.below bn kz.lt
        have gb1 := gb.trans (bn.mono gb.size)
        have t0 : wn.cell? ⟨wr.heap.size, 0, none⟩ = some (.int .i64 r0) := kd.cell 0
        clear hwn bn kz gb q0 q1 q2
        go_wp2_with first
          | ((with_reducible refine wpList_ld rowRV kd (th_size _ _ _) ?_ ?_); rotate_left; (rfl))
          | ((with_reducible refine wpList_st (cs := #[.int .i64 r0, .int .i64 r1, .int .i64 r2]) rowRV kz1 (th_size _ _ _) (th_size _ _ _) (th_one _ _ _) ?_ ?_ ?_); rotate_left; (rfl); (rfl); intro w5 k5 g5 z5)
        exact bodyPost_ret (v := .agg #[.int .i64 r0, .int .i64 r1, .int .i64 r2]) (results_blk rfl rowRV k5 (th_size _ _ _) rfl) rfl ⟨rfl, gb1.grown g5 gb1.size (fun q hq => by injection hq; omega)⟩
      · rw [if_neg hx] at hr
        have HRR := Lib.hid hr
        have hd : (x == nd) = false := by simpa using hx
        clear hr
        go_upto_region 4 with fail
        refine nameW ?_
        intro wn hwn
        have kd : Blk wn wr.heap.size 105 #[.int .i64 x, .int .i64 s, .int .i64 z] := by rw [hwn]; exact Blk.new wr _ _
        have bn : Below wr.heap.size wr wn := by rw [hwn]; exact (Below.refl _ _).alloc (Nat.le_refl _) _
        have kz1 := kz.below bn kz.lt
        have gb1 := gb.trans (bn.mono gb.size)
        have t0 : wn.cell? ⟨wr.heap.size, 0, none⟩ = some (.int .i64 x) := kd.cell 0
        clear hwn bn kz gb q0 q1 q2
        go_wp2_with fail
        go_roundw
        case rel => exact ⟨k + 1, by omega, by go_num, HRR.out, kz1, gb1⟩
        case measure => simp [intOf]; omega
    · have hr0 : ofV (l.drop k) nd = (0, 0, 0) := by rw [List.drop_eq_nil_of_le (by rw [← HN.out]; omega)]; rfl
      rw [hr0] at hr
      obtain ⟨rfl, h2⟩ := Prod.mk.inj hr
      obtain ⟨rfl, rfl⟩ := Prod.mk.inj h2
      clear hr h2 hr0
      go_wp2_with ((with_reducible refine wpList_st (cs := #[.int .i64 0, .int .i64 0, .int .i64 0]) rowRV kz (th_size _ _ _) (th_size _ _ _) (th_one _ _ _) ?_ ?_ ?_); rotate_left; (rfl); (rfl); intro w5 k5 g5 z5)
      exact bodyPost_ret (v := .agg #[.int .i64 0, .int .i64 0, .int .i64 0]) (results_blk rfl rowRV k5 (th_size _ _ _) rfl) rfl ⟨rfl, gb.grown g5 gb.size (fun q hq => by injection hq; omega)⟩
end Go.Proofs.Ytocoohpekpkmkaa
