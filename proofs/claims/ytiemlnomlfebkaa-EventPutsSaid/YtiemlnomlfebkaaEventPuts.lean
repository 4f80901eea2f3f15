/- EventPuts: any events' bytes, or the error, are the document's; the events stay: the whole statement, without a condition. -/
import Derived.Test.YtiemlnomlfebkaaEvMem
import Derived.Test.YtiemlnomlfebkaaEvRight
import Derived.Test.YtiemlnomlfebkaaChecked
import Derived.Test.YtiemlnomlfebkaaMem
import Derived.Test.YtiemlnomlfebkaaEvWput
import Derived.Test.YtiemlnomlfebkaaEvPut
import Derived.Test.YtiemlnomlfebkaaEvRow
import Derived.Test.YtiemlnomlfebkaaVintPut
import Derived.Test.YtiemlnomlfebkaaSame
import Derived.Laws.CopyOwn
import Derived.Test.YtiemlnomlfebkaaEvSized
import Derived.Test.YtiemlnomlfebkaaEvSame
import Derived.Test.YtiemlnomlfebkaaEvCopy
/- The walks of the document's RightPolicy and Later. -/
namespace Go.Proofs.Ytiemlnomlfebkaa
open Go.RowKit
open Dot Evt
set_option maxRecDepth 100000 in
set_option maxHeartbeats 4000000 in
theorem rpol_any (p : List Int) (w : World) : Calls Try.prog 14 #[.agg (pc p)] w fun e w' => e = .returned (.bool (polB p)) ∧ Below w.heap.size w w' := by
  have hbb : Below w.heap.size w (w.alloc (.cells (pc p) 25)) := (Below.refl _ _).alloc (Nat.le_refl _) _
  obtain ⟨R, hR⟩ : ∃ R, R = polB p := ⟨_, rfl⟩
  rw [← hR]
  have hR2 := @polB_iff p
  rw [← hR] at hR2
  clear hR
  unfold pc at hbb ⊢
  generalize p.getD 0 0 = p0, p.getD 1 0 = p1, p.getD 2 0 = p2, p.getD 3 0 = p3, p.getD 4 0 = p4, p.getD 5 0 = p5, p.getD 6 0 = p6 at *
  have HR := Lib.hid hR2
  clear hR2
  by_cases h0 : 0 ≤ p0
  rotate_left
  · have hf : R = false := by
      rw [← Bool.not_eq_true, HR.out]
      omega
    have d0 : decide (0 ≤ p0) = false := decide_eq_false h0
    subst hf
    clear h0
    go_enter Try.func14, Try.ntmps14
    go_wp2_with fail
    go_ret
    exact ⟨rfl, hbb⟩
  have d0 : decide (0 ≤ p0) = true := decide_eq_true h0
  by_cases h1 : p0 ≤ p1
  rotate_left
  · have hf : R = false := by
      rw [← Bool.not_eq_true, HR.out]
      omega
    have d1 : decide (p0 ≤ p1) = false := decide_eq_false h1
    subst hf
    clear h0 h1
    go_enter Try.func14, Try.ntmps14
    go_wp2_with fail
    go_ret
    exact ⟨rfl, hbb⟩
  have d1 : decide (p0 ≤ p1) = true := decide_eq_true h1
  by_cases h2 : p1 ≤ 1000
  rotate_left
  · have hf : R = false := by
      rw [← Bool.not_eq_true, HR.out]
      omega
    have d2 : decide (p1 ≤ 1000) = false := decide_eq_false h2
    subst hf
    clear h0 h1 h2
    go_enter Try.func14, Try.ntmps14
    go_wp2_with fail
    go_ret
    exact ⟨rfl, hbb⟩
  have d2 : decide (p1 ≤ 1000) = true := decide_eq_true h2
  by_cases h3 : 1 ≤ p2
  rotate_left
  · have hf : R = false := by
      rw [← Bool.not_eq_true, HR.out]
      omega
    have d3 : decide (1 ≤ p2) = false := decide_eq_false h3
    subst hf
    clear h0 h1 h2 h3
    go_enter Try.func14, Try.ntmps14
    go_wp2_with fail
    go_ret
    exact ⟨rfl, hbb⟩
  have d3 : decide (1 ≤ p2) = true := decide_eq_true h3
  by_cases h4 : p2 ≤ 1073741824
  rotate_left
  · have hf : R = false := by
      rw [← Bool.not_eq_true, HR.out]
      omega
    have d4 : decide (p2 ≤ 1073741824) = false := decide_eq_false h4
    subst hf
    clear h0 h1 h2 h3 h4
    go_enter Try.func14, Try.ntmps14
    go_wp2_with fail
    go_ret
    exact ⟨rfl, hbb⟩
  have d4 : decide (p2 ≤ 1073741824) = true := decide_eq_true h4
  by_cases h5 : 0 ≤ p3
  rotate_left
  · have hf : R = false := by
      rw [← Bool.not_eq_true, HR.out]
      omega
    have d5 : decide (0 ≤ p3) = false := decide_eq_false h5
    subst hf
    clear h0 h1 h2 h3 h4 h5
    go_enter Try.func14, Try.ntmps14
    go_wp2_with fail
    go_ret
    exact ⟨rfl, hbb⟩
  have d5 : decide (0 ≤ p3) = true := decide_eq_true h5
  by_cases h6 : p3 ≤ 100
  rotate_left
  · have hf : R = false := by
      rw [← Bool.not_eq_true, HR.out]
      omega
    have d6 : decide (p3 ≤ 100) = false := decide_eq_false h6
    subst hf
    clear h0 h1 h2 h3 h4 h5 h6
    go_enter Try.func14, Try.ntmps14
    go_wp2_with fail
    go_ret
    exact ⟨rfl, hbb⟩
  have d6 : decide (p3 ≤ 100) = true := decide_eq_true h6
  by_cases h7 : 1 ≤ p4
  rotate_left
  · have hf : R = false := by
      rw [← Bool.not_eq_true, HR.out]
      omega
    have d7 : decide (1 ≤ p4) = false := decide_eq_false h7
    subst hf
    clear h0 h1 h2 h3 h4 h5 h6 h7
    go_enter Try.func14, Try.ntmps14
    go_wp2_with fail
    go_ret
    exact ⟨rfl, hbb⟩
  have d7 : decide (1 ≤ p4) = true := decide_eq_true h7
  by_cases h8 : p4 ≤ 1000
  rotate_left
  · have hf : R = false := by
      rw [← Bool.not_eq_true, HR.out]
      omega
    have d8 : decide (p4 ≤ 1000) = false := decide_eq_false h8
    subst hf
    clear h0 h1 h2 h3 h4 h5 h6 h7 h8
    go_enter Try.func14, Try.ntmps14
    go_wp2_with fail
    go_ret
    exact ⟨rfl, hbb⟩
  have d8 : decide (p4 ≤ 1000) = true := decide_eq_true h8
  by_cases h9 : 1 ≤ p5
  rotate_left
  · have hf : R = false := by
      rw [← Bool.not_eq_true, HR.out]
      omega
    have d9 : decide (1 ≤ p5) = false := decide_eq_false h9
    subst hf
    clear h0 h1 h2 h3 h4 h5 h6 h7 h8 h9
    go_enter Try.func14, Try.ntmps14
    go_wp2_with fail
    go_ret
    exact ⟨rfl, hbb⟩
  have d9 : decide (1 ≤ p5) = true := decide_eq_true h9
  by_cases h10 : p5 ≤ 1000
  rotate_left
  · have hf : R = false := by
      rw [← Bool.not_eq_true, HR.out]
      omega
    have d10 : decide (p5 ≤ 1000) = false := decide_eq_false h10
    subst hf
    clear h0 h1 h2 h3 h4 h5 h6 h7 h8 h9 h10
    go_enter Try.func14, Try.ntmps14
    go_wp2_with fail
    go_ret
    exact ⟨rfl, hbb⟩
  have d10 : decide (p5 ≤ 1000) = true := decide_eq_true h10
  by_cases h11 : 0 ≤ p6
  rotate_left
  · have hf : R = false := by
      rw [← Bool.not_eq_true, HR.out]
      omega
    have d11 : decide (0 ≤ p6) = false := decide_eq_false h11
    subst hf
    clear h0 h1 h2 h3 h4 h5 h6 h7 h8 h9 h10 h11
    go_enter Try.func14, Try.ntmps14
    go_wp2_with fail
    go_ret
    exact ⟨rfl, hbb⟩
  have d11 : decide (0 ≤ p6) = true := decide_eq_true h11
  by_cases h12 : p6 ≤ 1000
  rotate_left
  · have hf : R = false := by
      rw [← Bool.not_eq_true, HR.out]
      omega
    have d12 : decide (p6 ≤ 1000) = false := decide_eq_false h12
    subst hf
    clear h0 h1 h2 h3 h4 h5 h6 h7 h8 h9 h10 h11 h12
    go_enter Try.func14, Try.ntmps14
    go_wp2_with fail
    go_ret
    exact ⟨rfl, hbb⟩
  have d12 : decide (p6 ≤ 1000) = true := decide_eq_true h12
  have hf : R = true := by
    rw [HR.out]
    omega
  subst hf
  clear h0 h1 h2 h3 h4 h5 h6 h7 h8 h9 h10 h11 h12
  go_enter Try.func14, Try.ntmps14
  go_wp2_with fail
  go_ret
  exact ⟨rfl, hbb⟩
theorem rlater_any (x y : Ev) (A1 A2 : Option Addr) (n1 c1 n2 c2 : Nat) (w : World) : Calls Try.prog 16 #[.agg (ec x (.slice A1 n1 c1)), .agg (ec y (.slice A2 n2 c2))] w fun e w' => e = .returned (.bool (laterB x y)) ∧ Below w.heap.size w w' := by
  obtain ⟨R, hR⟩ : ∃ R, R = laterB x y := ⟨_, rfl⟩
  rw [← hR]
  obtain ⟨⟨n, q⟩, t, k, wk, v, p, l⟩ := x
  obtain ⟨⟨m, r⟩, t', k', wk', v', p', l'⟩ := y
  have hbb : Below w.heap.size w ((w.alloc (.cells (ec ⟨(n, q), t, k, wk, v, p, l⟩ (.slice A1 n1 c1)) 28)).alloc (.cells (ec ⟨(m, r), t', k', wk', v', p', l'⟩ (.slice A2 n2 c2)) 28)) := ((Below.refl _ _).alloc (Nat.le_refl _) _).alloc (by simp) _
  unfold ec at hbb ⊢
  simp only at hbb ⊢
  by_cases h1 : t = t'
  · subst h1
    have hR2 : R = befB (m, r) (n, q) := by rw [hR]; unfold laterB; simp
    clear hR
    generalize p.getD 0 0 = p0, p.getD 1 0 = p1, p.getD 2 0 = p2, p.getD 3 0 = p3, p.getD 4 0 = p4, p.getD 5 0 = p5, p.getD 6 0 = p6 at *
    generalize p'.getD 0 0 = q0, p'.getD 1 0 = q1, p'.getD 2 0 = q2, p'.getD 3 0 = q3, p'.getD 4 0 = q4, p'.getD 5 0 = q5, p'.getD 6 0 = q6 at *
    have HR := Lib.hid hR2
    clear hR2
    go_enter Try.func16, Try.ntmps16
    go_wp2_with fail
    refine (before_any m r n q _).mono ?_
    rintro e w1 ⟨rfl, b1⟩
    rw [← HR.out]
    go_wp2_with fail
    go_ret
    exact ⟨rfl, hbb.trans (b1.mono hbb.size)⟩
  · have hR2 : R = decide (t' < t) := by rw [hR]; unfold laterB; simp [h1]
    have h2 : ((t : Int) != t') = true := by rw [bne_iff_ne]; exact h1
    clear hR
    generalize p.getD 0 0 = p0, p.getD 1 0 = p1, p.getD 2 0 = p2, p.getD 3 0 = p3, p.getD 4 0 = p4, p.getD 5 0 = p5, p.getD 6 0 = p6 at *
    generalize p'.getD 0 0 = q0, p'.getD 1 0 = q1, p'.getD 2 0 = q2, p'.getD 3 0 = q3, p'.getD 4 0 = q4, p'.getD 5 0 = q5, p'.getD 6 0 = q6 at *
    have HR := Lib.hid hR2
    clear hR2
    go_enter Try.func16, Try.ntmps16
    go_wp2_with fail
    go_ret
    rw [HR.out]
    exact ⟨rfl, hbb⟩
end Go.Proofs.Ytiemlnomlfebkaa

/- The walk of the document's Right. -/
namespace Go.Proofs.Ytiemlnomlfebkaa
open Go.RowKit
open Dot Evt
set_option maxRecDepth 100000 in
set_option maxHeartbeats 4000000 in
theorem eright07_any (x : Ev) (hp : x.p.length = 7) (A : Option Addr) (m c : Nat) (w : World) (hl : RdD w w.heap.size A m x.l) (hmb : m ≤ 4611686018427387904) :
    Calls Try.prog 12 #[.agg (ec x (.slice A m c))] w fun e w' => e = .returned (.bool (rightE x)) ∧ Below w.heap.size w w' := by
  obtain ⟨R, hR⟩ : ∃ R, R = rightE x := ⟨_, rfl⟩
  rw [← hR]
  obtain ⟨⟨n, q⟩, t, k, wk, v, p, l⟩ := x
  have hpol := rpol_any p
  obtain ⟨K, hK⟩ : ∃ K, K = kindB ⟨(n, q), t, k, wk, v, p, l⟩ := ⟨_, rfl⟩
  have hR2 : R = (mayB (n, q) && inB t 1 top && inB wk 0 7 && decide (l.length ≤ 96) && namedB (n, q) l && K) := by rw [hR, hK]; rfl
  clear hR
  simp only at hl hp
  have HM := Lib.hid hl.1
  have hbb : Below w.heap.size w (w.alloc (.cells (ec ⟨(n, q), t, k, wk, v, p, l⟩ (.slice A m c)) 28)) := (Below.refl _ _).alloc (Nat.le_refl _) _
  have kb : Blk (w.alloc (.cells (ec ⟨(n, q), t, k, wk, v, p, l⟩ (.slice A m c)) 28)) w.heap.size 28 (ec ⟨(n, q), t, k, wk, v, p, l⟩ (.slice A m c)) := Blk.new _ _ _
  unfold ec at hbb kb ⊢
  unfold pc at hpol
  simp only at hbb kb ⊢
  have hpz : p = p0 ↔ (p.getD 0 0 = 0 ∧ p.getD 1 0 = 0 ∧ p.getD 2 0 = 0 ∧ p.getD 3 0 = 0 ∧ p.getD 4 0 = 0 ∧ p.getD 5 0 = 0 ∧ p.getD 6 0 = 0) := by
    match p, hp with
    | [a, b, c, d, e, f, g], _ => simp [p0]
  have hKp : K = if k = 1 then decide (p = p0) && inB v 0 top && decide (l = []) else if k = 2 then polB p && decide (v = 0) else if k = 3 then decide (p = p0) && decide (v = 0) else false := by rw [hK]; rfl
  clear hK hp
  generalize hpp : decide (p = p0) = PZ at hKp
  have hpz2 : PZ = decide (p.getD 0 0 = 0 ∧ p.getD 1 0 = 0 ∧ p.getD 2 0 = 0 ∧ p.getD 3 0 = 0 ∧ p.getD 4 0 = 0 ∧ p.getD 5 0 = 0 ∧ p.getD 6 0 = 0) := by
    rw [← hpp]; exact decide_eq_decide.2 hpz
  clear hpp hpz
  generalize polB p = PB at hKp hpol
  generalize p.getD 0 0 = p0, p.getD 1 0 = p1, p.getD 2 0 = p2, p.getD 3 0 = p3, p.getD 4 0 = p4, p.getD 5 0 = p5, p.getD 6 0 = p6 at *
  have HR := Lib.hid hR2
  have HK := Lib.hid hKp
  have HZ := Lib.hid hpz2
  have HP := Lib.hid hpol
  have HL := Lib.hid hl
  have HMB := Lib.hid hmb
  clear hR2 hKp hpz2 hpol hl hmb
  go_enter Try.func12, Try.ntmps12
  go_upto_region 1 with fail
  refine nameW ?_
  intro wv hwv
  obtain ⟨b, hb⟩ : ∃ b, b = w.heap.size := ⟨_, rfl⟩
  rw [← hb]
  rw [← hwv, ← hb] at kb hbb
  have hlv := HL.out.below (B := w.heap.size) (by rw [← hb]; exact hbb)
  rw [← hb] at hlv
  obtain ⟨c0, c1, _⟩ := ecells kb
  have HBE := Lib.hid hb
  clear hwv hb HL
  go_wp2_with fail
  refine (rmay_any n q wv).mono ?_
  rintro e w2 ⟨rfl, b2⟩
  have hb2 := hbb.trans (b2.mono (by have := kb.lt; omega))
  have kb2 := kb.below b2 kb.lt
  have hl2 := hlv.below (b2.mono (by have := kb.lt; omega))
  have hs2 := kb2.lt
  clear kb hlv c0 c1 hbb b2
  obtain ⟨c0, c1, c2, c3, c4, c5, c6, c7, c8, c9, c10, c11, c12, c13⟩ := ecells kb2
  rcases hm : mayB (n, q) with _ | _
  · skip
    go_wp2_with fail
    go_ret
    refine ⟨?_, by rw [← HBE.out]; exact hb2⟩
    rw [HR.out, hm]
    try rfl
  have HMY := Lib.hid hm
  clear hm
  have hn1 : ¬ t < 1 → ¬ (1099511627776 : Int) < t → inB t 1 top = true := fun h1 h2 => (inB_iff _ _ _).2 ⟨by omega, by unfold top; omega⟩
  have hn2 : ¬ wk < 0 → ¬ (7 : Int) < wk → inB wk 0 7 = true := fun h1 h2 => (inB_iff _ _ _).2 ⟨by omega, by omega⟩
  have HN1 := Lib.hid hn1
  have HN2 := Lib.hid hn2
  clear hn1 hn2
  by_cases hc : t < 1
  · have hcd : decide (t < 1) = true := decide_eq_true hc
    have hcx : inB t 1 top = false := by rw [← Bool.not_eq_true, inB_iff]; unfold top; omega
    clear hc
    have HCX := Lib.hid hcx
    clear hcx
    go_wp2_with fail
    go_ret
    refine ⟨?_, by rw [← HBE.out]; exact hb2⟩
    rw [HR.out, HMY.out, HCX.out]
    try rfl
  have e1 : decide (t < 1) = false := decide_eq_false hc
  have E1 := Lib.hid hc
  clear hc
  by_cases hc : (1099511627776 : Int) < t
  · have hcd : decide ((1099511627776 : Int) < t) = true := decide_eq_true hc
    have hcx : inB t 1 top = false := by rw [← Bool.not_eq_true, inB_iff]; unfold top; omega
    clear hc
    have HCX := Lib.hid hcx
    clear hcx
    go_wp2_with fail
    go_ret
    refine ⟨?_, by rw [← HBE.out]; exact hb2⟩
    rw [HR.out, HMY.out, HCX.out]
    try rfl
  have e2 : decide ((1099511627776 : Int) < t) = false := decide_eq_false hc
  have HT := Lib.hid (HN1.out E1.out hc)
  clear hc
  by_cases hc : wk < 0
  · have hcd : decide (wk < 0) = true := decide_eq_true hc
    have hcx : inB wk 0 7 = false := by rw [← Bool.not_eq_true, inB_iff]; omega
    clear hc
    have HCX := Lib.hid hcx
    clear hcx
    go_wp2_with fail
    go_ret
    refine ⟨?_, by rw [← HBE.out]; exact hb2⟩
    rw [HR.out, HMY.out, HT.out, HCX.out]
    try rfl
  have e3 : decide (wk < 0) = false := decide_eq_false hc
  have E3 := Lib.hid hc
  clear hc
  by_cases hc : (7 : Int) < wk
  · have hcd : decide ((7 : Int) < wk) = true := decide_eq_true hc
    have hcx : inB wk 0 7 = false := by rw [← Bool.not_eq_true, inB_iff]; omega
    clear hc
    have HCX := Lib.hid hcx
    clear hcx
    go_wp2_with fail
    go_ret
    refine ⟨?_, by rw [← HBE.out]; exact hb2⟩
    rw [HR.out, HMY.out, HT.out, HCX.out]
    try rfl
  have e4 : decide ((7 : Int) < wk) = false := decide_eq_false hc
  have HW := Lib.hid (HN2.out E3.out hc)
  clear hc
  by_cases hc : (96 : Int) < (m : Int)
  · have hcd : decide ((96 : Int) < (m : Int)) = true := decide_eq_true hc
    have hcx : decide (l.length ≤ 96) = false := by rw [decide_eq_false_iff_not]; have := HM.out; omega
    clear hc
    have HCX := Lib.hid hcx
    clear hcx
    go_wp2_with fail
    go_ret
    refine ⟨?_, by rw [← HBE.out]; exact hb2⟩
    rw [HR.out, HMY.out, HT.out, HW.out, HCX.out]
    try rfl
  have e5 : decide ((96 : Int) < (m : Int)) = false := decide_eq_false hc
  have HLE := Lib.hid (show decide (l.length ≤ 96) = true by rw [decide_eq_true_eq]; have := HM.out; omega)
  have H96 := Lib.hid (show m ≤ 96 by omega)
  clear hc
  have HRN := Lib.hid (show R = (namedB (n, q) l && K) by rw [HR.out, HMY.out, HT.out, HW.out, HLE.out]; cases namedB (n, q) l <;> rfl)
  clear HR HMY HT HW HLE HN1 HN2 E1 E3
  go_wp2_with fail
  go_loopw [38] (fun i wr => ∃ j : Nat, j ≤ m ∧ i = .int .i64 j ∧ (∀ i, i < j → nameAt (n, q) l i = true) ∧ Blk wr b 28 #[.int .i64 n, .int .i64 q, .int .i64 t, .int .i64 k, .int .i64 wk, .int .i64 v, .int .i64 p0, .int .i64 p1, .int .i64 p2, .int .i64 p3, .int .i64 p4, .int .i64 p5, .int .i64 p6, .slice A m c] ∧ RdD wr b A m l ∧ Below b w wr) (fun i _ => m - (intOf i).toNat)
  case atStart => exact ⟨0, by omega, rfl, fun i hi => by omega, kb2, hl2, hb2⟩
  case round =>
    clear kb2 hl2 hb2 c0 c1 c2 c3 c4 c5 c6 c7 c8 c9 c10 c11 c12 c13 e1 e2 e3 e4 e5 hs2
    obtain ⟨j, hj, rfl, hall, kb, hl, hbel⟩ := hrel
    have HA := Lib.hid hall
    clear hall
    by_cases hlt : j < m
    · have hjl : j < l.length := by rw [← HM.out]; exact hlt
      obtain ⟨ad, hA, hdt⟩ := hl.2 j _ (List.getElem?_eq_getElem hjl)
      have hgd : nameAt (n, q) l j = (mayB l[j] && !decide (l[j] = (n, q)) && (decide (j = 0) || befB (l.getD (j - 1) (0, 0)) l[j])) := by
        unfold nameAt
        rw [show l.getD j (0, 0) = l[j] by rw [List.getD_eq_getElem?_getD, List.getElem?_eq_getElem hjl]; rfl]
      generalize l[j] = d at *
      subst hA
      obtain ⟨x, y⟩ := d
      obtain ⟨q5, q0, q1⟩ := hdt
      simp only at q0 q1 hgd
      have HG := Lib.hid hgd
      clear hgd
      have hsz := kb.lt
      obtain ⟨wn, hwn⟩ : ∃ wn, wn = wr.alloc (.cells #[.int .i64 x, .int .i64 y] 23) := ⟨_, rfl⟩
      obtain ⟨gd, hgd⟩ : ∃ gd, gd = wr.heap.size := ⟨_, rfl⟩
      have kx : Blk wn gd 23 #[.int .i64 x, .int .i64 y] := by rw [hwn, hgd]; exact Blk.new wr _ _
      have bn : Below wr.heap.size wr wn := by rw [hwn]; exact (Below.refl _ _).alloc (Nat.le_refl _) _
      have kb1 := kb.below bn kb.lt
      have hb1 := hbel.trans (bn.mono (by omega))
      have hl1 := hl.below (bn.mono (by omega))
      have HW := Lib.hid hwn
      have HGD := Lib.hid hgd
      have hgl : b < gd := by omega
      have hj0 : (0 : Int) ≤ (j : Int) := by omega
      have hjm : (j : Int) < (m : Int) := by omega
      clear hwn hgd bn hl
      have cs : wr.cell? ⟨b, 13, none⟩ = some (.slice (some ad) m c) := kb.cell 13
      go_upto_region 6 with fail
      rw [← HW.out, ← HGD.out]
      clear cs q0 q1 kb hbel
      have t0 : wn.cell? ⟨gd, 0, none⟩ = some (.int .i64 x) := kx.cell 0
      have t1 : wn.cell? ⟨gd, 1, none⟩ = some (.int .i64 y) := kx.cell 1
      have o0 : wn.cell? ⟨b, 0, none⟩ = some (.int .i64 n) := kb1.cell 0
      have o1 : wn.cell? ⟨b, 1, none⟩ = some (.int .i64 q) := kb1.cell 1
      have o13 : wn.cell? ⟨b, 13, none⟩ = some (.slice (some ad) m c) := kb1.cell 13
      have hmc : ∀ w', Calls Try.prog 35 #[.agg #[.int .i64 x, .int .i64 y]] w' fun e w'' => e = .returned (.bool (mayB (x, y))) ∧ Below w'.heap.size w' w'' := fun w' => rmay_any x y w'
      cases hmm : mayB (x, y)
      case false =>
        have hgk : nameAt (n, q) l j = false := by rw [HG.out, hmm]; rfl
        have HGK := Lib.hid hgk
        rw [hmm] at hmc
        have HMC := Lib.hid hmc
        clear hgk hmm hmc
        refine wp_region_below (by kernel_rfl) (by kernel_rfl) ?_
        intro T iT F hF hT
        have S0 : ∀ xf, (F xf).cell? ⟨gd, 0, none⟩ = some (.int .i64 x) := fun xf => ((hF xf).cell (p := ⟨gd, 0, none⟩) kx.lt).trans t0
        have S1 : ∀ xf, (F xf).cell? ⟨gd, 1, none⟩ = some (.int .i64 y) := fun xf => ((hF xf).cell (p := ⟨gd, 1, none⟩) kx.lt).trans t1
        have S2 : ∀ xf, (F xf).cell? ⟨b, 0, none⟩ = some (.int .i64 n) := fun xf => ((hF xf).cell (p := ⟨b, 0, none⟩) kb1.lt).trans o0
        have S3 : ∀ xf, (F xf).cell? ⟨b, 1, none⟩ = some (.int .i64 q) := fun xf => ((hF xf).cell (p := ⟨b, 1, none⟩) kb1.lt).trans o1
        have S4 : ∀ xf, (F xf).cell? ⟨b, 13, none⟩ = some (.slice (some ad) m c) := fun xf => ((hF xf).cell (p := ⟨b, 13, none⟩) kb1.lt).trans o13
        have HF := Lib.hid hF
        have HT := Lib.hid hT
        clear hF hT
        repeat (first
          | go_big_quiet_step (((go_at_call 35; exact calls_below HF.out HT.out (HMC.out _)))))
        refine wpQuiet_nil ?_
        intro w' hw'
        obtain ⟨qf, rfl⟩ := hw'
        have bF := HF.out qf
        have kF := kb1.below bF kb1.lt
        have hbF := hb1.trans (bF.mono (by have := kb1.lt; omega))
        have hlF := hl1.below (bF.mono (by have := kb1.lt; omega))
        clear HF HT S0 S1 S2 S3 S4 t0 t1 o0 o1 o13
        go_wp2_with fail
        go_ret
        refine ⟨?_, by rw [← HBE.out]; exact hbF⟩
        rw [HRN.out, name_at hjl HGK.out]
        rfl
      case true =>
        have HMM := Lib.hid hmm
        rw [hmm] at hmc
        have HMC := Lib.hid hmc
        clear hmm hmc
        by_cases hx : x = n
        · subst hx
          by_cases hy : y = q
          · subst hy
            have hgk : nameAt (x, y) l j = false := by rw [HG.out, HMM.out]; simp
            have HGK := Lib.hid hgk
            clear hgk
            refine wp_region_below (by kernel_rfl) (by kernel_rfl) ?_
            intro T iT F hF hT
            have S0 : ∀ xf, (F xf).cell? ⟨gd, 0, none⟩ = some (.int .i64 x) := fun xf => ((hF xf).cell (p := ⟨gd, 0, none⟩) kx.lt).trans t0
            have S1 : ∀ xf, (F xf).cell? ⟨gd, 1, none⟩ = some (.int .i64 y) := fun xf => ((hF xf).cell (p := ⟨gd, 1, none⟩) kx.lt).trans t1
            have S2 : ∀ xf, (F xf).cell? ⟨b, 0, none⟩ = some (.int .i64 x) := fun xf => ((hF xf).cell (p := ⟨b, 0, none⟩) kb1.lt).trans o0
            have S3 : ∀ xf, (F xf).cell? ⟨b, 1, none⟩ = some (.int .i64 y) := fun xf => ((hF xf).cell (p := ⟨b, 1, none⟩) kb1.lt).trans o1
            have S4 : ∀ xf, (F xf).cell? ⟨b, 13, none⟩ = some (.slice (some ad) m c) := fun xf => ((hF xf).cell (p := ⟨b, 13, none⟩) kb1.lt).trans o13
            have HF := Lib.hid hF
            have HT := Lib.hid hT
            clear hF hT
            repeat (first
              | go_big_quiet_step (((go_at_call 35; exact calls_below HF.out HT.out (HMC.out _)))))
            refine wpQuiet_nil ?_
            intro w' hw'
            obtain ⟨qf, rfl⟩ := hw'
            have bF := HF.out qf
            have kF := kb1.below bF kb1.lt
            have hbF := hb1.trans (bF.mono (by have := kb1.lt; omega))
            have hlF := hl1.below (bF.mono (by have := kb1.lt; omega))
            clear HF HT S0 S1 S2 S3 S4 t0 t1 o0 o1 o13
            go_wp2_with fail
            go_ret
            refine ⟨?_, by rw [← HBE.out]; exact hbF⟩
            rw [HRN.out, name_at hjl HGK.out]
            rfl
          · skip
            have HNO := Lib.hid (show decide ((x, y) = (x, q)) = false by rw [decide_eq_false_iff_not]; intro h; exact hy (congrArg Prod.snd h))
            by_cases hk0 : j = 0
            · subst hk0
              have hgk : nameAt (x, q) l 0 = true := by rw [HG.out, HMM.out, HNO.out]; rfl
              have HGK := Lib.hid hgk
              clear hgk
              refine wp_region_below (by kernel_rfl) (by kernel_rfl) ?_
              intro T iT F hF hT
              have S0 : ∀ xf, (F xf).cell? ⟨gd, 0, none⟩ = some (.int .i64 x) := fun xf => ((hF xf).cell (p := ⟨gd, 0, none⟩) kx.lt).trans t0
              have S1 : ∀ xf, (F xf).cell? ⟨gd, 1, none⟩ = some (.int .i64 y) := fun xf => ((hF xf).cell (p := ⟨gd, 1, none⟩) kx.lt).trans t1
              have S2 : ∀ xf, (F xf).cell? ⟨b, 0, none⟩ = some (.int .i64 x) := fun xf => ((hF xf).cell (p := ⟨b, 0, none⟩) kb1.lt).trans o0
              have S3 : ∀ xf, (F xf).cell? ⟨b, 1, none⟩ = some (.int .i64 q) := fun xf => ((hF xf).cell (p := ⟨b, 1, none⟩) kb1.lt).trans o1
              have S4 : ∀ xf, (F xf).cell? ⟨b, 13, none⟩ = some (.slice (some ad) m c) := fun xf => ((hF xf).cell (p := ⟨b, 13, none⟩) kb1.lt).trans o13
              have HF := Lib.hid hF
              have HT := Lib.hid hT
              clear hF hT
              repeat (first
                | go_big_quiet_step (((go_at_call 35; exact calls_below HF.out HT.out (HMC.out _)))))
              refine wpQuiet_nil ?_
              intro w' hw'
              obtain ⟨qf, rfl⟩ := hw'
              have bF := HF.out qf
              have kF := kb1.below bF kb1.lt
              have hbF := hb1.trans (bF.mono (by have := kb1.lt; omega))
              have hlF := hl1.below (bF.mono (by have := kb1.lt; omega))
              clear HF HT S0 S1 S2 S3 S4 t0 t1 o0 o1 o13
              go_wp2_with fail
              go_roundw
              case rel => exact ⟨1, by omega, rfl, fun i hi => by
                by_cases e : i = 0
                · subst e; exact HGK.out
                · exact HA.out i (by omega), kF, hlF, hbF⟩
              case measure => simp only [intOf]; omega
            · obtain ⟨i, hmk⟩ : ∃ i, j = i + 1 := ⟨j - 1, by omega⟩
              have hml : i < l.length := by omega
              have hkp : 0 < j := by omega
              have hkq : (0 : Int) < (j : Int) := by omega
              have hwk : IntKind.i64.wrap ((j : Int) - 1) = (i : Int) := by rw [IntKind.wrap_i64]; have := H96.out; omega
              have hm0 : (0 : Int) ≤ (i : Int) := by omega
              have hmn : (i : Int) < (m : Int) := by omega
              obtain ⟨ad2, hae, hdt2⟩ := hl1.2 i _ (List.getElem?_eq_getElem hml)
              injection hae with hae
              subst hae
              have hpe : l.getD i (0, 0) = l[i] := by rw [List.getD_eq_getElem?_getD, List.getElem?_eq_getElem hml]; rfl
              have hg3 : nameAt (x, q) l j = befB l[i] (x, y) := by
                rw [HG.out, HMM.out, HNO.out, decide_eq_false hk0, show j - 1 = i by omega, hpe]
                cases befB l[i] (x, y) <;> rfl
              clear hpe
              generalize l[i] = d at *
              obtain ⟨x2, y2⟩ := d
              obtain ⟨p5, p0, p1⟩ := hdt2
              simp only at p0 p1
              have p6 : (ad.add (i * 2)).block < wn.heap.size := Nat.lt_of_lt_of_le p5 (by have := kb1.lt; omega)
              clear HG
              have HG := Lib.hid hg3
              clear hg3 hmk
              have hcc : ∀ w', Calls Try.prog 36 #[.agg #[.int .i64 x2, .int .i64 y2], .agg #[.int .i64 x, .int .i64 y]] w' fun e w'' => e = .returned (.bool (befB (x2, y2) (x, y))) ∧ Below w'.heap.size w' w'' := fun w' => before_any x2 y2 x y w'
              cases hbf : befB (x2, y2) (x, y)
              case false =>
                have hgk : nameAt (x, q) l j = false := by rw [HG.out, hbf]
                have HGK := Lib.hid hgk
                rw [hbf] at hcc
                have HCC := Lib.hid hcc
                clear hgk hbf hcc
                refine wp_region_below (by kernel_rfl) (by kernel_rfl) ?_
                intro T iT F hF hT
                have S0 : ∀ xf, (F xf).cell? ⟨gd, 0, none⟩ = some (.int .i64 x) := fun xf => ((hF xf).cell (p := ⟨gd, 0, none⟩) kx.lt).trans t0
                have S1 : ∀ xf, (F xf).cell? ⟨gd, 1, none⟩ = some (.int .i64 y) := fun xf => ((hF xf).cell (p := ⟨gd, 1, none⟩) kx.lt).trans t1
                have S2 : ∀ xf, (F xf).cell? ⟨b, 0, none⟩ = some (.int .i64 x) := fun xf => ((hF xf).cell (p := ⟨b, 0, none⟩) kb1.lt).trans o0
                have S3 : ∀ xf, (F xf).cell? ⟨b, 1, none⟩ = some (.int .i64 q) := fun xf => ((hF xf).cell (p := ⟨b, 1, none⟩) kb1.lt).trans o1
                have S4 : ∀ xf, (F xf).cell? ⟨b, 13, none⟩ = some (.slice (some ad) m c) := fun xf => ((hF xf).cell (p := ⟨b, 13, none⟩) kb1.lt).trans o13
                have SP : ∀ xf, (F xf).cell? (ad.add (i * 2)) = some (.int .i64 x2) := fun xf => ((hF xf).cell p6).trans p0
                have SQ : ∀ xf, (F xf).cell? ⟨(ad.add (i * 2)).block, (ad.add (i * 2)).off + 1, none⟩ = some (.int .i64 y2) := fun xf => ((hF xf).cell (p := ⟨(ad.add (i * 2)).block, (ad.add (i * 2)).off + 1, none⟩) p6).trans p1
                have HF := Lib.hid hF
                have HT := Lib.hid hT
                clear hF hT
                repeat (first
                  | go_big_quiet_step ((first | (go_at_call 35; exact calls_below HF.out HT.out (HMC.out _)) | (go_at_call 36; exact calls_below HF.out HT.out (HCC.out _)))))
                refine wpQuiet_nil ?_
                intro w' hw'
                obtain ⟨qf, rfl⟩ := hw'
                have bF := HF.out qf
                have kF := kb1.below bF kb1.lt
                have hbF := hb1.trans (bF.mono (by have := kb1.lt; omega))
                have hlF := hl1.below (bF.mono (by have := kb1.lt; omega))
                clear HF HT S0 S1 S2 S3 S4 t0 t1 o0 o1 o13
                go_wp2_with fail
                go_ret
                refine ⟨?_, by rw [← HBE.out]; exact hbF⟩
                rw [HRN.out, name_at hjl HGK.out]
                rfl
              case true =>
                have hgk : nameAt (x, q) l j = true := by rw [HG.out, hbf]
                have HGK := Lib.hid hgk
                rw [hbf] at hcc
                have HCC := Lib.hid hcc
                clear hgk hbf hcc
                refine wp_region_below (by kernel_rfl) (by kernel_rfl) ?_
                intro T iT F hF hT
                have S0 : ∀ xf, (F xf).cell? ⟨gd, 0, none⟩ = some (.int .i64 x) := fun xf => ((hF xf).cell (p := ⟨gd, 0, none⟩) kx.lt).trans t0
                have S1 : ∀ xf, (F xf).cell? ⟨gd, 1, none⟩ = some (.int .i64 y) := fun xf => ((hF xf).cell (p := ⟨gd, 1, none⟩) kx.lt).trans t1
                have S2 : ∀ xf, (F xf).cell? ⟨b, 0, none⟩ = some (.int .i64 x) := fun xf => ((hF xf).cell (p := ⟨b, 0, none⟩) kb1.lt).trans o0
                have S3 : ∀ xf, (F xf).cell? ⟨b, 1, none⟩ = some (.int .i64 q) := fun xf => ((hF xf).cell (p := ⟨b, 1, none⟩) kb1.lt).trans o1
                have S4 : ∀ xf, (F xf).cell? ⟨b, 13, none⟩ = some (.slice (some ad) m c) := fun xf => ((hF xf).cell (p := ⟨b, 13, none⟩) kb1.lt).trans o13
                have SP : ∀ xf, (F xf).cell? (ad.add (i * 2)) = some (.int .i64 x2) := fun xf => ((hF xf).cell p6).trans p0
                have SQ : ∀ xf, (F xf).cell? ⟨(ad.add (i * 2)).block, (ad.add (i * 2)).off + 1, none⟩ = some (.int .i64 y2) := fun xf => ((hF xf).cell (p := ⟨(ad.add (i * 2)).block, (ad.add (i * 2)).off + 1, none⟩) p6).trans p1
                have HF := Lib.hid hF
                have HT := Lib.hid hT
                clear hF hT
                repeat (first
                  | go_big_quiet_step ((first | (go_at_call 35; exact calls_below HF.out HT.out (HMC.out _)) | (go_at_call 36; exact calls_below HF.out HT.out (HCC.out _)))))
                refine wpQuiet_nil ?_
                intro w' hw'
                obtain ⟨qf, rfl⟩ := hw'
                have bF := HF.out qf
                have kF := kb1.below bF kb1.lt
                have hbF := hb1.trans (bF.mono (by have := kb1.lt; omega))
                have hlF := hl1.below (bF.mono (by have := kb1.lt; omega))
                clear HF HT S0 S1 S2 S3 S4 t0 t1 o0 o1 o13
                go_wp2_with fail
                go_roundw
                case rel => exact ⟨j + 1, by omega, num_succ j (by have := H96.out; omega), fun i hi => by
                  by_cases e : i = j
                  · subst e; exact HGK.out
                  · exact HA.out i (by omega), kF, hlF, hbF⟩
                case measure => exact meas_succ j m hlt (by have := H96.out; omega)
        · skip
          have HNO := Lib.hid (show decide ((x, y) = (n, q)) = false by rw [decide_eq_false_iff_not]; intro h; exact hx (congrArg Prod.fst h))
          by_cases hk0 : j = 0
          · subst hk0
            have hgk : nameAt (n, q) l 0 = true := by rw [HG.out, HMM.out, HNO.out]; rfl
            have HGK := Lib.hid hgk
            clear hgk
            refine wp_region_below (by kernel_rfl) (by kernel_rfl) ?_
            intro T iT F hF hT
            have S0 : ∀ xf, (F xf).cell? ⟨gd, 0, none⟩ = some (.int .i64 x) := fun xf => ((hF xf).cell (p := ⟨gd, 0, none⟩) kx.lt).trans t0
            have S1 : ∀ xf, (F xf).cell? ⟨gd, 1, none⟩ = some (.int .i64 y) := fun xf => ((hF xf).cell (p := ⟨gd, 1, none⟩) kx.lt).trans t1
            have S2 : ∀ xf, (F xf).cell? ⟨b, 0, none⟩ = some (.int .i64 n) := fun xf => ((hF xf).cell (p := ⟨b, 0, none⟩) kb1.lt).trans o0
            have S3 : ∀ xf, (F xf).cell? ⟨b, 1, none⟩ = some (.int .i64 q) := fun xf => ((hF xf).cell (p := ⟨b, 1, none⟩) kb1.lt).trans o1
            have S4 : ∀ xf, (F xf).cell? ⟨b, 13, none⟩ = some (.slice (some ad) m c) := fun xf => ((hF xf).cell (p := ⟨b, 13, none⟩) kb1.lt).trans o13
            have HF := Lib.hid hF
            have HT := Lib.hid hT
            clear hF hT
            repeat (first
              | go_big_quiet_step (((go_at_call 35; exact calls_below HF.out HT.out (HMC.out _)))))
            refine wpQuiet_nil ?_
            intro w' hw'
            obtain ⟨qf, rfl⟩ := hw'
            have bF := HF.out qf
            have kF := kb1.below bF kb1.lt
            have hbF := hb1.trans (bF.mono (by have := kb1.lt; omega))
            have hlF := hl1.below (bF.mono (by have := kb1.lt; omega))
            clear HF HT S0 S1 S2 S3 S4 t0 t1 o0 o1 o13
            go_wp2_with fail
            go_roundw
            case rel => exact ⟨1, by omega, rfl, fun i hi => by
              by_cases e : i = 0
              · subst e; exact HGK.out
              · exact HA.out i (by omega), kF, hlF, hbF⟩
            case measure => simp only [intOf]; omega
          · obtain ⟨i, hmk⟩ : ∃ i, j = i + 1 := ⟨j - 1, by omega⟩
            have hml : i < l.length := by omega
            have hkp : 0 < j := by omega
            have hkq : (0 : Int) < (j : Int) := by omega
            have hwk : IntKind.i64.wrap ((j : Int) - 1) = (i : Int) := by rw [IntKind.wrap_i64]; have := H96.out; omega
            have hm0 : (0 : Int) ≤ (i : Int) := by omega
            have hmn : (i : Int) < (m : Int) := by omega
            obtain ⟨ad2, hae, hdt2⟩ := hl1.2 i _ (List.getElem?_eq_getElem hml)
            injection hae with hae
            subst hae
            have hpe : l.getD i (0, 0) = l[i] := by rw [List.getD_eq_getElem?_getD, List.getElem?_eq_getElem hml]; rfl
            have hg3 : nameAt (n, q) l j = befB l[i] (x, y) := by
              rw [HG.out, HMM.out, HNO.out, decide_eq_false hk0, show j - 1 = i by omega, hpe]
              cases befB l[i] (x, y) <;> rfl
            clear hpe
            generalize l[i] = d at *
            obtain ⟨x2, y2⟩ := d
            obtain ⟨p5, p0, p1⟩ := hdt2
            simp only at p0 p1
            have p6 : (ad.add (i * 2)).block < wn.heap.size := Nat.lt_of_lt_of_le p5 (by have := kb1.lt; omega)
            clear HG
            have HG := Lib.hid hg3
            clear hg3 hmk
            have hcc : ∀ w', Calls Try.prog 36 #[.agg #[.int .i64 x2, .int .i64 y2], .agg #[.int .i64 x, .int .i64 y]] w' fun e w'' => e = .returned (.bool (befB (x2, y2) (x, y))) ∧ Below w'.heap.size w' w'' := fun w' => before_any x2 y2 x y w'
            cases hbf : befB (x2, y2) (x, y)
            case false =>
              have hgk : nameAt (n, q) l j = false := by rw [HG.out, hbf]
              have HGK := Lib.hid hgk
              rw [hbf] at hcc
              have HCC := Lib.hid hcc
              clear hgk hbf hcc
              refine wp_region_below (by kernel_rfl) (by kernel_rfl) ?_
              intro T iT F hF hT
              have S0 : ∀ xf, (F xf).cell? ⟨gd, 0, none⟩ = some (.int .i64 x) := fun xf => ((hF xf).cell (p := ⟨gd, 0, none⟩) kx.lt).trans t0
              have S1 : ∀ xf, (F xf).cell? ⟨gd, 1, none⟩ = some (.int .i64 y) := fun xf => ((hF xf).cell (p := ⟨gd, 1, none⟩) kx.lt).trans t1
              have S2 : ∀ xf, (F xf).cell? ⟨b, 0, none⟩ = some (.int .i64 n) := fun xf => ((hF xf).cell (p := ⟨b, 0, none⟩) kb1.lt).trans o0
              have S3 : ∀ xf, (F xf).cell? ⟨b, 1, none⟩ = some (.int .i64 q) := fun xf => ((hF xf).cell (p := ⟨b, 1, none⟩) kb1.lt).trans o1
              have S4 : ∀ xf, (F xf).cell? ⟨b, 13, none⟩ = some (.slice (some ad) m c) := fun xf => ((hF xf).cell (p := ⟨b, 13, none⟩) kb1.lt).trans o13
              have SP : ∀ xf, (F xf).cell? (ad.add (i * 2)) = some (.int .i64 x2) := fun xf => ((hF xf).cell p6).trans p0
              have SQ : ∀ xf, (F xf).cell? ⟨(ad.add (i * 2)).block, (ad.add (i * 2)).off + 1, none⟩ = some (.int .i64 y2) := fun xf => ((hF xf).cell (p := ⟨(ad.add (i * 2)).block, (ad.add (i * 2)).off + 1, none⟩) p6).trans p1
              have HF := Lib.hid hF
              have HT := Lib.hid hT
              clear hF hT
              repeat (first
                | go_big_quiet_step ((first | (go_at_call 35; exact calls_below HF.out HT.out (HMC.out _)) | (go_at_call 36; exact calls_below HF.out HT.out (HCC.out _)))))
              refine wpQuiet_nil ?_
              intro w' hw'
              obtain ⟨qf, rfl⟩ := hw'
              have bF := HF.out qf
              have kF := kb1.below bF kb1.lt
              have hbF := hb1.trans (bF.mono (by have := kb1.lt; omega))
              have hlF := hl1.below (bF.mono (by have := kb1.lt; omega))
              clear HF HT S0 S1 S2 S3 S4 t0 t1 o0 o1 o13
              go_wp2_with fail
              go_ret
              refine ⟨?_, by rw [← HBE.out]; exact hbF⟩
              rw [HRN.out, name_at hjl HGK.out]
              rfl
            case true =>
              have hgk : nameAt (n, q) l j = true := by rw [HG.out, hbf]
              have HGK := Lib.hid hgk
              rw [hbf] at hcc
              have HCC := Lib.hid hcc
              clear hgk hbf hcc
              refine wp_region_below (by kernel_rfl) (by kernel_rfl) ?_
              intro T iT F hF hT
              have S0 : ∀ xf, (F xf).cell? ⟨gd, 0, none⟩ = some (.int .i64 x) := fun xf => ((hF xf).cell (p := ⟨gd, 0, none⟩) kx.lt).trans t0
              have S1 : ∀ xf, (F xf).cell? ⟨gd, 1, none⟩ = some (.int .i64 y) := fun xf => ((hF xf).cell (p := ⟨gd, 1, none⟩) kx.lt).trans t1
              have S2 : ∀ xf, (F xf).cell? ⟨b, 0, none⟩ = some (.int .i64 n) := fun xf => ((hF xf).cell (p := ⟨b, 0, none⟩) kb1.lt).trans o0
              have S3 : ∀ xf, (F xf).cell? ⟨b, 1, none⟩ = some (.int .i64 q) := fun xf => ((hF xf).cell (p := ⟨b, 1, none⟩) kb1.lt).trans o1
              have S4 : ∀ xf, (F xf).cell? ⟨b, 13, none⟩ = some (.slice (some ad) m c) := fun xf => ((hF xf).cell (p := ⟨b, 13, none⟩) kb1.lt).trans o13
              have SP : ∀ xf, (F xf).cell? (ad.add (i * 2)) = some (.int .i64 x2) := fun xf => ((hF xf).cell p6).trans p0
              have SQ : ∀ xf, (F xf).cell? ⟨(ad.add (i * 2)).block, (ad.add (i * 2)).off + 1, none⟩ = some (.int .i64 y2) := fun xf => ((hF xf).cell (p := ⟨(ad.add (i * 2)).block, (ad.add (i * 2)).off + 1, none⟩) p6).trans p1
              have HF := Lib.hid hF
              have HT := Lib.hid hT
              clear hF hT
              repeat (first
                | go_big_quiet_step ((first | (go_at_call 35; exact calls_below HF.out HT.out (HMC.out _)) | (go_at_call 36; exact calls_below HF.out HT.out (HCC.out _)))))
              refine wpQuiet_nil ?_
              intro w' hw'
              obtain ⟨qf, rfl⟩ := hw'
              have bF := HF.out qf
              have kF := kb1.below bF kb1.lt
              have hbF := hb1.trans (bF.mono (by have := kb1.lt; omega))
              have hlF := hl1.below (bF.mono (by have := kb1.lt; omega))
              clear HF HT S0 S1 S2 S3 S4 t0 t1 o0 o1 o13
              go_wp2_with fail
              go_roundw
              case rel => exact ⟨j + 1, by omega, num_succ j (by have := H96.out; omega), fun i hi => by
                by_cases e : i = j
                · subst e; exact HGK.out
                · exact HA.out i (by omega), kF, hlF, hbF⟩
              case measure => exact meas_succ j m hlt (by have := H96.out; omega)
    · have hne : namedB (n, q) l = true := by
        rw [named_iff]
        exact fun i hi => HA.out i (by have := HM.out; omega)
      have HRK := Lib.hid (show R = K by rw [HRN.out, hne]; rfl)
      have hjd : decide ((j : Int) < (m : Int)) = false := decide_eq_false (by omega)
      have HB4 := Lib.hid hbel
      have hs4 := kb.lt
      obtain ⟨c0, c1, c2, c3, c4, c5, c6, c7, c8, c9, c10, c11, c12, c13⟩ := ecells kb
      clear HRN HA hne kb hl hbel
      by_cases hp0 : p0 = 0
      rotate_left
      · have hz : PZ = false := by rw [HZ.out, decide_eq_false_iff_not]; omega
        by_cases k1 : k = 1
        · have hKv := HK.out
          rw [if_pos k1] at hKv
          clear HK
          have HK := Lib.hid hKv
          clear hKv
          subst k1
          by_cases hv0 : 0 ≤ v
          rotate_left
          · have hvx := Lib.hid (show inB v 0 top = false by rw [← Bool.not_eq_true, inB_iff]; omega)
            have hvd : decide (0 ≤ v) = false := decide_eq_false hv0
            clear hv0
            go_wp2_with fail
            go_ret
            refine ⟨?_, by rw [← HBE.out]; exact HB4.out⟩
            rw [HRK.out, HK.out, hz, hvx.out]
            try rfl
          have hvd : decide (0 ≤ v) = true := decide_eq_true hv0
          by_cases hvt : v ≤ 1099511627776
          rotate_left
          · have hvx := Lib.hid (show inB v 0 top = false by rw [← Bool.not_eq_true, inB_iff]; unfold top; omega)
            have hvd2 : decide (v ≤ 1099511627776) = false := decide_eq_false hvt
            clear hv0 hvt
            go_wp2_with fail
            go_ret
            refine ⟨?_, by rw [← HBE.out]; exact HB4.out⟩
            rw [HRK.out, HK.out, hz, hvx.out]
            try rfl
          have hvd2 : decide (v ≤ 1099511627776) = true := decide_eq_true hvt
          have hvx := Lib.hid (show inB v 0 top = true by rw [inB_iff]; unfold top; omega)
          clear hv0 hvt
          go_wp2_with fail
          go_ret
          refine ⟨?_, by rw [← HBE.out]; exact HB4.out⟩
          rw [HRK.out, HK.out, hz, hvx.out]
          try rfl
        by_cases k2 : k = 2
        · have hKv := HK.out
          rw [if_neg k1, if_pos k2] at hKv
          clear HK
          have HK := Lib.hid hKv
          clear hKv
          subst k2
          clear k1
          by_cases hv : v = 0
          · have hKv := HK.out
            rw [decide_eq_true hv] at hKv
            clear HK
            have HK := Lib.hid hKv
            clear hKv
            subst hv
            go_wp2_with fail
            refine (HP.out _).mono ?_
            rintro e w5 ⟨rfl, b5⟩
            have hb5 := HB4.out.trans (b5.mono (by have := HB4.out.size; omega))
            go_wp2_with fail
            go_ret
            refine ⟨?_, by rw [← HBE.out]; exact hb5⟩
            rw [HRK.out, HK.out]
            cases PB <;> rfl
          have hv2 : (v == (0 : Int)) = false := by rw [beq_eq_false_iff_ne]; exact hv
          go_wp2_with fail
          go_ret
          refine ⟨?_, by rw [← HBE.out]; exact HB4.out⟩
          rw [HRK.out, HK.out, decide_eq_false hv]
          cases PB <;> rfl
        by_cases k3 : k = 3
        · have hKv := HK.out
          rw [if_neg k1, if_neg k2, if_pos k3] at hKv
          clear HK
          have HK := Lib.hid hKv
          clear hKv
          subst k3
          clear k1 k2
          by_cases hv : v = 0
          · have hKv := HK.out
            rw [decide_eq_true hv] at hKv
            clear HK
            have HK := Lib.hid hKv
            clear hKv
            subst hv
            go_wp2_with fail
            go_ret
            refine ⟨?_, by rw [← HBE.out]; exact HB4.out⟩
            rw [HRK.out, HK.out, hz]
            try rfl
          have hv2 : (v == (0 : Int)) = false := by rw [beq_eq_false_iff_ne]; exact hv
          go_wp2_with fail
          go_ret
          refine ⟨?_, by rw [← HBE.out]; exact HB4.out⟩
          rw [HRK.out, HK.out, hz, decide_eq_false hv]
          try rfl
        go_wp2_with fail
        go_ret
        refine ⟨?_, by rw [← HBE.out]; exact HB4.out⟩
        rw [HRK.out, HK.out, if_neg k1, if_neg k2, if_neg k3]
        try rfl
      subst hp0
      by_cases hp1 : p1 = 0
      rotate_left
      · have hz : PZ = false := by rw [HZ.out, decide_eq_false_iff_not]; omega
        by_cases k1 : k = 1
        · have hKv := HK.out
          rw [if_pos k1] at hKv
          clear HK
          have HK := Lib.hid hKv
          clear hKv
          subst k1
          by_cases hv0 : 0 ≤ v
          rotate_left
          · have hvx := Lib.hid (show inB v 0 top = false by rw [← Bool.not_eq_true, inB_iff]; omega)
            have hvd : decide (0 ≤ v) = false := decide_eq_false hv0
            clear hv0
            go_wp2_with fail
            go_ret
            refine ⟨?_, by rw [← HBE.out]; exact HB4.out⟩
            rw [HRK.out, HK.out, hz, hvx.out]
            try rfl
          have hvd : decide (0 ≤ v) = true := decide_eq_true hv0
          by_cases hvt : v ≤ 1099511627776
          rotate_left
          · have hvx := Lib.hid (show inB v 0 top = false by rw [← Bool.not_eq_true, inB_iff]; unfold top; omega)
            have hvd2 : decide (v ≤ 1099511627776) = false := decide_eq_false hvt
            clear hv0 hvt
            go_wp2_with fail
            go_ret
            refine ⟨?_, by rw [← HBE.out]; exact HB4.out⟩
            rw [HRK.out, HK.out, hz, hvx.out]
            try rfl
          have hvd2 : decide (v ≤ 1099511627776) = true := decide_eq_true hvt
          have hvx := Lib.hid (show inB v 0 top = true by rw [inB_iff]; unfold top; omega)
          clear hv0 hvt
          go_wp2_with fail
          go_ret
          refine ⟨?_, by rw [← HBE.out]; exact HB4.out⟩
          rw [HRK.out, HK.out, hz, hvx.out]
          try rfl
        by_cases k2 : k = 2
        · have hKv := HK.out
          rw [if_neg k1, if_pos k2] at hKv
          clear HK
          have HK := Lib.hid hKv
          clear hKv
          subst k2
          clear k1
          by_cases hv : v = 0
          · have hKv := HK.out
            rw [decide_eq_true hv] at hKv
            clear HK
            have HK := Lib.hid hKv
            clear hKv
            subst hv
            go_wp2_with fail
            refine (HP.out _).mono ?_
            rintro e w5 ⟨rfl, b5⟩
            have hb5 := HB4.out.trans (b5.mono (by have := HB4.out.size; omega))
            go_wp2_with fail
            go_ret
            refine ⟨?_, by rw [← HBE.out]; exact hb5⟩
            rw [HRK.out, HK.out]
            cases PB <;> rfl
          have hv2 : (v == (0 : Int)) = false := by rw [beq_eq_false_iff_ne]; exact hv
          go_wp2_with fail
          go_ret
          refine ⟨?_, by rw [← HBE.out]; exact HB4.out⟩
          rw [HRK.out, HK.out, decide_eq_false hv]
          cases PB <;> rfl
        by_cases k3 : k = 3
        · have hKv := HK.out
          rw [if_neg k1, if_neg k2, if_pos k3] at hKv
          clear HK
          have HK := Lib.hid hKv
          clear hKv
          subst k3
          clear k1 k2
          by_cases hv : v = 0
          · have hKv := HK.out
            rw [decide_eq_true hv] at hKv
            clear HK
            have HK := Lib.hid hKv
            clear hKv
            subst hv
            go_wp2_with fail
            go_ret
            refine ⟨?_, by rw [← HBE.out]; exact HB4.out⟩
            rw [HRK.out, HK.out, hz]
            try rfl
          have hv2 : (v == (0 : Int)) = false := by rw [beq_eq_false_iff_ne]; exact hv
          go_wp2_with fail
          go_ret
          refine ⟨?_, by rw [← HBE.out]; exact HB4.out⟩
          rw [HRK.out, HK.out, hz, decide_eq_false hv]
          try rfl
        go_wp2_with fail
        go_ret
        refine ⟨?_, by rw [← HBE.out]; exact HB4.out⟩
        rw [HRK.out, HK.out, if_neg k1, if_neg k2, if_neg k3]
        try rfl
      subst hp1
      by_cases hp2 : p2 = 0
      rotate_left
      · have hz : PZ = false := by rw [HZ.out, decide_eq_false_iff_not]; omega
        by_cases k1 : k = 1
        · have hKv := HK.out
          rw [if_pos k1] at hKv
          clear HK
          have HK := Lib.hid hKv
          clear hKv
          subst k1
          by_cases hv0 : 0 ≤ v
          rotate_left
          · have hvx := Lib.hid (show inB v 0 top = false by rw [← Bool.not_eq_true, inB_iff]; omega)
            have hvd : decide (0 ≤ v) = false := decide_eq_false hv0
            clear hv0
            go_wp2_with fail
            go_ret
            refine ⟨?_, by rw [← HBE.out]; exact HB4.out⟩
            rw [HRK.out, HK.out, hz, hvx.out]
            try rfl
          have hvd : decide (0 ≤ v) = true := decide_eq_true hv0
          by_cases hvt : v ≤ 1099511627776
          rotate_left
          · have hvx := Lib.hid (show inB v 0 top = false by rw [← Bool.not_eq_true, inB_iff]; unfold top; omega)
            have hvd2 : decide (v ≤ 1099511627776) = false := decide_eq_false hvt
            clear hv0 hvt
            go_wp2_with fail
            go_ret
            refine ⟨?_, by rw [← HBE.out]; exact HB4.out⟩
            rw [HRK.out, HK.out, hz, hvx.out]
            try rfl
          have hvd2 : decide (v ≤ 1099511627776) = true := decide_eq_true hvt
          have hvx := Lib.hid (show inB v 0 top = true by rw [inB_iff]; unfold top; omega)
          clear hv0 hvt
          go_wp2_with fail
          go_ret
          refine ⟨?_, by rw [← HBE.out]; exact HB4.out⟩
          rw [HRK.out, HK.out, hz, hvx.out]
          try rfl
        by_cases k2 : k = 2
        · have hKv := HK.out
          rw [if_neg k1, if_pos k2] at hKv
          clear HK
          have HK := Lib.hid hKv
          clear hKv
          subst k2
          clear k1
          by_cases hv : v = 0
          · have hKv := HK.out
            rw [decide_eq_true hv] at hKv
            clear HK
            have HK := Lib.hid hKv
            clear hKv
            subst hv
            go_wp2_with fail
            refine (HP.out _).mono ?_
            rintro e w5 ⟨rfl, b5⟩
            have hb5 := HB4.out.trans (b5.mono (by have := HB4.out.size; omega))
            go_wp2_with fail
            go_ret
            refine ⟨?_, by rw [← HBE.out]; exact hb5⟩
            rw [HRK.out, HK.out]
            cases PB <;> rfl
          have hv2 : (v == (0 : Int)) = false := by rw [beq_eq_false_iff_ne]; exact hv
          go_wp2_with fail
          go_ret
          refine ⟨?_, by rw [← HBE.out]; exact HB4.out⟩
          rw [HRK.out, HK.out, decide_eq_false hv]
          cases PB <;> rfl
        by_cases k3 : k = 3
        · have hKv := HK.out
          rw [if_neg k1, if_neg k2, if_pos k3] at hKv
          clear HK
          have HK := Lib.hid hKv
          clear hKv
          subst k3
          clear k1 k2
          by_cases hv : v = 0
          · have hKv := HK.out
            rw [decide_eq_true hv] at hKv
            clear HK
            have HK := Lib.hid hKv
            clear hKv
            subst hv
            go_wp2_with fail
            go_ret
            refine ⟨?_, by rw [← HBE.out]; exact HB4.out⟩
            rw [HRK.out, HK.out, hz]
            try rfl
          have hv2 : (v == (0 : Int)) = false := by rw [beq_eq_false_iff_ne]; exact hv
          go_wp2_with fail
          go_ret
          refine ⟨?_, by rw [← HBE.out]; exact HB4.out⟩
          rw [HRK.out, HK.out, hz, decide_eq_false hv]
          try rfl
        go_wp2_with fail
        go_ret
        refine ⟨?_, by rw [← HBE.out]; exact HB4.out⟩
        rw [HRK.out, HK.out, if_neg k1, if_neg k2, if_neg k3]
        try rfl
      subst hp2
      by_cases hp3 : p3 = 0
      rotate_left
      · have hz : PZ = false := by rw [HZ.out, decide_eq_false_iff_not]; omega
        by_cases k1 : k = 1
        · have hKv := HK.out
          rw [if_pos k1] at hKv
          clear HK
          have HK := Lib.hid hKv
          clear hKv
          subst k1
          by_cases hv0 : 0 ≤ v
          rotate_left
          · have hvx := Lib.hid (show inB v 0 top = false by rw [← Bool.not_eq_true, inB_iff]; omega)
            have hvd : decide (0 ≤ v) = false := decide_eq_false hv0
            clear hv0
            go_wp2_with fail
            go_ret
            refine ⟨?_, by rw [← HBE.out]; exact HB4.out⟩
            rw [HRK.out, HK.out, hz, hvx.out]
            try rfl
          have hvd : decide (0 ≤ v) = true := decide_eq_true hv0
          by_cases hvt : v ≤ 1099511627776
          rotate_left
          · have hvx := Lib.hid (show inB v 0 top = false by rw [← Bool.not_eq_true, inB_iff]; unfold top; omega)
            have hvd2 : decide (v ≤ 1099511627776) = false := decide_eq_false hvt
            clear hv0 hvt
            go_wp2_with fail
            go_ret
            refine ⟨?_, by rw [← HBE.out]; exact HB4.out⟩
            rw [HRK.out, HK.out, hz, hvx.out]
            try rfl
          have hvd2 : decide (v ≤ 1099511627776) = true := decide_eq_true hvt
          have hvx := Lib.hid (show inB v 0 top = true by rw [inB_iff]; unfold top; omega)
          clear hv0 hvt
          go_wp2_with fail
          go_ret
          refine ⟨?_, by rw [← HBE.out]; exact HB4.out⟩
          rw [HRK.out, HK.out, hz, hvx.out]
          try rfl
        by_cases k2 : k = 2
        · have hKv := HK.out
          rw [if_neg k1, if_pos k2] at hKv
          clear HK
          have HK := Lib.hid hKv
          clear hKv
          subst k2
          clear k1
          by_cases hv : v = 0
          · have hKv := HK.out
            rw [decide_eq_true hv] at hKv
            clear HK
            have HK := Lib.hid hKv
            clear hKv
            subst hv
            go_wp2_with fail
            refine (HP.out _).mono ?_
            rintro e w5 ⟨rfl, b5⟩
            have hb5 := HB4.out.trans (b5.mono (by have := HB4.out.size; omega))
            go_wp2_with fail
            go_ret
            refine ⟨?_, by rw [← HBE.out]; exact hb5⟩
            rw [HRK.out, HK.out]
            cases PB <;> rfl
          have hv2 : (v == (0 : Int)) = false := by rw [beq_eq_false_iff_ne]; exact hv
          go_wp2_with fail
          go_ret
          refine ⟨?_, by rw [← HBE.out]; exact HB4.out⟩
          rw [HRK.out, HK.out, decide_eq_false hv]
          cases PB <;> rfl
        by_cases k3 : k = 3
        · have hKv := HK.out
          rw [if_neg k1, if_neg k2, if_pos k3] at hKv
          clear HK
          have HK := Lib.hid hKv
          clear hKv
          subst k3
          clear k1 k2
          by_cases hv : v = 0
          · have hKv := HK.out
            rw [decide_eq_true hv] at hKv
            clear HK
            have HK := Lib.hid hKv
            clear hKv
            subst hv
            go_wp2_with fail
            go_ret
            refine ⟨?_, by rw [← HBE.out]; exact HB4.out⟩
            rw [HRK.out, HK.out, hz]
            try rfl
          have hv2 : (v == (0 : Int)) = false := by rw [beq_eq_false_iff_ne]; exact hv
          go_wp2_with fail
          go_ret
          refine ⟨?_, by rw [← HBE.out]; exact HB4.out⟩
          rw [HRK.out, HK.out, hz, decide_eq_false hv]
          try rfl
        go_wp2_with fail
        go_ret
        refine ⟨?_, by rw [← HBE.out]; exact HB4.out⟩
        rw [HRK.out, HK.out, if_neg k1, if_neg k2, if_neg k3]
        try rfl
      subst hp3
      by_cases hp4 : p4 = 0
      rotate_left
      · have hz : PZ = false := by rw [HZ.out, decide_eq_false_iff_not]; omega
        by_cases k1 : k = 1
        · have hKv := HK.out
          rw [if_pos k1] at hKv
          clear HK
          have HK := Lib.hid hKv
          clear hKv
          subst k1
          by_cases hv0 : 0 ≤ v
          rotate_left
          · have hvx := Lib.hid (show inB v 0 top = false by rw [← Bool.not_eq_true, inB_iff]; omega)
            have hvd : decide (0 ≤ v) = false := decide_eq_false hv0
            clear hv0
            go_wp2_with fail
            go_ret
            refine ⟨?_, by rw [← HBE.out]; exact HB4.out⟩
            rw [HRK.out, HK.out, hz, hvx.out]
            try rfl
          have hvd : decide (0 ≤ v) = true := decide_eq_true hv0
          by_cases hvt : v ≤ 1099511627776
          rotate_left
          · have hvx := Lib.hid (show inB v 0 top = false by rw [← Bool.not_eq_true, inB_iff]; unfold top; omega)
            have hvd2 : decide (v ≤ 1099511627776) = false := decide_eq_false hvt
            clear hv0 hvt
            go_wp2_with fail
            go_ret
            refine ⟨?_, by rw [← HBE.out]; exact HB4.out⟩
            rw [HRK.out, HK.out, hz, hvx.out]
            try rfl
          have hvd2 : decide (v ≤ 1099511627776) = true := decide_eq_true hvt
          have hvx := Lib.hid (show inB v 0 top = true by rw [inB_iff]; unfold top; omega)
          clear hv0 hvt
          go_wp2_with fail
          go_ret
          refine ⟨?_, by rw [← HBE.out]; exact HB4.out⟩
          rw [HRK.out, HK.out, hz, hvx.out]
          try rfl
        by_cases k2 : k = 2
        · have hKv := HK.out
          rw [if_neg k1, if_pos k2] at hKv
          clear HK
          have HK := Lib.hid hKv
          clear hKv
          subst k2
          clear k1
          by_cases hv : v = 0
          · have hKv := HK.out
            rw [decide_eq_true hv] at hKv
            clear HK
            have HK := Lib.hid hKv
            clear hKv
            subst hv
            go_wp2_with fail
            refine (HP.out _).mono ?_
            rintro e w5 ⟨rfl, b5⟩
            have hb5 := HB4.out.trans (b5.mono (by have := HB4.out.size; omega))
            go_wp2_with fail
            go_ret
            refine ⟨?_, by rw [← HBE.out]; exact hb5⟩
            rw [HRK.out, HK.out]
            cases PB <;> rfl
          have hv2 : (v == (0 : Int)) = false := by rw [beq_eq_false_iff_ne]; exact hv
          go_wp2_with fail
          go_ret
          refine ⟨?_, by rw [← HBE.out]; exact HB4.out⟩
          rw [HRK.out, HK.out, decide_eq_false hv]
          cases PB <;> rfl
        by_cases k3 : k = 3
        · have hKv := HK.out
          rw [if_neg k1, if_neg k2, if_pos k3] at hKv
          clear HK
          have HK := Lib.hid hKv
          clear hKv
          subst k3
          clear k1 k2
          by_cases hv : v = 0
          · have hKv := HK.out
            rw [decide_eq_true hv] at hKv
            clear HK
            have HK := Lib.hid hKv
            clear hKv
            subst hv
            go_wp2_with fail
            go_ret
            refine ⟨?_, by rw [← HBE.out]; exact HB4.out⟩
            rw [HRK.out, HK.out, hz]
            try rfl
          have hv2 : (v == (0 : Int)) = false := by rw [beq_eq_false_iff_ne]; exact hv
          go_wp2_with fail
          go_ret
          refine ⟨?_, by rw [← HBE.out]; exact HB4.out⟩
          rw [HRK.out, HK.out, hz, decide_eq_false hv]
          try rfl
        go_wp2_with fail
        go_ret
        refine ⟨?_, by rw [← HBE.out]; exact HB4.out⟩
        rw [HRK.out, HK.out, if_neg k1, if_neg k2, if_neg k3]
        try rfl
      subst hp4
      by_cases hp5 : p5 = 0
      rotate_left
      · have hz : PZ = false := by rw [HZ.out, decide_eq_false_iff_not]; omega
        by_cases k1 : k = 1
        · have hKv := HK.out
          rw [if_pos k1] at hKv
          clear HK
          have HK := Lib.hid hKv
          clear hKv
          subst k1
          by_cases hv0 : 0 ≤ v
          rotate_left
          · have hvx := Lib.hid (show inB v 0 top = false by rw [← Bool.not_eq_true, inB_iff]; omega)
            have hvd : decide (0 ≤ v) = false := decide_eq_false hv0
            clear hv0
            go_wp2_with fail
            go_ret
            refine ⟨?_, by rw [← HBE.out]; exact HB4.out⟩
            rw [HRK.out, HK.out, hz, hvx.out]
            try rfl
          have hvd : decide (0 ≤ v) = true := decide_eq_true hv0
          by_cases hvt : v ≤ 1099511627776
          rotate_left
          · have hvx := Lib.hid (show inB v 0 top = false by rw [← Bool.not_eq_true, inB_iff]; unfold top; omega)
            have hvd2 : decide (v ≤ 1099511627776) = false := decide_eq_false hvt
            clear hv0 hvt
            go_wp2_with fail
            go_ret
            refine ⟨?_, by rw [← HBE.out]; exact HB4.out⟩
            rw [HRK.out, HK.out, hz, hvx.out]
            try rfl
          have hvd2 : decide (v ≤ 1099511627776) = true := decide_eq_true hvt
          have hvx := Lib.hid (show inB v 0 top = true by rw [inB_iff]; unfold top; omega)
          clear hv0 hvt
          go_wp2_with fail
          go_ret
          refine ⟨?_, by rw [← HBE.out]; exact HB4.out⟩
          rw [HRK.out, HK.out, hz, hvx.out]
          try rfl
        by_cases k2 : k = 2
        · have hKv := HK.out
          rw [if_neg k1, if_pos k2] at hKv
          clear HK
          have HK := Lib.hid hKv
          clear hKv
          subst k2
          clear k1
          by_cases hv : v = 0
          · have hKv := HK.out
            rw [decide_eq_true hv] at hKv
            clear HK
            have HK := Lib.hid hKv
            clear hKv
            subst hv
            go_wp2_with fail
            refine (HP.out _).mono ?_
            rintro e w5 ⟨rfl, b5⟩
            have hb5 := HB4.out.trans (b5.mono (by have := HB4.out.size; omega))
            go_wp2_with fail
            go_ret
            refine ⟨?_, by rw [← HBE.out]; exact hb5⟩
            rw [HRK.out, HK.out]
            cases PB <;> rfl
          have hv2 : (v == (0 : Int)) = false := by rw [beq_eq_false_iff_ne]; exact hv
          go_wp2_with fail
          go_ret
          refine ⟨?_, by rw [← HBE.out]; exact HB4.out⟩
          rw [HRK.out, HK.out, decide_eq_false hv]
          cases PB <;> rfl
        by_cases k3 : k = 3
        · have hKv := HK.out
          rw [if_neg k1, if_neg k2, if_pos k3] at hKv
          clear HK
          have HK := Lib.hid hKv
          clear hKv
          subst k3
          clear k1 k2
          by_cases hv : v = 0
          · have hKv := HK.out
            rw [decide_eq_true hv] at hKv
            clear HK
            have HK := Lib.hid hKv
            clear hKv
            subst hv
            go_wp2_with fail
            go_ret
            refine ⟨?_, by rw [← HBE.out]; exact HB4.out⟩
            rw [HRK.out, HK.out, hz]
            try rfl
          have hv2 : (v == (0 : Int)) = false := by rw [beq_eq_false_iff_ne]; exact hv
          go_wp2_with fail
          go_ret
          refine ⟨?_, by rw [← HBE.out]; exact HB4.out⟩
          rw [HRK.out, HK.out, hz, decide_eq_false hv]
          try rfl
        go_wp2_with fail
        go_ret
        refine ⟨?_, by rw [← HBE.out]; exact HB4.out⟩
        rw [HRK.out, HK.out, if_neg k1, if_neg k2, if_neg k3]
        try rfl
      subst hp5
      by_cases hp6 : p6 = 0
      rotate_left
      · have hz : PZ = false := by rw [HZ.out, decide_eq_false_iff_not]; omega
        by_cases k1 : k = 1
        · have hKv := HK.out
          rw [if_pos k1] at hKv
          clear HK
          have HK := Lib.hid hKv
          clear hKv
          subst k1
          by_cases hv0 : 0 ≤ v
          rotate_left
          · have hvx := Lib.hid (show inB v 0 top = false by rw [← Bool.not_eq_true, inB_iff]; omega)
            have hvd : decide (0 ≤ v) = false := decide_eq_false hv0
            clear hv0
            go_wp2_with fail
            go_ret
            refine ⟨?_, by rw [← HBE.out]; exact HB4.out⟩
            rw [HRK.out, HK.out, hz, hvx.out]
            try rfl
          have hvd : decide (0 ≤ v) = true := decide_eq_true hv0
          by_cases hvt : v ≤ 1099511627776
          rotate_left
          · have hvx := Lib.hid (show inB v 0 top = false by rw [← Bool.not_eq_true, inB_iff]; unfold top; omega)
            have hvd2 : decide (v ≤ 1099511627776) = false := decide_eq_false hvt
            clear hv0 hvt
            go_wp2_with fail
            go_ret
            refine ⟨?_, by rw [← HBE.out]; exact HB4.out⟩
            rw [HRK.out, HK.out, hz, hvx.out]
            try rfl
          have hvd2 : decide (v ≤ 1099511627776) = true := decide_eq_true hvt
          have hvx := Lib.hid (show inB v 0 top = true by rw [inB_iff]; unfold top; omega)
          clear hv0 hvt
          go_wp2_with fail
          go_ret
          refine ⟨?_, by rw [← HBE.out]; exact HB4.out⟩
          rw [HRK.out, HK.out, hz, hvx.out]
          try rfl
        by_cases k2 : k = 2
        · have hKv := HK.out
          rw [if_neg k1, if_pos k2] at hKv
          clear HK
          have HK := Lib.hid hKv
          clear hKv
          subst k2
          clear k1
          by_cases hv : v = 0
          · have hKv := HK.out
            rw [decide_eq_true hv] at hKv
            clear HK
            have HK := Lib.hid hKv
            clear hKv
            subst hv
            go_wp2_with fail
            refine (HP.out _).mono ?_
            rintro e w5 ⟨rfl, b5⟩
            have hb5 := HB4.out.trans (b5.mono (by have := HB4.out.size; omega))
            go_wp2_with fail
            go_ret
            refine ⟨?_, by rw [← HBE.out]; exact hb5⟩
            rw [HRK.out, HK.out]
            cases PB <;> rfl
          have hv2 : (v == (0 : Int)) = false := by rw [beq_eq_false_iff_ne]; exact hv
          go_wp2_with fail
          go_ret
          refine ⟨?_, by rw [← HBE.out]; exact HB4.out⟩
          rw [HRK.out, HK.out, decide_eq_false hv]
          cases PB <;> rfl
        by_cases k3 : k = 3
        · have hKv := HK.out
          rw [if_neg k1, if_neg k2, if_pos k3] at hKv
          clear HK
          have HK := Lib.hid hKv
          clear hKv
          subst k3
          clear k1 k2
          by_cases hv : v = 0
          · have hKv := HK.out
            rw [decide_eq_true hv] at hKv
            clear HK
            have HK := Lib.hid hKv
            clear hKv
            subst hv
            go_wp2_with fail
            go_ret
            refine ⟨?_, by rw [← HBE.out]; exact HB4.out⟩
            rw [HRK.out, HK.out, hz]
            try rfl
          have hv2 : (v == (0 : Int)) = false := by rw [beq_eq_false_iff_ne]; exact hv
          go_wp2_with fail
          go_ret
          refine ⟨?_, by rw [← HBE.out]; exact HB4.out⟩
          rw [HRK.out, HK.out, hz, decide_eq_false hv]
          try rfl
        go_wp2_with fail
        go_ret
        refine ⟨?_, by rw [← HBE.out]; exact HB4.out⟩
        rw [HRK.out, HK.out, if_neg k1, if_neg k2, if_neg k3]
        try rfl
      subst hp6
      have hz : PZ = true := by rw [HZ.out]; simp
      by_cases k1 : k = 1
      · have hKv := HK.out
        rw [if_pos k1] at hKv
        clear HK
        have HK := Lib.hid hKv
        clear hKv
        subst k1
        by_cases hv0 : 0 ≤ v
        rotate_left
        · have hvx := Lib.hid (show inB v 0 top = false by rw [← Bool.not_eq_true, inB_iff]; omega)
          have hvd : decide (0 ≤ v) = false := decide_eq_false hv0
          clear hv0
          go_wp2_with fail
          go_ret
          refine ⟨?_, by rw [← HBE.out]; exact HB4.out⟩
          rw [HRK.out, HK.out, hz, hvx.out]
          try rfl
        have hvd : decide (0 ≤ v) = true := decide_eq_true hv0
        by_cases hvt : v ≤ 1099511627776
        rotate_left
        · have hvx := Lib.hid (show inB v 0 top = false by rw [← Bool.not_eq_true, inB_iff]; unfold top; omega)
          have hvd2 : decide (v ≤ 1099511627776) = false := decide_eq_false hvt
          clear hv0 hvt
          go_wp2_with fail
          go_ret
          refine ⟨?_, by rw [← HBE.out]; exact HB4.out⟩
          rw [HRK.out, HK.out, hz, hvx.out]
          try rfl
        have hvd2 : decide (v ≤ 1099511627776) = true := decide_eq_true hvt
        have hvx := Lib.hid (show inB v 0 top = true by rw [inB_iff]; unfold top; omega)
        clear hv0 hvt
        by_cases hm0 : m = 0
        · subst hm0
          have hl0 : l = [] := List.length_eq_zero_iff.1 HM.out.symm
          go_wp2_with fail
          go_ret
          refine ⟨?_, by rw [← HBE.out]; exact HB4.out⟩
          rw [HRK.out, HK.out, hz, hvx.out, decide_eq_true hl0]
          try rfl
        have hl0 : ¬ l = [] := fun h => hm0 (by rw [HM.out, h]; rfl)
        have hm1 : ((m : Int) == (0 : Int)) = false := by rw [beq_eq_false_iff_ne]; omega
        go_wp2_with fail
        go_ret
        refine ⟨?_, by rw [← HBE.out]; exact HB4.out⟩
        rw [HRK.out, HK.out, hz, hvx.out, decide_eq_false hl0]
        try rfl
      by_cases k2 : k = 2
      · have hKv := HK.out
        rw [if_neg k1, if_pos k2] at hKv
        clear HK
        have HK := Lib.hid hKv
        clear hKv
        subst k2
        clear k1
        by_cases hv : v = 0
        · have hKv := HK.out
          rw [decide_eq_true hv] at hKv
          clear HK
          have HK := Lib.hid hKv
          clear hKv
          subst hv
          go_wp2_with fail
          refine (HP.out _).mono ?_
          rintro e w5 ⟨rfl, b5⟩
          have hb5 := HB4.out.trans (b5.mono (by have := HB4.out.size; omega))
          go_wp2_with fail
          go_ret
          refine ⟨?_, by rw [← HBE.out]; exact hb5⟩
          rw [HRK.out, HK.out]
          cases PB <;> rfl
        have hv2 : (v == (0 : Int)) = false := by rw [beq_eq_false_iff_ne]; exact hv
        go_wp2_with fail
        go_ret
        refine ⟨?_, by rw [← HBE.out]; exact HB4.out⟩
        rw [HRK.out, HK.out, decide_eq_false hv]
        cases PB <;> rfl
      by_cases k3 : k = 3
      · have hKv := HK.out
        rw [if_neg k1, if_neg k2, if_pos k3] at hKv
        clear HK
        have HK := Lib.hid hKv
        clear hKv
        subst k3
        clear k1 k2
        by_cases hv : v = 0
        · have hKv := HK.out
          rw [decide_eq_true hv] at hKv
          clear HK
          have HK := Lib.hid hKv
          clear hKv
          subst hv
          go_wp2_with fail
          go_ret
          refine ⟨?_, by rw [← HBE.out]; exact HB4.out⟩
          rw [HRK.out, HK.out, hz]
          try rfl
        have hv2 : (v == (0 : Int)) = false := by rw [beq_eq_false_iff_ne]; exact hv
        go_wp2_with fail
        go_ret
        refine ⟨?_, by rw [← HBE.out]; exact HB4.out⟩
        rw [HRK.out, HK.out, hz, decide_eq_false hv]
        try rfl
      go_wp2_with fail
      go_ret
      refine ⟨?_, by rw [← HBE.out]; exact HB4.out⟩
      rw [HRK.out, HK.out, if_neg k1, if_neg k2, if_neg k3]
      try rfl
end Go.Proofs.Ytiemlnomlfebkaa

/- Ints of the call's own, and ints that are read: the words on bytes, said of int (made by wip/gen/ints.py). -/
namespace Go.Proofs.Ytiemlnomlfebkaa
open Go.RowKit

/-- an int as a cell's value -/
abbrev iv (z : Int) : Value := .int .i64 z
/-- bytes: from A on there are n of them, bs -/
def RdI (w : World) (B : Nat) (A : Option Addr) (n : Nat) (bs : List Int) : Prop := n = bs.length ∧ Rd w B A (bs.map iv)
section
variable {w w' : World} {B B' n : Nat} {A : Option Addr} {bs : List Int}
theorem RdI.at_ (h : RdI w B A n bs) {k : Nat} (hk : k < bs.length) : ∃ a, A = some a ∧ a.block < B ∧ w.cell? (a.add k) = some (iv bs[k]) := by
  have := Rd.at_ h.2 (k := k) (by simpa using hk)
  simpa using this
theorem RdI.nil (w : World) (B : Nat) (A : Option Addr) : RdI w B A 0 [] := ⟨rfl, Rd.nil w B A⟩
theorem RdI.below (h : RdI w B A n bs) (hb : Below B w w') : RdI w' B A n bs := ⟨h.1, h.2.below hb⟩
theorem RdI.alloc (h : RdI w B A n bs) (hB : B ≤ w.heap.size) (o : Obj) : RdI (w.alloc o) B A n bs := ⟨h.1, h.2.alloc hB o⟩
theorem RdI.size (h : RdI w B A n bs) : RdI w w.heap.size A n bs := ⟨h.1, h.2.size⟩
theorem RdI.more (h : RdI w B A n bs) (hB : B ≤ B') : RdI w B' A n bs := ⟨h.1, h.2.more hB⟩
theorem RdI.drop (h : RdI w B A n bs) (k : Nat) : RdI w B (A.map (·.add k)) (n - k) (bs.drop k) := by
  have := h.2.drop k
  exact ⟨by rw [h.1, List.length_drop], by rwa [← List.map_drop] at this⟩
theorem RdI.take (h : RdI w B A n bs) {k : Nat} (hk : k ≤ n) : RdI w B A k (bs.take k) := by
  have := h.2.take k
  exact ⟨by rw [List.length_take]; have := h.1; omega, by rwa [← List.map_take] at this⟩
theorem RdI.made (w : World) (bs : List Int) (cs : Array Value) (t : TypeId) (m : Nat × Nat) (h : cs.toList = bs.map iv) : RdI (w.alloc (.cells cs t m)) (w.heap.size + 1) (some ⟨w.heap.size, 0, none⟩) bs.length bs :=
  ⟨rfl, by rw [← h]; exact Rd.made w cs t m⟩
theorem iv_one (bs : List Int) : ∀ u ∈ bs.map iv, u.oneCell' = true := by
  intro u hu
  obtain ⟨c, _, rfl⟩ := List.mem_map.1 hu
  rfl
end
theorem infoI : (Try.prog.info? 3).map (fun i => (i.zero, i.size, i.bytes)) = some (some (.int .i64 0), 1, 8) := by kernel_rfl

/-- The slice (A, n, c) owns the bytes bs; its block is not below base. -/
def OwnI (w : World) (base : Nat) (A : Option Addr) (n c : Nat) (bs : List Int) : Prop := n = bs.length ∧ w.ownsRow base 3 1 (.slice A n c) n (bs.map iv)

section
variable {w w' : World} {base n c : Nat} {A : Option Addr} {bs : List Int}
theorem OwnI.rd (h : OwnI w base A n c bs) : RdI w w.heap.size A n bs := ⟨h.1, Rd.of_own h.2⟩
theorem OwnI.alloc (h : OwnI w base A n c bs) (o : Obj) : OwnI (w.alloc o) base A n c bs := ⟨h.1, h.2.alloc o⟩
theorem OwnI.nil (w : World) (base : Nat) : OwnI w base none 0 0 [] := ⟨rfl, World.ownsRow_nil w base _ 1⟩
theorem OwnI.made (w : World) (base : Nat) (bs : List Int) (cs : Array Value) (n : Nat) (h : cs.toList = bs.map iv) (hn : n = bs.length) (hb : base ≤ w.heap.size) (hm : n ≤ maxLen) :
    OwnI (w.alloc (.cells cs 3)) base (some ⟨w.heap.size, 0, none⟩) n n bs := by
  have hs : cs.size = bs.length := by rw [← Array.length_toList, h, List.length_map]
  refine ⟨hn, ?_, .inr ⟨w.heap.size, n, cs, rfl, hb, heap_alloc_new w _, Nat.le_refl _, hm, by omega, ?_⟩⟩
  · simp [hn]
  · rw [h, List.take_of_length_le (by simp; omega)]
theorem OwnI.mono {base' : Nat} (h : OwnI w base A n c bs) (hb : base' ≤ base) : OwnI w base' A n c bs := by
  refine ⟨h.1, h.2.1, ?_⟩
  rcases h.2.2 with h | ⟨g, cap, cur, h1, h2, h3⟩
  · exact .inl h
  · exact .inr ⟨g, cap, cur, h1, by omega, h3⟩
theorem OwnI.lt (h : OwnI w base A n c bs) : ∀ g, A.map (·.block) = some g → base ≤ g ∧ g < w.heap.size := fun g hg => h.2.lt g (by
  rcases A with _ | a
  · simp at hg
  · simpa [Value.ownBlock] using hg)
theorem OwnI.form (h : OwnI w base A n c bs) (hn : 0 < n) : ∃ g, A = some ⟨g, 0, none⟩ ∧ base ≤ g ∧ g < w.heap.size := by
  rcases h.2.2 with ⟨_, h0⟩ | ⟨g, cap, cur, hv, hb, hh, _⟩
  · omega
  · injection hv with hA
    subst hA
    exact ⟨g, rfl, hb, lt_of_block hh⟩
theorem OwnI.cell {g : Nat} (h : OwnI w base (some ⟨g, 0, none⟩) n c bs) {j : Nat} (hj : j < bs.length) : w.cell? ⟨g, j, none⟩ = some (iv bs[j]) := by
  rw [h.2.cellAt j (by rw [h.1]; omega)]
  simp [hj]
theorem OwnI.free {g : Nat} (h : OwnI w base (some ⟨g, 0, none⟩) n c bs) (j : Nat) : w.frozen? ⟨g, j, none⟩ = false := h.2.frozenAt j
theorem OwnI.set_ {g : Nat} (h : OwnI w base (some ⟨g, 0, none⟩) n c bs) (j : Nat) (x : Int) : OwnI (w.setCell ⟨g, j, none⟩ (iv x)) base (some ⟨g, 0, none⟩) n c (bs.set j x) := by
  refine ⟨by rw [List.length_set]; exact h.1, ?_⟩
  have := (h.2.stored j (iv x)).1
  rwa [← List.map_set] at this
theorem OwnI.setFar {p : Addr} (h : OwnI w base A n c bs) (hp : A.map (·.block) ≠ some p.block) (u : Value) : OwnI (w.setCell p u) base A n c bs :=
  ⟨h.1, ownsRow_setCell_other h.2 (by
    rcases A with _ | a
    · simp [Value.ownBlock]
    · simpa [Value.ownBlock] using hp) u⟩
theorem OwnI.drew (h : OwnI w base A n c bs) : OwnI w.drew base A n c bs := h
theorem OwnI.grown {row : Option Nat} (h : OwnI w base A n c bs) (hg : w.grownBy w' row) (hne : A.map (·.block) = none ∨ A.map (·.block) ≠ row) : OwnI w' base A n c bs :=
  ⟨h.1, h.2.kept hg (by
    rcases A with _ | a
    · exact .inl rfl
    · rcases hne with h | h
      · simp at h
      · exact .inr h)⟩
theorem OwnI.below {B : Nat} (h : OwnI w base A n c bs) (hb : Below B w w') (hB : w.heap.size ≤ B) : OwnI w' base A n c bs :=
  ⟨h.1, h.2.kept (row := none) ⟨hb.os, hb.tape, hb.output, hb.size, fun k hk _ => hb.block k (by omega)⟩ (by
    rcases h.2.2 with ⟨e, _⟩ | ⟨g, cap, cur, e, _⟩
    · rw [e]; exact .inl rfl
    · rw [e]; exact .inr (by simp [Value.ownBlock]))⟩
end

theorem wpList_appI {w : World} {ops : Array Oper} {rest : List Oper} {o : Oper} {a : Act} {Q : Exit → Act → World → Prop} (hgd : o.guard = none) (s x : Operand)
    (ho : o.op = .call { callee := .builtin .append, args := #[s, x], argTypes := #[78, 78] })
    {base : Nat} {A : Option Addr} {n c : Nat} {bs : List Int} (hs : a.eval s = .slice A n c) (hown : OwnI w base A n c bs)
    {B : Nat} {D : Option Addr} {m d : Nat} {news : List Int} (hx : a.eval x = .slice D m d) (hr : RdI w B D m news)
    (hbytes : n + m ≤ 17592186044416) (hbase : base ≤ w.heap.size)
    (h : ∀ A' c' w', OwnI w' base A' (n + m) c' (bs ++ news) → w.grownBy w' (A.map (·.block)) → Moved A' (A.map (·.block)) w.heap.size → Below base w w' →
      wpList Try.prog ops Q rest (a.put o.dst (.slice A' (n + m) c')) w') : wpList Try.prog ops Q (o :: rest) a w := by
  obtain ⟨i0, hi, hz0, hz1, hz2⟩ := info_parts infoI
  have hob : (Value.slice A n c).ownBlock = A.map (·.block) := by cases A <;> rfl
  refine wpList_app w hgd s x 78 ho base 3 i0 (.int .i64 0) 1 8 Try.underlying78 hi hz0 hz1 hz2 rfl (by decide) _ _ _ hs hown.2 B D m d (news.map iv) hx hr.2 (by simp [hr.1]) (iv_one _) (by unfold maxLen; omega) (by omega) hbase ?_
  intro A' c' w' h1 h2 h3
  rw [hob] at h2 h3
  exact h A' c' w' ⟨by simp [hown.1, hr.1], by simpa using h1⟩ h2 h3 ((Below.refl _ _).grown h2 hbase (fun g hg => (hown.lt g hg).1))
end Go.Proofs.Ytiemlnomlfebkaa

/- The walk of the document's numbers. -/
namespace Go.Proofs.Ytiemlnomlfebkaa
open Go.RowKit
open Dot Evt
set_option maxRecDepth 100000 in
set_option maxHeartbeats 4000000 in
theorem rnums_any (x : Ev) (hp : x.p.length = 7) (A : Option Addr) (m c : Nat) (w : World) (hl : RdD w w.heap.size A m x.l) (h96 : m ≤ 96) :
    Calls Try.prog 42 #[.agg (ec x (.slice A m c))] w fun e w' => ∃ A' n' c', e = .returned (.slice A' n' c') ∧ OwnI w' w.heap.size A' n' c' (numsE x) ∧ Below w.heap.size w w' := by
  obtain ⟨⟨n, q⟩, t, k, wk, v, p, l⟩ := x
  simp only at hl hp
  have hE : numsE ⟨(n, q), t, k, wk, v, p, l⟩ = [n, q, t, k, wk] ++ (if k = 1 then [v] else (if k = 2 then [p.getD 0 0, p.getD 1 0, p.getD 2 0, p.getD 3 0, p.getD 4 0, p.getD 5 0, p.getD 6 0] else []) ++ [(m : Int)] ++ dotNums l) := by
    unfold numsE
    match p, hp with
    | [a, b, c, d, e, f, g], _ => rw [hl.1]; rfl
  obtain ⟨R, hR⟩ : ∃ R, R = numsE ⟨(n, q), t, k, wk, v, p, l⟩ := ⟨_, rfl⟩
  rw [← hR]
  rw [hE] at hR
  clear hE
  have HM := Lib.hid hl.1
  unfold ec
  simp only
  generalize p.getD 0 0 = p0, p.getD 1 0 = p1, p.getD 2 0 = p2, p.getD 3 0 = p3, p.getD 4 0 = p4, p.getD 5 0 = p5, p.getD 6 0 = p6 at *
  have HR := Lib.hid hR
  have HL := Lib.hid hl
  have H96 := Lib.hid h96
  clear hR hl h96 hp
  go_enter Try.func42, Try.ntmps42
  go_upto_region 1 with fail
  refine nameW ?_
  intro wv hwv
  obtain ⟨b, hb⟩ : ∃ b, b = w.heap.size := ⟨_, rfl⟩
  rw [← hb]
  have kb : Blk wv b 28 #[.int .i64 n, .int .i64 q, .int .i64 t, .int .i64 k, .int .i64 wk, .int .i64 v, .int .i64 p0, .int .i64 p1, .int .i64 p2, .int .i64 p3, .int .i64 p4, .int .i64 p5, .int .i64 p6, .slice A m c] := by rw [hwv, hb]; exact Blk.new _ _ _
  have gb : Below b w wv := by rw [hwv, hb]; exact (Below.refl _ _).alloc (Nat.le_refl _) _
  have hl : RdD wv b A m l := by
    rw [hb]
    exact HL.out.below (by rw [← hb]; exact gb)
  have HB := Lib.hid hb
  clear hwv hb HL
  obtain ⟨c0, c1, c2, c3, c4, c5, c6, c7, c8, c9, c10, c11, c12, c13⟩ := ecells kb
  have hbl := kb.lt
  go_upto_region 3 with fail
  refine nameW ?_
  intro w1 hw1
  obtain ⟨g5, hg5⟩ : ∃ g5, g5 = wv.heap.size := ⟨_, rfl⟩
  rw [← hg5]
  have o5 : OwnI w1 (b + 1) (some ⟨g5, 0, none⟩) 5 5 [n, q, t, k, wk] := by
    rw [hw1, hg5]
    exact (OwnI.made wv (b + 1) [n, q, t, k, wk] _ 5 rfl rfl (by have := kb.lt; omega) (by unfold maxLen; omega)).alloc _
  have kp : Blk w1 (g5 + 1) 25 #[.int .i64 p0, .int .i64 p1, .int .i64 p2, .int .i64 p3, .int .i64 p4, .int .i64 p5, .int .i64 p6] := by
    have h := Blk.new (wv.alloc (.cells #[.int .i64 n, .int .i64 q, .int .i64 t, .int .i64 k, .int .i64 wk] 3)) 25 #[.int .i64 p0, .int .i64 p1, .int .i64 p2, .int .i64 p3, .int .i64 p4, .int .i64 p5, .int .i64 p6]
    rw [show (wv.alloc (.cells #[.int .i64 n, .int .i64 q, .int .i64 t, .int .i64 k, .int .i64 wk] 3)).heap.size = wv.heap.size + 1 by simp] at h
    rw [hw1, hg5]
    exact h
  have bA : Below wv.heap.size wv w1 := by rw [hw1]; exact ((Below.refl _ _).alloc (Nat.le_refl _) _).alloc (by simp) _
  have kb1 := kb.below bA kb.lt
  have gb1 := gb.trans (bA.mono (by have := kb.lt; omega))
  have hl1 := hl.below (bA.mono (by have := kb.lt; omega))
  have hbg : b < g5 := by have := kb.lt; omega
  clear hw1 hg5 bA kb gb hl c0 c1 c2 c3 c4 c5 c6 c7 c8 c9 c10 c11 c12 c13
  obtain ⟨c0, c1, c2, c3, c4, c5, c6, c7, c8, c9, c10, c11, c12, c13⟩ := ecells kb1
  have hs1 := kp.lt
  by_cases k1 : k = 1
  · have hq : (k == (1 : Int)) = true := by rw [beq_iff_eq]; exact k1
    have hf := HR.out
    rw [if_pos k1] at hf
    have HF := Lib.hid hf
    clear hf HR k1 kp
    go_wp2_with (at_builtin; refine wpList_appI rfl (.tmp 26) (.tmp 29) rfl rfl (o5.alloc _) (news := [v]) rfl ⟨rfl, Rd.made _ _ _ _⟩ ?h2 ?h3 ?h4)
    case h2 => omega
    case h3 => simp; omega
    intro A' c' w2 o2 g2 m2 b2
    have gb2 := (gb1.alloc (by have := gb1.size; have := HB.out; omega) (.cells #[.int .i64 v] 3)).trans (b2.mono (by omega))
    have HO := Lib.hid (o2.mono (base' := b) (by omega))
    have HG := Lib.hid gb2
    clear o2 g2 m2 b2 gb2 o5
    go_wp2_with fail
    go_ret
    exact ⟨A', _, c', rfl, by rw [HF.out, ← HB.out]; exact HO.out, by rw [← HB.out]; exact HG.out⟩
  have hq : (k == (1 : Int)) = false := by rw [beq_eq_false_iff_ne]; exact k1
  have hf := HR.out
  rw [if_neg k1] at hf
  have HF := Lib.hid hf
  clear hf HR k1
  by_cases k2 : k = 2
  · have hq2 : (k == (2 : Int)) = true := by rw [beq_iff_eq]; exact k2
    have hf := HF.out
    rw [if_pos k2] at hf
    clear HF
    have HF := Lib.hid hf
    clear hf k2
    have hp0 : w1.cell? ⟨g5 + 1, 0, none⟩ = some (.int .i64 p0) := kp.cell 0
    have hp1 : w1.cell? ⟨g5 + 1, 1, none⟩ = some (.int .i64 p1) := kp.cell 1
    have hp2 : w1.cell? ⟨g5 + 1, 2, none⟩ = some (.int .i64 p2) := kp.cell 2
    have hp3 : w1.cell? ⟨g5 + 1, 3, none⟩ = some (.int .i64 p3) := kp.cell 3
    have hp4 : w1.cell? ⟨g5 + 1, 4, none⟩ = some (.int .i64 p4) := kp.cell 4
    have hp5 : w1.cell? ⟨g5 + 1, 5, none⟩ = some (.int .i64 p5) := kp.cell 5
    have hp6 : w1.cell? ⟨g5 + 1, 6, none⟩ = some (.int .i64 p6) := kp.cell 6
    go_wp2_with (at_builtin; refine wpList_appI rfl (.tmp 33) (.tmp 48) rfl rfl (o5.alloc _) (news := [p0, p1, p2, p3, p4, p5, p6]) rfl ⟨rfl, Rd.made _ _ _ _⟩ ?h12 ?h13 ?h14)
    case h12 => omega
    case h13 => simp; omega
    intro A2 c2' w2 o2 g2 m2 b2
    have bx : Below (b + 1) w1 w2 := ((Below.refl _ _).alloc (by omega) (.cells #[.int .i64 p0, .int .i64 p1, .int .i64 p2, .int .i64 p3, .int .i64 p4, .int .i64 p5, .int .i64 p6] 3)).trans b2
    have kb2 := kb1.below bx (by omega)
    have hl2 := hl1.below (bx.mono (by omega))
    have gb2 := gb1.trans (bx.mono (by omega))
    clear g2 m2 b2 bx kb1 hl1 gb1 o5 hp0 hp1 hp2 hp3 hp4 hp5 hp6 kp c0 c1 c2 c3 c4 c5 c6 c7 c8 c9 c10 c11 c12 c13
    have s13 : w2.cell? ⟨b, 13, none⟩ = some (.slice A m c) := kb2.cell 13
    have hsz : b + 1 ≤ w2.heap.size := kb2.lt
    go_wp2_with (at_builtin; refine wpList_appI rfl (.tmp 50) (.tmp 54) rfl rfl (o2.alloc _) (news := [(m : Int)]) rfl ⟨rfl, Rd.made _ _ _ _⟩ ?h5_2 ?h6_2 ?h7_2)
    case h5_2 => omega
    case h6_2 => simp; omega
    intro A3 c3' w3 o3 g3 m3 b3
    have bx : Below (b + 1) w2 w3 := ((Below.refl _ _).alloc hsz (.cells #[.int .i64 m] 3)).trans b3
    have kb3 := kb2.below bx (by omega)
    have hl3 := hl2.below (bx.mono (by omega))
    have gb3 := gb2.trans (bx.mono (by omega))
    have s13 : w3.cell? ⟨b, 13, none⟩ = some (.slice A m c) := kb3.cell 13
    obtain ⟨pr, hpr⟩ : ∃ pr, pr = [n, q, t, k, wk, p0, p1, p2, p3, p4, p5, p6, (m : Int)] := ⟨_, rfl⟩
    rw [← hpr] at o3
    have HPR := Lib.hid hpr
    have HPL := Lib.hid (show pr.length ≤ 13 by rw [hpr]; simp)
    clear g3 m3 b3 bx hpr kb2 hl2 gb2 o2 hsz
    go_wp2_with fail
    go_loopw [3, 59] (fun s i wr => ∃ (j : Nat) (A' : Option Addr) (n' c' : Nat), j ≤ m ∧ i = .int .i64 j ∧ s = .slice A' n' c' ∧ OwnI wr (b + 1) A' n' c' (pr ++ dotNums (l.take j)) ∧ Blk wr b 28 #[.int .i64 n, .int .i64 q, .int .i64 t, .int .i64 k, .int .i64 wk, .int .i64 v, .int .i64 p0, .int .i64 p1, .int .i64 p2, .int .i64 p3, .int .i64 p4, .int .i64 p5, .int .i64 p6, .slice A m c] ∧ RdD wr b A m l ∧ Below b w wr) (fun _ i _ => m - (intOf i).toNat)
    case atStart => exact ⟨0, A3, _, c3', by omega, rfl, rfl, by simpa [dotNums] using o3, kb3, hl3, gb3⟩
    case round =>
      clear o3 kb3 hl3 gb3 s13
      obtain ⟨j, A', n', c', hj, rfl, rfl, ho, kb, hl, gb⟩ := hrel
      by_cases hlt : j < m
      · have hjl : j < l.length := by rw [← HM.out]; exact hlt
        obtain ⟨ad, rfl, q5, q0, q1⟩ := hl.2 j _ (List.getElem?_eq_getElem hjl)
        have hsn := take_snoc l hjl
        have hnl := ho.1
        rw [List.length_append] at hnl
        have hdl : (dotNums (l.take j)).length = 2 * j := by rw [← List.length_map (f := Int.toNat), dotNums_nat, dotN_len, List.length_take]; omega
        have HNL := Lib.hid (show n' ≤ 1000 by have := HPL.out; have := H96.out; omega)
        generalize l[j] = d at *
        obtain ⟨x, y⟩ := d
        simp only at q0 q1
        have HSN := Lib.hid hsn
        have hj0 : (0 : Int) ≤ (j : Int) := by omega
        have hjm : (j : Int) < (m : Int) := by omega
        have hsz : b + 1 ≤ wr.heap.size := kb.lt
        have hmd : RdI ((wr.alloc (.cells #[.int .i64 x, .int .i64 y] 23)).alloc (.cells #[.int .i64 x, .int .i64 y] 3)) (wr.heap.size + 1 + 1) (some ⟨wr.heap.size + 1, 0, none⟩) 2 [x, y] := by
          have h := RdI.made (wr.alloc (.cells #[.int .i64 x, .int .i64 y] 23)) [x, y] #[.int .i64 x, .int .i64 y] 3 (0, 0) rfl
          rw [show (wr.alloc (.cells #[.int .i64 x, .int .i64 y] 23)).heap.size = wr.heap.size + 1 by simp] at h
          exact h
        have HMD := Lib.hid hmd
        clear hsn hnl hdl hmd
        go_wp2_with (at_builtin; refine wpList_appI rfl (.tmp 63) (.tmp 68) rfl rfl ((ho.alloc _).alloc _) (news := [x, y]) rfl HMD.out ?h8_2 ?h9_2 ?h10_2)
        case h8_2 => have := HNL.out; omega
        case h9_2 => simp; omega
        intro A4 c4' w4 o4 g4 m4 b4
        have bx : Below (b + 1) wr w4 := (((Below.refl _ _).alloc hsz (.cells #[.int .i64 x, .int .i64 y] 23)).alloc (by simp; omega) (.cells #[.int .i64 x, .int .i64 y] 3)).trans b4
        have kb4 := kb.below bx (by omega)
        have hl4 := hl.below (bx.mono (by omega))
        have gb4 := gb.trans (bx.mono (by omega))
        clear g4 m4 b4 bx
        go_wp2_with fail
        go_roundw
        case rel => exact ⟨j + 1, A4, _, c4', by omega, num_succ j (by have := H96.out; omega), rfl, by rw [HSN.out]; simpa [dotNums] using o4, kb4, hl4, gb4⟩
        case measure => exact meas_succ j m hlt (by have := H96.out; omega)
      · have hje : l.take j = l := List.take_of_length_le (by rw [← HM.out]; omega)
        rw [hje] at ho
        have HO := Lib.hid (ho.mono (base' := b) (by omega))
        have hkd : decide ((j : Int) < (m : Int)) = false := decide_eq_false (by omega)
        clear hje ho
        go_wp2_with fail
        go_ret
        refine ⟨A', n', c', rfl, ?_, by rw [← HB.out]; exact gb⟩
        rw [HF.out, ← HB.out]
        have e : [n, q, t, k, wk] ++ ([p0, p1, p2, p3, p4, p5, p6] ++ [(m : Int)] ++ dotNums l) = pr ++ dotNums l := by rw [HPR.out]; simp
        rw [e]
        exact HO.out
  have hq2 : (k == (2 : Int)) = false := by rw [beq_eq_false_iff_ne]; exact k2
  have hf := HF.out
  rw [if_neg k2] at hf
  clear HF
  have HF := Lib.hid hf
  clear hf k2
  have s13 : w1.cell? ⟨b, 13, none⟩ = some (.slice A m c) := kb1.cell 13
  have hsz : b + 1 ≤ w1.heap.size := kb1.lt
  go_wp2_with (at_builtin; refine wpList_appI rfl (.tmp 50) (.tmp 54) rfl rfl (o5.alloc _) (news := [(m : Int)]) rfl ⟨rfl, Rd.made _ _ _ _⟩ ?h5_1 ?h6_1 ?h7_1)
  case h5_1 => omega
  case h6_1 => simp; omega
  intro A3 c3' w3 o3 g3 m3 b3
  have bx : Below (b + 1) w1 w3 := ((Below.refl _ _).alloc hsz (.cells #[.int .i64 m] 3)).trans b3
  have kb3 := kb1.below bx (by omega)
  have hl3 := hl1.below (bx.mono (by omega))
  have gb3 := gb1.trans (bx.mono (by omega))
  have s13 : w3.cell? ⟨b, 13, none⟩ = some (.slice A m c) := kb3.cell 13
  obtain ⟨pr, hpr⟩ : ∃ pr, pr = [n, q, t, k, wk, (m : Int)] := ⟨_, rfl⟩
  rw [← hpr] at o3
  have HPR := Lib.hid hpr
  have HPL := Lib.hid (show pr.length ≤ 13 by rw [hpr]; simp)
  clear g3 m3 b3 bx hpr kb1 hl1 gb1 o5 hsz
  go_wp2_with fail
  go_loopw [3, 59] (fun s i wr => ∃ (j : Nat) (A' : Option Addr) (n' c' : Nat), j ≤ m ∧ i = .int .i64 j ∧ s = .slice A' n' c' ∧ OwnI wr (b + 1) A' n' c' (pr ++ dotNums (l.take j)) ∧ Blk wr b 28 #[.int .i64 n, .int .i64 q, .int .i64 t, .int .i64 k, .int .i64 wk, .int .i64 v, .int .i64 p0, .int .i64 p1, .int .i64 p2, .int .i64 p3, .int .i64 p4, .int .i64 p5, .int .i64 p6, .slice A m c] ∧ RdD wr b A m l ∧ Below b w wr) (fun _ i _ => m - (intOf i).toNat)
  case atStart => exact ⟨0, A3, _, c3', by omega, rfl, rfl, by simpa [dotNums] using o3, kb3, hl3, gb3⟩
  case round =>
    clear o3 kb3 hl3 gb3 s13
    obtain ⟨j, A', n', c', hj, rfl, rfl, ho, kb, hl, gb⟩ := hrel
    by_cases hlt : j < m
    · have hjl : j < l.length := by rw [← HM.out]; exact hlt
      obtain ⟨ad, rfl, q5, q0, q1⟩ := hl.2 j _ (List.getElem?_eq_getElem hjl)
      have hsn := take_snoc l hjl
      have hnl := ho.1
      rw [List.length_append] at hnl
      have hdl : (dotNums (l.take j)).length = 2 * j := by rw [← List.length_map (f := Int.toNat), dotNums_nat, dotN_len, List.length_take]; omega
      have HNL := Lib.hid (show n' ≤ 1000 by have := HPL.out; have := H96.out; omega)
      generalize l[j] = d at *
      obtain ⟨x, y⟩ := d
      simp only at q0 q1
      have HSN := Lib.hid hsn
      have hj0 : (0 : Int) ≤ (j : Int) := by omega
      have hjm : (j : Int) < (m : Int) := by omega
      have hsz : b + 1 ≤ wr.heap.size := kb.lt
      have hmd : RdI ((wr.alloc (.cells #[.int .i64 x, .int .i64 y] 23)).alloc (.cells #[.int .i64 x, .int .i64 y] 3)) (wr.heap.size + 1 + 1) (some ⟨wr.heap.size + 1, 0, none⟩) 2 [x, y] := by
        have h := RdI.made (wr.alloc (.cells #[.int .i64 x, .int .i64 y] 23)) [x, y] #[.int .i64 x, .int .i64 y] 3 (0, 0) rfl
        rw [show (wr.alloc (.cells #[.int .i64 x, .int .i64 y] 23)).heap.size = wr.heap.size + 1 by simp] at h
        exact h
      have HMD := Lib.hid hmd
      clear hsn hnl hdl hmd
      go_wp2_with (at_builtin; refine wpList_appI rfl (.tmp 63) (.tmp 68) rfl rfl ((ho.alloc _).alloc _) (news := [x, y]) rfl HMD.out ?h8_1 ?h9_1 ?h10_1)
      case h8_1 => have := HNL.out; omega
      case h9_1 => simp; omega
      intro A4 c4' w4 o4 g4 m4 b4
      have bx : Below (b + 1) wr w4 := (((Below.refl _ _).alloc hsz (.cells #[.int .i64 x, .int .i64 y] 23)).alloc (by simp; omega) (.cells #[.int .i64 x, .int .i64 y] 3)).trans b4
      have kb4 := kb.below bx (by omega)
      have hl4 := hl.below (bx.mono (by omega))
      have gb4 := gb.trans (bx.mono (by omega))
      clear g4 m4 b4 bx
      go_wp2_with fail
      go_roundw
      case rel => exact ⟨j + 1, A4, _, c4', by omega, num_succ j (by have := H96.out; omega), rfl, by rw [HSN.out]; simpa [dotNums] using o4, kb4, hl4, gb4⟩
      case measure => exact meas_succ j m hlt (by have := H96.out; omega)
    · have hje : l.take j = l := List.take_of_length_le (by rw [← HM.out]; omega)
      rw [hje] at ho
      have HO := Lib.hid (ho.mono (base' := b) (by omega))
      have hkd : decide ((j : Int) < (m : Int)) = false := decide_eq_false (by omega)
      clear hje ho
      go_wp2_with fail
      go_ret
      refine ⟨A', n', c', rfl, ?_, by rw [← HB.out]; exact gb⟩
      rw [HF.out, ← HB.out]
      have e : [n, q, t, k, wk] ++ ([] ++ [(m : Int)] ++ dotNums l) = pr ++ dotNums l := by rw [HPR.out]; simp
      rw [e]
      exact HO.out
end Go.Proofs.Ytiemlnomlfebkaa

/- The walk of event.PutAll. -/
namespace Go.Proofs.Ytiemlnomlfebkaa
open Go.RowKit
open Dot Evt
/-- what PutAll gives: bytes, an error's number -/
def putAllE (xs : List EvV) : List UInt8 × Nat :=
  if 768 < xs.length then ([], 6) else if xs.all (fun x => rightE x.e) = true then (Vint.enc xs.length ++ xs.flatMap (fun x => encE x.e), 0) else ([], 2)
theorem numsE_len (x : Ev) (hp : x.p.length = 7) : (numsE x).length ≤ 13 + 2 * x.l.length := by
  have hd : (dotNums x.l).length = 2 * x.l.length := by rw [← dotN_len, ← dotNums_nat, List.length_map]
  unfold numsE
  rw [List.length_append]
  split
  · simp only [List.length_cons, List.length_nil]; omega
  · rw [List.length_append, List.length_append, hd]
    split
    · simp only [List.length_cons, List.length_nil, hp]; omega
    · simp only [List.length_cons, List.length_nil]; omega
theorem encE_len {x : Ev} (hp : x.p.length = 7) (hx : rightE x = true) : (encE x).length ≤ 1230 := by
  have h := encs_len ((numsE x).map Int.toNat)
  rw [List.length_map] at h
  have h2 := numsE_len x hp
  have h3 := (right_facts hp hx).2.2.1
  unfold encE
  omega
theorem encAll_len (xs : List EvV) (hp : ∀ x ∈ xs, x.e.p.length = 7 ∧ rightE x.e = true) : (xs.flatMap fun x => encE x.e).length ≤ 1230 * xs.length := by
  induction xs with
  | nil => simp
  | cons a l ih =>
    have h1 := encE_len (hp a (by simp)).1 (hp a (by simp)).2
    have h2 := ih fun x hx => hp x (by simp [hx])
    simp only [List.flatMap_cons, List.length_append, List.length_cons]
    omega
set_option maxRecDepth 100000 in
set_option maxHeartbeats 2000000 in
theorem eputAll_any (A : Option Addr) (n c : Nat) (xs : List EvV) (w : World) (hn : n ≤ 10000000000000) (hR : RowEv w w.heap.size A n xs) :
    Calls Try.prog 18 #[.slice A n c] w (GiveBE w (putAllE xs).1 (putAllE xs).2) := by
  have HN := Lib.hid hR.1
  have HRK := Lib.hid fun (w' : World) (hb : Below w.heap.size w w') => hR.below hb
  have HNB := Lib.hid hn
  have hZ : ∀ s : List UInt8 × Nat, putAllE xs = s → GiveBE w (putAllE xs).1 (putAllE xs).2 = GiveBE w s.1 s.2 := fun s h => by rw [h]
  clear hR
  have HPA := Lib.hid (show putAllE xs = putAllE xs from rfl)
  go_enter_defers Try.func18, Try.ntmps18
  go_upto_region 4 with fail
  refine nameW ?_
  intro W hW
  obtain ⟨B, hB⟩ : ∃ B, B = w.heap.size := ⟨_, rfl⟩
  rw [← hB]
  have kf : Blk W B 38 #[.int .i64 0] := by rw [hW, hB]; exact ((Blk.new w _ _).alloc _).alloc _
  have kw : WrS W (B + 1) [] := by
    have h := Blk.new (w.alloc (.cells #[.int .i64 0] 38)) 73 #[.slice none 0 0]
    rw [show (w.alloc (.cells #[.int .i64 0] 38)).heap.size = w.heap.size + 1 by simp] at h
    rw [hW, hB]
    exact ⟨none, 0, 0, h.alloc _, OwnB.nil _ _⟩
  have kn : Blk W (B + 1 + 1) 3 #[.int .i64 n] := by
    have h := Blk.new ((w.alloc (.cells #[.int .i64 0] 38)).alloc (.cells #[.slice none 0 0] 73)) 3 #[.int .i64 n]
    rw [show ((w.alloc (.cells #[.int .i64 0] 38)).alloc (.cells #[.slice none 0 0] 73)).heap.size = w.heap.size + 1 + 1 by simp] at h
    rw [hW, hB]
    exact h
  have hbb : Below B w W := by rw [hW, hB]; exact (((Below.refl _ _).alloc (Nat.le_refl _) _).alloc (by simp) _).alloc (by simp; omega) _
  have HB := Lib.hid hB
  rw [← hB] at HRK
  clear hW hB hZ
  have cn : W.cell? ⟨B + 1 + 1, 0, none⟩ = some (.int .i64 n) := kn.cell 0
  have cf : W.cell? ⟨B, 0, none⟩ = some (.int .i64 0) := kf.cell 0
  have ff := kf.free 0
  by_cases hbig : 768 < n
  · have hd : decide ((768 : Int) < (n : Int)) = true := decide_eq_true (by omega)
    have he : putAllE xs = ([], 6) := by unfold putAllE; rw [if_pos (by rw [← HN.out]; exact hbig)]
    have HE := Lib.hid he
    clear hbig he
    go_wp2_with fail
    refine leaves_cons (f := 38) (args := #[.pointer (some ⟨B, 0, none⟩)]) (by simp) (by simp [go_sem]) ?_
    refine (ecaught_none _ _).mono ?_
    rintro e u' w2 ⟨rfl, rfl, rfl⟩
    have k2 := kf.set_ 0 (.int .i64 6)
    have c2 := k2.cell 0
    have hb3 : Below B w (W.setCell ⟨B, 0, none⟩ (.int .i64 6)) := hbb.setCell (by show B ≤ B; omega) _
    refine ⟨.tuple #[.slice none 0 0, .int .i64 6], by simp [results, Try.results18, go_sem, c2], none, 0, 0, by rw [HE.out]; rfl, ?_, by rw [← HB.out]; exact hb3⟩
    rw [HE.out]
    exact OwnB.nil _ _
  have hd : decide ((768 : Int) < (n : Int)) = false := decide_eq_false (by omega)
  have H768 := Lib.hid (show n ≤ 768 by omega)
  clear hbig
  go_wp2_with fail
  refine (wnum_any (B + 1) ⟨B + 1 + 1, 0, none⟩ [] n W kw cn (by have := H768.out; omega) (by simp)).mono ?_
  rintro e w1 ⟨rfl, hw1, g1⟩
  have kf1 := kf.grown g1 (by simp)
  have hb1 := hbb.trans (only_Below g1 (B := B) (by omega) (by have := kf.lt; omega))
  clear cn cf ff kf kw kn hbb g1 hn hd
  go_wp2_with fail
  go_loopw [18] (fun i wr => ∃ k : Nat, k ≤ n ∧ i = .int .i64 k ∧ (∀ j x, j < k → xs[j]? = some x → rightE x.e = true) ∧ WrS wr (B + 1) (Vint.enc n ++ (xs.take k).flatMap fun x => encE x.e) ∧ Blk wr B 38 #[.int .i64 0] ∧ Below B w wr) (fun i _ => n - (intOf i).toNat)
  case atStart => exact ⟨0, by omega, rfl, fun j x hj => by omega, by simpa using hw1, kf1, hb1⟩
  case round =>
    clear hw1 kf1 hb1
    obtain ⟨k, hk, rfl, hall, hw, kf, gb⟩ := hrel
    have HA := Lib.hid hall
    clear hall
    by_cases hlt : k < n
    · have hkl : k < xs.length := by rw [← HN.out]; exact hlt
      obtain ⟨hok, ad, hA, hab, hcell⟩ := (HRK.out wr gb).2 k _ (List.getElem?_eq_getElem hkl)
      have hsn := take_snoc xs hkl
      have hkg := List.getElem?_eq_getElem hkl
      generalize xs[k] = x at *
      have hpr : ∀ y ∈ xs.take k, y.e.p.length = 7 ∧ rightE y.e = true := fun y hy => by
        obtain ⟨i, hi, rfl⟩ := List.getElem_of_mem hy
        rw [List.length_take] at hi
        have e1 : xs[i]? = some (xs.take k)[i] := by rw [List.getElem_take, List.getElem?_eq_getElem]
        exact ⟨((HRK.out wr gb).2 i _ e1).1.1, HA.out i _ (by omega) e1⟩
      have hlen := encAll_len _ hpr
      rw [List.length_take] at hlen
      have hl6 := enc_len6 n
      have HLL := Lib.hid (show (Vint.enc n ++ (xs.take k).flatMap fun x => encE x.e).length ≤ 140737488350000 by rw [List.length_append]; have := H768.out; omega)
      subst hA
      have hyes := fun (w' : World) (h : WrS w' (B + 1) (Vint.enc n ++ (xs.take k).flatMap fun x => encE x.e)) (h2 : RdD w' (B + 1) x.A x.m x.e.l) (hx : rightE x.e = true) => wput_yes x.e hok.1 x.A x.m x.c (B + 1) _ w' h h2 hx HLL.out
      have hno := fun (w' : World) (h2 : RdD w' w'.heap.size x.A x.m x.e.l) (hx : rightE x.e = false) => wput_no x.e hok.1 x.A x.m x.c (B + 1) w' h2 hx
      obtain ⟨cs, hcs⟩ : ∃ cs, cs = x.cs := ⟨_, rfl⟩
      have hec : ec x.e (.slice x.A x.m x.c) = cs := hcs.symm
      rw [hec] at hyes hno
      rw [← hcs] at hcell
      have HYES := Lib.hid hyes
      have HNO := Lib.hid hno
      have HSZ := Lib.hid (show cs.size = 14 by rw [hcs]; rfl)
      have H1C := Lib.hid (show cs.all (·.oneCell') = true by rw [hcs]; exact x.one)
      have HC := Lib.hid hcell
      have HOK := Lib.hid hok
      have HSN := Lib.hid hsn
      have HKG := Lib.hid hkg
      have HWR := Lib.hid hw
      have hk0 : (0 : Int) ≤ (k : Int) := by omega
      have hkm : (k : Int) < (n : Int) := by omega
      have hgs := hw.lt
      clear hcs hec hcell hok hsn hkg hlen hl6 hpr hyes hno hw
      go_upto_region 9 with fail
      go_upto_region 10 with first
        | ((with_reducible refine wpList_lda rowE HC.out HSZ.out ?_ ?_); rotate_left; (rfl))
        | ((with_reducible refine wpList_st rowE (Blk.new _ _ _) HSZ.out ?_ H1C.out ?_ ?_ ?_); (rfl); rotate_left; (rfl); (rfl); intro w6 k6 g6 z6)
      have bA : Below wr.heap.size wr w6 := (((Below.refl _ _).alloc (Nat.le_refl _) _).grown g6 (by simp) (fun q hq => by injection hq with hq; omega))
      have gb6 := gb.trans (bA.mono (by have := kf.lt; omega))
      have kf6 := kf.below bA kf.lt
      have hw6 := HWR.out.below bA
      have hrd6 := (HOK.out.2.1.below (bA.mono (by have := kf.lt; omega))).more (show B ≤ B + 1 by omega)
      obtain ⟨gr, hgr2⟩ : ∃ gr, gr = wr.heap.size := ⟨_, rfl⟩
      rw [← hgr2] at k6 ⊢
      clear hgr2 g6 z6 bA gb kf
      cases hx : rightE x.e
      case false =>
        have he : putAllE xs = ([], 2) := by
          unfold putAllE
          rw [if_neg (by rw [← HN.out]; have := H768.out; omega), if_neg]
          intro h
          have := List.all_eq_true.1 h x (List.mem_of_getElem? HKG.out)
          rw [hx] at this
          cases this
        have HE := Lib.hid he
        have hn2 := HNO.out w6 hrd6.size hx
        clear he hx
        go_wp2_with first
          | ((with_reducible refine wpList_ld rowE k6 HSZ.out ?_ ?_); rotate_left; (rfl))
        refine hn2.mono ?_
        rintro e w7 ⟨rfl, b7⟩
        have kf7 := kf6.below b7 kf6.lt
        go_wp2_with fail
        refine leaves_cons (f := 38) (args := #[.pointer (some ⟨B, 0, none⟩)]) (by simp) (by simp [go_sem]) ?_
        refine (ecaught_panic _ _ _ _ _ (kf7.cell 0) (kf7.free 0)).mono ?_
        rintro e u' w8 ⟨rfl, rfl, rfl⟩
        have k8 := (kf7.alloc (.cells #[.int .i64 2] 101)).set_ 0 (.int .i64 2)
        have c8 := k8.cell 0
        have hb8 : Below B w ((w7.alloc (.cells #[.int .i64 2] 101)).setCell ⟨B, 0, none⟩ (.int .i64 2)) := ((gb6.trans (b7.mono (by have := kf6.lt; omega))).alloc (by have := gb6.size; have := b7.size; have := HB.out; omega) _).setCell (by show B ≤ B; omega) _
        refine ⟨.tuple #[.slice none 0 0, .int .i64 2], by simp [results, Try.results18, go_sem, c8], none, 0, 0, by rw [HE.out]; rfl, ?_, by rw [← HB.out]; exact hb8⟩
        rw [HE.out]
        exact OwnB.nil _ _
      case true =>
        have hy2 := HYES.out w6 hw6 hrd6 hx
        have HX := Lib.hid hx
        clear hx
        go_wp2_with first
          | ((with_reducible refine wpList_ld rowE k6 HSZ.out ?_ ?_); rotate_left; (rfl))
        refine hy2.mono ?_
        rintro e w7 ⟨rfl, hw7, g7⟩
        have kf7 := kf6.grown g7 (by simp)
        have gb7 := gb6.trans (only_Below g7 (B := B) (by omega) (by have := kf6.lt; omega))
        go_wp2_with fail
        go_roundw
        case rel => exact ⟨k + 1, by omega, num_succ k (by have := H768.out; omega), fun j y hj hy => by
          by_cases e : j = k
          · subst e; rw [HKG.out] at hy; injection hy with hy; rw [← hy]; exact HX.out
          · exact HA.out j y (by omega) hy, by rw [HSN.out, List.flatMap_append]; simpa using hw7, kf7, gb7⟩
        case measure => exact meas_succ k n hlt (by have := H768.out; omega)
    · have he : putAllE xs = (Vint.enc n ++ xs.flatMap fun x => encE x.e, 0) := by
        unfold putAllE
        rw [if_neg (by rw [← HN.out]; have := H768.out; omega), if_pos, ← HN.out]
        rw [List.all_eq_true]
        intro x hx
        obtain ⟨i, hi, rfl⟩ := List.getElem_of_mem hx
        exact HA.out i _ (by have := HN.out; omega) (List.getElem?_eq_getElem hi)
      have HE := Lib.hid he
      rw [List.take_of_length_le (by rw [← HN.out]; omega)] at hw
      clear he
      obtain ⟨A1, n1, c1, kw1, ho1⟩ := hw
      have q1 : wr.cell? ⟨B + 1, 0, none⟩ = some (.slice A1 n1 c1) := kw1.cell 0
      have f1 : wr.cell? ⟨B, 0, none⟩ = some (.int .i64 0) := kf.cell 0
      have f2 := kf.free 0
      have hkd : decide ((k : Int) < (n : Int)) = false := decide_eq_false (by omega)
      go_wp2_with fail
      refine leaves_cons (f := 38) (args := #[.pointer (some ⟨B, 0, none⟩)]) (by simp) (by simp [go_sem]) ?_
      refine (ecaught_none _ _).mono ?_
      rintro e u' w2 ⟨rfl, rfl, rfl⟩
      have k2 := kf.set_ 0 (.int .i64 0)
      have c2 := k2.cell 0
      have hb3 : Below B w (wr.setCell ⟨B, 0, none⟩ (.int .i64 0)) := gb.setCell (by show B ≤ B; omega) _
      refine ⟨.tuple #[.slice A1 n1 c1, .int .i64 0], by simp [results, Try.results18, go_sem, c2], A1, n1, c1, by rw [HE.out]; rfl, ?_, by rw [← HB.out]; exact hb3⟩
      rw [HE.out]
      refine (ho1.setFar ?_ _).mono (by have := HB.out; omega)
      rcases A1 with _ | a
      · simp
      · have := (ho1.lt a.block rfl).1
        simp
        omega
end Go.Proofs.Ytiemlnomlfebkaa

/- The walks of package vint: New, and a reader's Int, Err, Left. -/
namespace Go.Proofs.Ytiemlnomlfebkaa
open Go.RowKit

/-- A reader: block g holds its slice and its error; the bytes lie below it. -/
def Rdr (w : World) (g : Nat) (A : Option Addr) (n c : Nat) (bs : List UInt8) (e : Nat) : Prop :=
  w.heap[g]? = some (.cells #[.slice A n c, .int .i64 (e : Nat)] 104 (0, 0)) ∧ RdB w g A n bs ∧ n ≤ c ∧ c ≤ maxLen
section
variable {w w' : World} {g : Nat} {A : Option Addr} {n c : Nat} {bs : List UInt8} {e : Nat}
theorem Rdr.lt (h : Rdr w g A n c bs e) : g < w.heap.size := lt_of_block h.1
theorem Rdr.cell0 (h : Rdr w g A n c bs e) : w.cell? ⟨g, 0, none⟩ = some (.slice A n c) := by have := h.1; simp [World.cell?, this]
theorem Rdr.cell1 (h : Rdr w g A n c bs e) : w.cell? ⟨g, 1, none⟩ = some (.int .i64 (e : Nat)) := by have := h.1; simp [World.cell?, this]
theorem Rdr.free (h : Rdr w g A n c bs e) (i : Nat) : w.frozen? ⟨g, i, none⟩ = false := by have := h.1; simp [World.frozen?, this]
theorem Rdr.below (h : Rdr w g A n c bs e) (hb : Below (g + 1) w w') : Rdr w' g A n c bs e :=
  ⟨(hb.block g (by omega)).trans h.1, h.2.1.below (hb.mono (by omega)), h.2.2⟩
end
def IsNew (w : World) (bs : List UInt8) (e : Ending) (w' : World) : Prop :=
  ∃ A c g, e = .returned (.pointer (some ⟨g, 0, none⟩)) ∧ w.heap.size ≤ g ∧ Rdr w' g A bs.length c bs 0 ∧ Below w.heap.size w w'
theorem new_any (A : Option Addr) (n c : Nat) (bs : List UInt8) (B : Nat) (w : World) (hb : RdB w B A n bs) (hB : B ≤ w.heap.size) (hl : n ≤ 140737488355000) :
    Calls Try.prog 43 #[.slice A n c] w (IsNew w bs) := by
  obtain rfl := hb.1
  go_enter Try.func43, Try.ntmps43
  go_wp2_with (go_at_call 58; refine (clone_any _ _ _ _ _ _ hb hB (by omega)).mono ?_; rintro e w1 ⟨A1, n1, c1, rfl, ho, hbl⟩)
  have hn := ho.1
  subst hn
  go_ret
  refine ⟨A1, c1, w1.heap.size, rfl, hbl.size, ⟨?_, ?_, ?_⟩, hbl.alloc hbl.size _⟩
  · exact heap_alloc_new w1 _
  · exact (ho.rd.alloc (Nat.le_refl _) _)
  · rcases ho.2.2 with ⟨h, h0⟩ | ⟨g, cap, cur, h, _, _, h1, h2, _⟩
    · injection h with _ _ h; subst h; exact ⟨by omega, by unfold maxLen; omega⟩
    · injection h with _ _ h; subst h; exact ⟨h1, h2⟩
theorem err_any (g : Nat) (A : Option Addr) (n c : Nat) (bs : List UInt8) (e : Nat) (w : World) (h : Rdr w g A n c bs e) :
    Calls Try.prog 64 #[.pointer (some ⟨g, 0, none⟩)] w fun r w' => r = .returned (.int .i64 (e : Nat)) ∧ w = w' := by
  have h1 := h.cell1
  go_enter Try.func64, Try.ntmps64
  go_wp2_with fail
  go_ret
  exact ⟨rfl, rfl⟩
theorem left_any (g : Nat) (A : Option Addr) (n c : Nat) (bs : List UInt8) (e : Nat) (w : World) (h : Rdr w g A n c bs e) :
    Calls Try.prog 60 #[.pointer (some ⟨g, 0, none⟩)] w fun r w' => r = .returned (.int .i64 (n : Nat)) ∧ w = w' := by
  have h1 := h.cell0
  go_enter Try.func60, Try.ntmps60
  go_wp2_with fail
  go_ret
  exact ⟨rfl, rfl⟩
theorem err_nil (w : World) : Calls Try.prog 64 #[.pointer none] w fun r w' => r = .returned (.int .i64 1) ∧ w = w' := by
  go_enter Try.func64, Try.ntmps64
  go_wp2_with fail
  go_ret
  exact ⟨rfl, rfl⟩
/-- a fault, as a panic's value -/
abbrev fault (x : Int) : Value := .iface 124 (.agg #[.int .i64 x])
theorem pass_neg (k : Int) (g : Nat) (w : World) (hk : k < 0) :
    Calls Try.prog 74 #[.pointer (some ⟨g, 0, none⟩), .int .i64 k] w fun r w' => r = .panicked [{ v := fault 2, recovered := false }] ∧ w = w' := by
  have hd : decide (k < 0) = true := decide_eq_true (by omega)
  go_enter Try.func74, Try.ntmps74
  go_wp2
  exact ⟨rfl, rfl, rfl⟩
theorem pass_short (k : Nat) (g : Nat) (A : Option Addr) (n c : Nat) (bs : List UInt8) (e : Nat) (w : World) (hR : Rdr w g A n c bs e) (hk : n < k) :
    Calls Try.prog 74 #[.pointer (some ⟨g, 0, none⟩), .int .i64 k] w fun r w' => r = .panicked [{ v := fault 3, recovered := false }] ∧ w = w' := by
  have h1 := hR.cell0
  have hd : decide ((k : Int) < 0) = false := decide_eq_false (by omega)
  have hd1 : decide ((n : Int) < (k : Int)) = true := decide_eq_true (by omega)
  go_enter Try.func74, Try.ntmps74
  go_wp2
  exact ⟨rfl, rfl, rfl⟩
/-- The reader's slice with k bytes passed. -/
theorem Rdr.pass {w : World} {g : Nat} {A : Option Addr} {n c : Nat} {bs : List UInt8} {e : Nat} (h : Rdr w g A n c bs e) {k : Nat} (hk : k ≤ n) :
    (c = k → Rdr (w.setCell ⟨g, 0, none⟩ (.slice A (n - k) 0)) g A (n - k) 0 (bs.drop k) e) ∧
    (¬ c = k → Rdr (w.setCell ⟨g, 0, none⟩ (.slice (A.map fun x => x.add k) (n - k) (c - k))) g (A.map fun x => x.add k) (n - k) (c - k) (bs.drop k) e) := by
  obtain ⟨h1, h2, h3, h4⟩ := h
  have hh : ∀ u, (w.setCell ⟨g, 0, none⟩ u).heap[g]? = some (.cells #[u, .int .i64 (e : Nat)] 104 (0, 0)) := by
    intro u
    simp [World.setCell, Array.getElem?_modify, h1]
  refine ⟨fun hc => ⟨hh _, ⟨by rw [List.length_drop, h2.1], ?_⟩, by omega, Nat.zero_le _⟩, fun hc => ⟨hh _, ?_, by omega, by omega⟩⟩
  · have : bs.drop k = [] := List.drop_eq_nil_of_le (by have := h2.1; omega)
    rw [this]
    exact Rd.nil _ _ _
  · have := h2.drop k
    exact ⟨this.1, this.2.setCell (Nat.le_refl _) _⟩
def Passed (w : World) (g k : Nat) (A : Option Addr) (c : Nat) (bs : List UInt8) (e : Nat) (r : Ending) (w' : World) : Prop :=
  ∃ A' n' c' u, r = .returned (.slice A k c) ∧ w' = w.setCell ⟨g, 0, none⟩ u ∧ Rdr w' g A' n' c' (bs.drop k) e
theorem pass_ok (k : Nat) (g : Nat) (A : Option Addr) (n c : Nat) (bs : List UInt8) (e : Nat) (w : World) (hR : Rdr w g A n c bs e) (hk : k ≤ n) :
    Calls Try.prog 74 #[.pointer (some ⟨g, 0, none⟩), .int .i64 k] w (Passed w g k A c bs e) := by
  have h1 := hR.cell0
  have h2 := hR.free 0
  have hn := hR.2.2.1
  have hm := hR.2.2.2
  have hp := Lib.hid (hR.pass hk)
  unfold maxLen at hm
  have hd : decide ((k : Int) < 0) = false := decide_eq_false (by omega)
  have hd1 : decide ((n : Int) < (k : Int)) = false := decide_eq_false (by omega)
  by_cases hck : c = k
  · subst hck
    obtain rfl : n = c := by omega
    have hp1 := hp.out.1 rfl
    rw [Nat.sub_self] at hp1
    have HP := Lib.hid hp1
    clear hp hp1
    go_enter Try.func74, Try.ntmps74
    go_wp2
    go_ret
    exact ⟨_, _, _, _, rfl, rfl, HP.out⟩
  · go_enter Try.func74, Try.ntmps74
    go_wp2
    go_ret
    exact ⟨_, _, _, _, rfl, rfl, hp.out.2 hck⟩

theorem i64_andNot128 : ∀ x : Fin 256, bits .andNot .i64 (x.val : Int) 128 = ((x.val % 128 : Nat) : Int) := by decide +kernel
/-- what 'number' leaves: a number and the rest; or a panic -/
def Numbered (w : World) (g : Nat) (bs : List UInt8) (r : Ending) (w' : World) : Prop :=
  w.grownBy w' (some g) ∧ w.heap.size = w'.heap.size ∧
  match Vint.dec bs with
  | .ok (n, rest) => r = .returned (.int .i64 (n : Nat)) ∧ ∃ A' c', Rdr w' g A' rest.length c' rest 0
  | .error x => r = .panicked [{ v := fault (x : Nat), recovered := false }] ∧ ∃ A' n' c' rest, Rdr w' g A' n' c' rest 0
theorem i64_or_nat (a b : Nat) (ha : a < 9223372036854775808) (hb : b < 9223372036854775808) : bits .or .i64 (a : Int) (b : Int) = ((a ||| b : Nat) : Int) := by
  have hx : a ||| b < 2 ^ 63 := Nat.or_lt_two_pow (by omega) (by omega)
  have hn : ∀ x : Nat, x < 9223372036854775808 → (BitVec.ofInt 64 (x : Int)).toNat = x := fun x hx => by
    rw [BitVec.ofInt_natCast, BitVec.toNat_ofNat]; exact Nat.mod_eq_of_lt (by omega)
  show IntKind.i64.wrap ((BitVec.ofInt 64 (a : Int) ||| BitVec.ofInt 64 (b : Int)).toNat : Int) = _
  rw [BitVec.toNat_or, hn a ha, hn b hb, IntKind.wrap_i64]
  omega
theorem pow128 (k : Nat) : (128 : Nat) ^ k = 2 ^ (7 * k) := by rw [show (128 : Nat) = 2 ^ 7 from rfl, ← Nat.pow_mul]
theorem or_shift (acc x k : Nat) (hacc : acc < 128 ^ k) (hk : k < 6) (hx : x < 128) : bits .or .i64 (acc : Int) (wrap64 ((x : Int) * 2 ^ (7 * k))) = ((acc + x * 128 ^ k : Nat) : Int) := by
  have h5 : 128 ^ k ≤ 128 ^ 5 := Nat.pow_le_pow_right (by decide) (by omega)
  have hm : x * 128 ^ k ≤ 127 * 128 ^ 5 := Nat.mul_le_mul (by omega) h5
  have e5 : (128 : Nat) ^ 5 = 34359738368 := by decide
  rw [e5] at h5 hm
  have e1 : ((x : Int) * 2 ^ (7 * k)) = ((x * 128 ^ k : Nat) : Int) := by rw [pow128]; push_cast; rfl
  rw [e1, IntWalk.wrap64_in _ ⟨by omega, by omega⟩, i64_or_nat _ _ (by omega) (by omega)]
  have e2 := Nat.shiftLeft_add_eq_or_of_lt (by rw [← pow128]; exact hacc : acc < 2 ^ (7 * k)) x
  rw [Nat.shiftLeft_eq, ← pow128] at e2
  rw [Nat.or_comm, ← e2, Nat.add_comm]
theorem passed_one {w wr w1 : World} {g : Nat} {A' : Option Addr} {n' c' : Nat} {x : UInt8} {rest : List UInt8} {u : Value} (hr : Rdr wr g A' n' c' (x :: rest) 0) (hg : w.grownBy wr (some g)) (hs : w.heap.size = wr.heap.size)
    (hw1 : w1 = wr.setCell ⟨g, 0, none⟩ u) : ∃ a, A' = some a ∧ w1.cell? a = some (bv x) ∧ w.grownBy w1 (some g) ∧ w.heap.size = w1.heap.size := by
  obtain ⟨a, hA, hab, hc⟩ := (hr.2.1).at_ (k := 0) (by simp)
  refine ⟨a, hA, ?_, by rw [hw1]; exact only_set hg _, by rw [hw1, hs]; simp [World.setCell]⟩
  rw [hw1, World.cell?_setCell_other _ _ _ _ (fun e => by rw [← e] at hab; exact absurd hab (Nat.lt_irrefl _))]
  simpa [Addr.add] using hc
set_option maxRecDepth 100000 in
theorem number_any (g : Nat) (A : Option Addr) (n c : Nat) (bs : List UInt8) (w : World) (hR : Rdr w g A n c bs 0) :
    Calls Try.prog 70 #[.pointer (some ⟨g, 0, none⟩)] w (Numbered w g bs) := by
  go_enter Try.func70, Try.ntmps70
  go_wp2_with fail
  go_loopw [3, 6] (fun v i wr => ∃ (k acc : Nat) (A' : Option Addr) (n' c' : Nat) (rest : List UInt8), k ≤ 6 ∧ i = .int .i64 k ∧ v = .int .i64 acc ∧ acc < 128 ^ k ∧ Vint.decF (6 - k) k acc rest = Vint.dec bs ∧
      Rdr wr g A' n' c' rest 0 ∧ w.grownBy wr (some g) ∧ w.heap.size = wr.heap.size) (fun _ i _ => 6 - (intOf i).toNat)
  case atStart => exact ⟨0, 0, A, n, c, bs, by omega, rfl, rfl, by decide, rfl, hR, World.grownBy.refl w _, rfl⟩
  case round =>
    obtain ⟨k, acc, A', n', c', rest, hk, rfl, rfl, hacc, hdec, hr, hg, hsz⟩ := hrel
    have HD := Lib.hid hdec
    have HZ := Lib.hid hsz
    clear hdec hsz
    by_cases hk6 : k = 6
    · subst hk6
      go_wp2
      refine ⟨rfl, hg, HZ.out, ?_⟩
      rw [← HD.out]
      exact ⟨rfl, _, _, _, _, hr⟩
    · have hlt : k < 6 := by omega
      rcases rest with _ | ⟨x, rest⟩
      · have hn0 := hr.2.1.1
        have H0 := Lib.hid hn0
        clear hn0
        go_wp2_with fail
        refine (pass_short 1 _ _ _ _ _ _ _ hr (by rw [H0.out]; simp)).mono ?_
        rintro e w1 ⟨rfl, rfl⟩
        refine ⟨rfl, hg, HZ.out, ?_⟩
        rw [← HD.out]
        obtain ⟨m, hm⟩ : ∃ m, 6 - k = m + 1 := ⟨5 - k, by omega⟩
        rw [hm]
        exact ⟨rfl, _, _, _, _, hr⟩
      · have hn' := hr.2.1.1
        have hx := x.toNat_lt
        have ea := i64_andNot128 ⟨x.toNat, hx⟩
        simp only at ea
        obtain ⟨N, hN⟩ : ∃ N, N = acc + x.toNat % 128 * 128 ^ k := ⟨_, rfl⟩
        have eo := or_shift acc (x.toNat % 128) k hacc hlt (by omega)
        rw [← hN] at eo
        rw [show ((x.toNat % 128 : Nat) : Int) = (x.toNat : Int) % 128 from rfl] at eo
        have hNb : N < 128 ^ (k + 1) := by
          rw [hN, Nat.pow_succ]
          have : x.toNat % 128 * 128 ^ k ≤ 127 * 128 ^ k := Nat.mul_le_mul_right _ (by omega)
          omega
        have h6 : 128 ^ (k + 1) ≤ 128 ^ 6 := Nat.pow_le_pow_right (by decide) (by omega)
        have e6 : (128 : Nat) ^ 6 = 4398046511104 := by decide
        rw [e6] at h6
        have hNt : N < 4398046511104 := by omega
        clear h6 e6
        have HNN := Lib.hid hN
        clear hN
        obtain ⟨m, hm⟩ : ∃ m, 6 - k = m + 1 := ⟨5 - k, by omega⟩
        have hdr : List.drop 1 (x :: rest) = rest := rfl
        by_cases h128 : 128 ≤ x.toNat
        · go_wp2_with fail
          refine (pass_ok 1 _ _ _ _ _ _ _ hr (by rw [hn']; simp)).mono ?_
          rintro e w1 ⟨A2, n2, c2, u, rfl, hw1, hr2⟩
          rw [hdr] at hr2
          obtain ⟨a, hA, hc1, hg1, hs1⟩ := passed_one hr hg HZ.out hw1
          subst hA
          have HS := Lib.hid hs1
          have HM := Lib.hid hm
          clear hw1 hn' hdr hs1 hm
          go_wp2_with fail
          go_roundw
          case rel =>
            refine ⟨k + 1, N, _, _, _, _, by omega, by go_num, rfl, hNb, ?_, hr2, hg1, HS.out⟩
            rw [← HD.out, HM.out, show 6 - (k + 1) = m by have := HM.out; omega]
            conv => rhs; unfold Vint.decF
            rw [if_pos h128, HNN.out]
          case measure => simp [intOf]; omega
        · have hxm : x.toNat % 128 = x.toNat := Nat.mod_eq_of_lt (by omega)
          have hdec2 : Vint.dec bs = if Vint.top < N ∨ (x.toNat = 0 ∧ 0 < k) then .error 4 else .ok (N, rest) := by
            rw [← HD.out, hm]
            conv => lhs; unfold Vint.decF
            rw [if_neg h128, HNN.out, hxm]
          have HD2 := Lib.hid hdec2
          have hd8 : decide ((128 : Int) ≤ (x.toNat : Int)) = false := decide_eq_false (by omega)
          have HM := Lib.hid hm
          clear hdec2 hxm hm HD
          by_cases hb : 1099511627776 < N
          · have HB := Lib.hid (HD2.out.trans (if_pos (.inl hb)))
            have ht : decide ((1099511627776 : Int) < (N : Int)) = true := decide_eq_true (by omega)
            clear HD2
            go_wp2_with fail
            refine (pass_ok 1 _ _ _ _ _ _ _ hr (by rw [hn']; simp)).mono ?_
            rintro e w1 ⟨A2, n2, c2, u, rfl, hw1, hr2⟩
            rw [hdr] at hr2
            obtain ⟨a, hA, hc1, hg1, hs1⟩ := passed_one hr hg HZ.out hw1
            subst hA
            have HS := Lib.hid hs1
            clear hw1 hn' hdr hs1
            go_wp2
            refine ⟨rfl, hg1, HS.out, ?_⟩
            rw [HB.out]
            exact ⟨rfl, _, _, _, _, hr2⟩
          · have ht : decide ((1099511627776 : Int) < (N : Int)) = false := decide_eq_false (by omega)
            have HNT : ¬ Vint.top < N := hb
            by_cases hx0 : x.toNat = 0
            · have hxe : ((x.toNat : Int) == 0) = true := by rw [hx0]; rfl
              by_cases hk0 : k = 0
              · rw [if_neg (fun h => by rcases h with h | h <;> omega)] at HD2
                have hkd : decide (0 < k) = false := decide_eq_false (by omega)
                have hk00 := Lib.hid hk0
                clear hk0
                have hx00 := Lib.hid hx0
                clear hx0
                go_wp2_with fail
                refine (pass_ok 1 _ _ _ _ _ _ _ hr (by rw [hn']; simp)).mono ?_
                rintro e w1 ⟨A2, n2, c2, u, rfl, hw1, hr2⟩
                rw [hdr] at hr2
                obtain ⟨a, hA, hc1, hg1, hs1⟩ := passed_one hr hg HZ.out hw1
                subst hA
                have HS := Lib.hid hs1
                clear hw1 hn' hdr hs1
                go_wp2
                go_ret
                refine ⟨hg1, HS.out, ?_⟩
                rw [HD2.out]
                have := hr2.2.1.1
                subst this
                exact ⟨rfl, _, _, hr2⟩
              · have HB := Lib.hid (HD2.out.trans (if_pos (.inr ⟨hx0, by omega⟩)))
                have hkd : 0 < k := by omega
                have hx00 := Lib.hid hx0
                clear HD2 hx0
                go_wp2_with fail
                refine (pass_ok 1 _ _ _ _ _ _ _ hr (by rw [hn']; simp)).mono ?_
                rintro e w1 ⟨A2, n2, c2, u, rfl, hw1, hr2⟩
                rw [hdr] at hr2
                obtain ⟨a, hA, hc1, hg1, hs1⟩ := passed_one hr hg HZ.out hw1
                subst hA
                have HS := Lib.hid hs1
                clear hw1 hn' hdr hs1
                go_wp2
                refine ⟨rfl, hg1, HS.out, ?_⟩
                rw [HB.out]
                exact ⟨rfl, _, _, _, _, hr2⟩
            · have hxe : ((x.toNat : Int) == 0) = false := by rw [beq_eq_false_iff_ne]; omega
              rw [if_neg (fun h => by rcases h with h | h <;> omega)] at HD2
              go_wp2_with fail
              refine (pass_ok 1 _ _ _ _ _ _ _ hr (by rw [hn']; simp)).mono ?_
              rintro e w1 ⟨A2, n2, c2, u, rfl, hw1, hr2⟩
              rw [hdr] at hr2
              obtain ⟨a, hA, hc1, hg1, hs1⟩ := passed_one hr hg HZ.out hw1
              subst hA
              have HS := Lib.hid hs1
              clear hw1 hn' hdr hs1
              go_wp2
              go_ret
              refine ⟨hg1, HS.out, ?_⟩
              rw [HD2.out]
              have := hr2.2.1.1
              subst this
              exact ⟨rfl, _, _, hr2⟩
end Go.Proofs.Ytiemlnomlfebkaa

/- The walks of the reference of layer 2: Put, Same, Lent, Kept. -/
namespace Go.Proofs.Ytiemlnomlfebkaa
open Go.RowKit

theorem rput_bad (A : Option Addr) (n c : Nat) (x : Int) (w : World) (hx : x < 0 ∨ 1099511627776 < x) :
    Calls Try.prog 41 #[.slice A n c, .int .i64 x] w fun e w' => e = .returned (.tuple #[.slice none 0 0, .int .i64 2]) ∧ w = w' := by
  rcases hx with hx | hx
  · have hd : decide (x < 0) = true := decide_eq_true (by omega)
    go_enter Try.func41, Try.ntmps41
    go_wp2_with fail
    go_ret2
    exact ⟨rfl, rfl⟩
  · have hd : decide (x < 0) = false := decide_eq_false (by omega)
    have hd1 : decide (1099511627776 < x) = true := decide_eq_true (by omega)
    go_enter Try.func41, Try.ntmps41
    go_wp2_with fail
    go_ret2
    exact ⟨rfl, rfl⟩
theorem u8_ref (m : Nat) : IntKind.u8.wrap (128 + (m : Int) % 128) = ((UInt8.ofNat (m % 128 + 128)).toNat : Int) := by
  rw [IntKind.wrap_u8', Vint.toNat_ofNat]; omega
set_option maxRecDepth 100000 in
theorem rput_ok (A : Option Addr) (n c : Nat) (bs : List UInt8) (x : Nat) (B : Nat) (w : World) (hb : RdB w B A n bs) (hB : B ≤ w.heap.size) (hl : n ≤ 140737488355000) (hx : x ≤ 1099511627776) :
    Calls Try.prog 41 #[.slice A n c, .int .i64 x] w (GiveBE w (bs ++ Vint.enc x) 0) := by
  have hd : decide ((x : Int) < 0) = false := decide_eq_false (by omega)
  have hd1 : decide (1099511627776 < (x : Int)) = false := decide_eq_false (by omega)
  go_enter Try.func41, Try.ntmps41
  go_wp2_with (at_builtin; refine wpList_appB rfl (.tmp 13) (.tmp 14) rfl rfl (OwnB.made w w.heap.size [] #[] 0 rfl rfl (Nat.le_refl _) (Nat.zero_le _)) rfl (hb.alloc hB _) (by omega) (by simp) ?_)
  intro A1 c1 w1 ho _ _ hbl0
  have hbl : Below w.heap.size w w1 := ((Below.refl _ _).alloc (Nat.le_refl _) _).trans hbl0
  clear hd hd1 hbl0
  have hn1 := ho.1
  have hl1 : bs.length ≤ 140737488355000 := by rw [← hb.1]; exact hl
  have HN1 := Lib.hid hn1
  clear hn1
  go_wp2_with fail
  go_loopw [1, 6] (fun i v wr => ∃ (m f : Nat) (pre : List UInt8) (A' : Option Addr) (n' c' : Nat), i = .int .i64 m ∧ v = .slice A' n' c' ∧ m < 128 ^ (f + 1) ∧ f ≤ 5 ∧ m ≤ 1099511627776 ∧ pre.length + f ≤ 5 ∧ pre ++ Vint.encF f m = Vint.enc x ∧
      OwnB wr w.heap.size A' n' c' (bs ++ pre) ∧ Below w.heap.size w wr) (fun i _ _ => (intOf i).toNat)
  case atStart => exact ⟨x, 5, [], A1, _, c1, rfl, rfl, by have : (128 : Nat) ^ 6 = 4398046511104 := by decide
                                                           show x < 128 ^ 6; omega, by omega, hx, by simp, rfl, by simpa using ho, hbl⟩
  case round =>
    obtain ⟨m, f, pre, A', n', c', rfl, rfl, hm, hf5, hmt, hpf, hpre, hown, hbel⟩ := hrel
    have hlen := hown.1
    rw [List.length_append] at hlen
    have hln : n' ≤ 140737488355005 := by omega
    have HL := Lib.hid hlen
    have HP := Lib.hid hpre
    clear hlen hpre
    by_cases hge : 128 ≤ m
    · have hf : 1 ≤ f := by
        rcases Nat.eq_zero_or_pos f with h0 | h0
        · subst h0; simp at hm; omega
        · exact h0
      obtain ⟨f, rfl⟩ : ∃ f', f = f' + 1 := ⟨f - 1, by omega⟩
      have a1 := u8_ref m
      go_wp2_with (at_builtin; refine wpList_appB rfl (.tmp 18) (.tmp 23) rfl rfl (hown.alloc _) rfl (RdB.made _ [UInt8.ofNat (m % 128 + 128)] _ _ _ ?hx1) ?hx0 ?hx2 ?_)
      case hx0 => show n' + 1 ≤ _; omega
      case hx2 => have := hbel.size; simp; omega
      intro A2 c2 w3 ho2 _ _ hbl2
      have hbel3 : Below w.heap.size w w3 := (hbel.alloc hbel.size _).trans hbl2
      go_wp2_with fail
      go_roundw
      case rel =>
        refine ⟨m / 128, f, pre ++ [UInt8.ofNat (m % 128 + 128)], _, _, _, rfl, rfl, ?_, by omega, by omega, by simp; omega, ?_, by simpa using ho2, hbel3⟩
        · rw [Nat.pow_succ] at hm; omega
        · rw [← HP.out]
          conv => rhs; unfold Vint.encF
          rw [if_neg (by omega)]; simp
      case measure => simp [intOf]; omega
    · have a1 := u8_byte m
      go_wp2_with (at_builtin; refine wpList_appB rfl (.tmp 27) (.tmp 30) rfl rfl (hown.alloc _) rfl (RdB.made _ [UInt8.ofNat m] _ _ _ ?hy1) ?hy0 ?hy2 ?_)
      case hy0 => show n' + 1 ≤ _; omega
      case hy2 => have := hbel.size; simp; omega
      intro A2 c2 w3 ho2 _ _ hbl2
      have hbel3 : Below w.heap.size w w3 := (hbel.alloc hbel.size _).trans hbl2
      go_wp2_with fail
      go_ret2
      refine ⟨_, _, _, rfl, ?_, hbel3⟩
      have e : Vint.encF f m = [UInt8.ofNat m] := by
        cases f with
        | zero => rfl
        | succ f => unfold Vint.encF; rw [if_pos (by omega)]
      rw [← HP.out, e]
      simpa using ho2

/-- n zero bytes, as cells -/
def zerosB (n : Nat) : List Value := List.replicate n (bv 0)
theorem run_makeB (W : World) (n c : Nat) (hnc : n ≤ c) (hc : c ≤ 281474976710656) : (Instr.makeSlice 37 (.int .i64 (n : Int)) (.int .i64 (c : Int))).run Try.prog W = .ok (.slice (some ⟨W.heap.size, 0, none⟩) n c) (W.alloc (.cells (zerosB c).toArray 5)) := by
  obtain ⟨i0, hi, hz0, hz1, hz2⟩ := info_parts infoB
  have h := run_make (P := Try.prog) (w := W) 37 5 i0 (.int .u8 0) Try.underlying37 hi hz0 .i64 .i64 n c (by omega) (by omega) (by rw [hz2]; omega) (by omega)
  rw [hz1] at h
  simp only [Int.toNat_natCast, Nat.mul_one] at h
  rw [h]
  have e : madeCells (Value.int IntKind.u8 0).cells c = (zerosB c).toArray := by
    apply Array.toList_inj.1
    exact toList_madeCells_one (.int .u8 0) c
  rw [e]
theorem sizeB : (Try.prog.info? 5).map (·.size) = some 1 := by kernel_rfl
/-- a lent copy, k of its spare bytes marked -/
def lentL (bs : List UInt8) (k : Nat) : List Value := bs.map bv ++ (List.replicate k (bv 171) ++ List.replicate (4 - k) (bv 0))
theorem lentL_next (bs : List UInt8) (k : Nat) (hk : k < 4) : (lentL bs k).toArray.setIfInBounds (bs.length + k) (bv 171) = (lentL bs (k + 1)).toArray := by
  apply Array.toList_inj.1
  rw [Array.toList_setIfInBounds]
  show (lentL bs k).set _ _ = lentL bs (k + 1)
  unfold lentL
  rw [List.set_append, if_neg (by simp), List.length_map, Nat.add_sub_cancel_left]
  congr 1
  match k, hk with
  | 0, _ => rfl
  | 1, _ => rfl
  | 2, _ => rfl
  | 3, _ => rfl
def Lends (w : World) (bs : List UInt8) (e : Ending) (w' : World) : Prop :=
  ∃ g, e = .returned (.slice (some ⟨g, 0, none⟩) bs.length (bs.length + 4)) ∧ w.heap.size ≤ g ∧ Blk w' g 5 (lentL bs 4).toArray ∧ Below w.heap.size w w'
theorem lent_any (A : Option Addr) (n c : Nat) (bs : List UInt8) (B : Nat) (w : World) (hb : RdB w B A n bs) (hB : B ≤ w.heap.size) (hl : n ≤ 1000000) :
    Calls Try.prog 26 #[.slice A n c] w (Lends w bs) := by
  obtain rfl := hb.1
  have hmk := fun W => run_makeB W bs.length (bs.length + 4) (by omega) (by omega)
  have e4 : ((bs.length + 4 : Nat) : Int) = (bs.length : Int) + 4 := by omega
  rw [e4] at hmk
  clear e4
  have hpos : 0 < (bs.map bv).length → (some ⟨w.heap.size, 0, none⟩ : Option Addr) = some ⟨w.heap.size, 0, none⟩ ∧ ∃ ad, A = some ad ∧ ∀ j v, (bs.map bv)[j]? = some v → (w.alloc (.cells (zerosB (bs.length + 4)).toArray 5)).cell? (ad.add j) = some v := by
    intro hp
    refine ⟨rfl, ?_⟩
    rcases A with _ | ad
    · obtain ⟨_, h, _⟩ := hb.2 0 _ (List.getElem?_eq_getElem hp)
      cases h
    · refine ⟨ad, rfl, fun j u hu => ?_⟩
      obtain ⟨_, h, h1, h2⟩ := hb.2 j u hu
      injection h with h
      subst h
      rw [World.cell?_alloc_lt _ _ _ (by rw [block_add]; omega)]
      exact h2
  have HP := Lib.hid hpos
  clear hpos
  go_enter Try.func26, Try.ntmps26
  go_wp2_with (with_reducible refine wpList_copy_splice rfl (.tmp 12) (.tmp 13) _ _ rfl 5 Try.underlying37 sizeB _ _ _ _ _ _ rfl rfl w.heap.size 0 (zerosB (bs.length + 4)) 5 (heap_alloc_new w _) (bs.map bv) (by simp) HP.out (by simp [zerosB]) (bv_one _) w.heap.size w ((Below.refl _ _).alloc (Nat.le_refl _) _) (Nat.le_refl _) ?_)
  intro w1 hw1 hbl1
  have hb0 : Blk w1 w.heap.size 5 (lentL bs 0).toArray := by
    have h := hw1.out
    have e : splice (zerosB (bs.length + 4)) 0 (bs.map bv) = lentL bs 0 := by
      simp [splice, zerosB, lentL]
    rw [e] at h
    exact h
  clear hw1
  go_wp2_with fail
  go_loopw [23] (fun i wr => ∃ k : Nat, k ≤ 4 ∧ i = .int .i64 k ∧ Blk wr w.heap.size 5 (lentL bs k).toArray ∧ Below w.heap.size w wr) (fun i _ => 4 - (intOf i).toNat)
  case atStart => exact ⟨0, by omega, rfl, hb0, hbl1⟩
  case round =>
    obtain ⟨k, hk, rfl, hbk, hbel⟩ := hrel
    by_cases hlt : k < 4
    · have hf := hbk.free (bs.length + k)
      have hc : ∃ u, wr.cell? ⟨w.heap.size, bs.length + k, none⟩ = some u := by
        rw [hbk.cell]
        exact ⟨_, Array.getElem?_eq_getElem (by simp [lentL]; omega)⟩
      obtain ⟨u, hc⟩ := hc
      have hn := hbk.set_ (bs.length + k) (bv 171)
      rw [lentL_next bs k hlt] at hn
      have HN := Lib.hid hn
      clear hn
      go_wp2_with fail
      go_roundw
      case rel => exact ⟨k + 1, by omega, by go_num, HN.out, hbel.setCell (Nat.le_refl _) _⟩
      case measure => simp [intOf]; omega
    · obtain rfl : k = 4 := by omega
      go_wp2_with fail
      go_ret
      exact ⟨_, rfl, Nat.le_refl _, hbk, hbel⟩

theorem lent_rd {w : World} {g : Nat} {bs : List UInt8} {k : Nat} (h1 : Blk w g 5 (lentL bs k).toArray) : RdB w w.heap.size (some ⟨g, 0, none⟩) bs.length bs := ⟨rfl, fun j u hu => ⟨_, rfl, h1.lt, by
    rw [add_mk, Nat.zero_add, h1.cell]
    have hj : j < (bs.map bv).length := by
      false_or_by_contra
      rw [List.getElem?_eq_none (by omega)] at hu; cases hu
    show (lentL bs k).toArray[j]? = _
    rw [List.getElem?_toArray]
    show (bs.map bv ++ _)[j]? = _
    rw [List.getElem?_append_left hj, hu]⟩⟩
theorem u8_next (z : UInt8) : IntKind.u8.wrap ((z.toNat : Int) + 1) = ((UInt8.ofNat (z.toNat + 1)).toNat : Int) := u8_byte (z.toNat + 1)
/-- A lent copy that is as it was. -/
theorem kept_any (g : Nat) (A : Option Addr) (n c : Nat) (bs : List UInt8) (B : Nat) (w : World) (h1 : Blk w g 5 (lentL bs 4).toArray) (hb : RdB w B A n bs) (hl : n ≤ 1000000) :
    Calls Try.prog 31 #[.slice (some ⟨g, 0, none⟩) bs.length (bs.length + 4), .slice A n c] w fun e w' => e = .returned (.bool true) ∧ ∃ m, w' = w.drewN m := by
  obtain rfl := hb.1
  have hr := lent_rd h1
  go_enter Try.func31, Try.ntmps31
  go_wp2_with fail
  refine (same_eq _ _ _ _ _ _ _ _ _ _ hr hb (by omega)).mono ?_
  rintro e w' ⟨rfl, m0, rfl⟩
  have hc : ∀ i, i < 4 → (w.drewN m0).cell? ⟨g, bs.length + i, none⟩ = some (bv 171) := by
    intro i hi
    show w.cell? _ = _
    rw [h1.cell]
    show (lentL bs 4).toArray[bs.length + i]? = _
    rw [List.getElem?_toArray]
    show (bs.map bv ++ _)[bs.length + i]? = _
    rw [List.getElem?_append_right (by simp), List.length_map, Nat.add_sub_cancel_left]
    match i, hi with
    | 0, _ => rfl
    | 1, _ => rfl
    | 2, _ => rfl
    | 3, _ => rfl
  go_wp2_with fail
  go_loop [19] (fun i => ∃ k : Nat, k ≤ 4 ∧ i = .int .i64 k) (fun i => 4 - (intOf i).toNat)
  case atStart => exact ⟨0, by omega, rfl⟩
  case round =>
    obtain ⟨k, hk, rfl⟩ := hrel
    by_cases hlt : k < 4
    · have hck := hc k hlt
      clear hc
      have hd4 : decide ((k : Int) < 4) = true := decide_eq_true (by omega)
      go_wp2_with fail
      go_round
      case rel => exact ⟨k + 1, by omega, by go_num⟩
      case measure => simp [intOf]; omega
    · clear hc
      go_wp2_with fail
      go_ret
      exact ⟨rfl, _, rfl⟩
end Go.Proofs.Ytiemlnomlfebkaa

/- The walks of the document's Put and PutAll. -/
namespace Go.Proofs.Ytiemlnomlfebkaa
open Go.RowKit
open Dot Evt
theorem encs_take (l : List Int) {k : Nat} (h : k < l.length) : encs ((l.take (k + 1)).map Int.toNat) = encs ((l.take k).map Int.toNat) ++ Vint.enc (l[k]).toNat := by
  rw [take_snoc l h, List.map_append, encs_app]
  simp [encs]
set_option maxRecDepth 100000 in
set_option maxHeartbeats 2000000 in
theorem rput07_any (x : Ev) (hp : x.p.length = 7) (A : Option Addr) (m c : Nat) (w : World) (hl : RdD w w.heap.size A m x.l) (hmb : m ≤ 10000000000000) :
    Calls Try.prog 22 #[.agg (ec x (.slice A m c))] w (GiveBE w (putE x).1 (putE x).2) := by
  obtain ⟨cs, hcs⟩ : ∃ cs, cs = ec x (.slice A m c) := ⟨_, rfl⟩
  have hright := fun (w' : World) (h : Below w.heap.size w w') => eright07_any x hp A m c w' (hl.below h).size (by omega)
  have hnums := fun (w' : World) (h : Below w.heap.size w w') (h96 : m ≤ 96) => rnums_any x hp A m c w' (hl.below h).size h96
  have hcz : cs.size = 14 := by rw [hcs]; rfl
  rw [← hcs] at hright hnums ⊢
  have HRT := Lib.hid hright
  have HNU := Lib.hid hnums
  have HCZ := Lib.hid hcz
  have HM := Lib.hid hl.1
  have HP := Lib.hid hp
  clear hright hnums hcz hcs hl hp
  go_enter Try.func22, Try.ntmps22
  go_upto_region 1 with fail
  refine nameW ?_
  intro wv hwv
  obtain ⟨b, hb⟩ : ∃ b, b = w.heap.size := ⟨_, rfl⟩
  rw [← hb]
  have kb : Blk wv b 28 cs := by rw [hwv, hb]; exact Blk.new _ _ _
  have gb : Below w.heap.size w wv := by rw [hwv]; exact (Below.refl _ _).alloc (Nat.le_refl _) _
  have HB := Lib.hid hb
  clear hwv hb
  have hr := HRT.out wv gb
  cases hx : rightE x
  case false =>
    rw [hx] at hr
    have he : putE x = ([], 2) := by unfold putE; rw [hx]; rfl
    have HE := Lib.hid he
    have HR := Lib.hid hr
    clear hr hx he
    go_wp2_with first
      | ((with_reducible refine wpList_ld rowE kb HCZ.out ?_ ?_); rotate_left; (rfl))
    refine HR.out.mono ?_
    rintro e w1 ⟨rfl, b1⟩
    go_wp2_with fail
    go_ret2
    exact ⟨none, 0, 0, by rw [HE.out]; rfl, by rw [HE.out]; exact OwnB.nil _ _, gb.trans (b1.mono gb.size)⟩
  case true =>
    rw [hx] at hr
    have he : putE x = (encE x, 0) := by unfold putE; rw [hx]; rfl
    have HE := Lib.hid he
    have hf := right_facts HP.out hx
    have hbd := numsE_bd HP.out hx
    have hlen := numsE_len x HP.out
    have h96 : m ≤ 96 := by rw [HM.out]; exact hf.2.2.1
    have HNL := Lib.hid (show (numsE x).length ≤ 205 by have := hf.2.2.1; omega)
    have hEE : encE x = encs ((numsE x).map Int.toNat) := rfl
    obtain ⟨L, hL⟩ : ∃ L, L = numsE x := ⟨_, rfl⟩
    have hnu := fun w' h => HNU.out w' h h96
    rw [← hL] at hbd HNL hnu
    rw [← hL] at hEE
    have HEE := Lib.hid hEE
    have HR := Lib.hid hr
    have HBD := Lib.hid hbd
    have HN2 := Lib.hid hnu
    clear hr hx he hf hbd hlen h96 hEE hL HNU hnu
    go_wp2_with first
      | ((with_reducible refine wpList_ld rowE kb HCZ.out ?_ ?_); rotate_left; (rfl))
    refine HR.out.mono ?_
    rintro e w1 ⟨rfl, b1⟩
    have kb1 := kb.below b1 kb.lt
    have gb1 := gb.trans (b1.mono gb.size)
    clear HR kb gb b1
    go_wp2_with first
      | ((with_reducible refine wpList_ld rowE kb1 HCZ.out ?_ ?_); rotate_left; (rfl))
    refine (HN2.out w1 gb1).mono ?_
    rintro e w2 ⟨A2, n2, c2, rfl, ho, b2⟩
    have gb2 := gb1.trans (b2.mono gb1.size)
    have hrd := ho.rd
    have HN := Lib.hid ho.1
    clear HN2 gb1 b2 ho kb1
    go_wp2_with fail
    go_loopw [4, 13] (fun s i wr => ∃ (j : Nat) (A' : Option Addr) (n' c' : Nat), j ≤ n2 ∧ i = .int .i64 j ∧ s = .slice A' n' c' ∧ OwnB wr w.heap.size A' n' c' (encs ((L.take j).map Int.toNat)) ∧ Below w2.heap.size w2 wr) (fun _ i _ => n2 - (intOf i).toNat)
    case atStart => exact ⟨0, none, 0, 0, by omega, rfl, rfl, by simpa [encs] using OwnB.nil w2 w.heap.size, Below.refl _ _⟩
    case round =>
      obtain ⟨j, A', n', c', hj, rfl, rfl, ho, gb⟩ := hrel
      by_cases hlt : j < n2
      · have hjl : j < L.length := by rw [← HN.out]; exact hlt
        obtain ⟨ad, hA, hab, hc⟩ := (hrd.below gb).at_ hjl
        have hst := encs_take L hjl
        have hz := HBD.out _ (List.getElem_mem hjl)
        generalize L[j] = z at *
        obtain ⟨z, rfl⟩ := Int.eq_ofNat_of_zero_le hz.1
        have HZ := Lib.hid (show z ≤ 1099511627776 by have := hz.2; unfold top at this; omega)
        rw [Int.toNat_natCast] at hst
        have HST := Lib.hid hst
        have hln := encs_len ((L.take j).map Int.toNat)
        rw [List.length_map, List.length_take] at hln
        have HLN := Lib.hid (show n' ≤ 140737488355000 by rw [ho.1]; have := HNL.out; omega)
        have hj0 : (0 : Int) ≤ (j : Int) := by omega
        have hjm : (j : Int) < (n2 : Int) := by omega
        have hc' : wr.cell? (ad.add j) = some (.int .i64 (z : Int)) := hc
        subst hA
        have HO := Lib.hid ho
        have HRP := Lib.hid (rput_ok A' n' c' _ z wr.heap.size wr ho.rd (Nat.le_refl _) HLN.out HZ.out)
        clear hz hst hln hc ho
        go_wp2_with fail
        refine HRP.out.mono ?_
        rintro e w3 ⟨A3, n3, c3, rfl, o3, b3⟩
        have gb3 := gb.trans (b3.mono gb.size)
        go_wp2_with fail
        go_roundw
        case rel => exact ⟨j + 1, A3, n3, c3, by omega, num_succ j (by have := HN.out; have := HNL.out; omega), rfl, by rw [HST.out]; exact o3.mono (by have := gb.size; have := gb2.size; omega), gb3⟩
        case measure => exact meas_succ j n2 hlt (by have := HN.out; have := HNL.out; omega)
      · rw [List.take_of_length_le (by rw [← HN.out]; omega)] at ho
        have HO := Lib.hid ho
        have hkd : decide ((j : Int) < (n2 : Int)) = false := decide_eq_false (by omega)
        clear ho
        go_wp2_with fail
        go_ret2
        exact ⟨A', n', c', by rw [HE.out]; rfl, by rw [HE.out, HEE.out]; exact HO.out, gb2.trans (gb.mono gb2.size)⟩
set_option maxRecDepth 100000 in
set_option maxHeartbeats 2000000 in
theorem rputAll07_any (A : Option Addr) (n c : Nat) (xs : List EvV) (w : World) (hn : n ≤ 10000000000000) (hR : RowEv w w.heap.size A n xs) :
    Calls Try.prog 19 #[.slice A n c] w (GiveBE w (putAllE xs).1 (putAllE xs).2) := by
  have HN := Lib.hid hR.1
  have HRK := Lib.hid fun (w' : World) (hb : Below w.heap.size w w') => hR.below hb
  have HNB := Lib.hid hn
  clear hR
  obtain ⟨B, hB⟩ : ∃ B, B = w.heap.size := ⟨_, rfl⟩
  have HB := Lib.hid hB
  rw [← hB] at HRK
  clear hB
  by_cases hbig : 768 < n
  · have hd : decide ((768 : Int) < (n : Int)) = true := decide_eq_true (by omega)
    have he : putAllE xs = ([], 6) := by unfold putAllE; rw [if_pos (by rw [← HN.out]; exact hbig)]
    have HE := Lib.hid he
    clear hbig he
    go_enter Try.func19, Try.ntmps19
    go_wp2_with fail
    go_ret2
    exact ⟨none, 0, 0, by rw [HE.out]; rfl, by rw [HE.out]; exact OwnB.nil _ _, Below.refl _ _⟩
  have hd : decide ((768 : Int) < (n : Int)) = false := decide_eq_false (by omega)
  have H768 := Lib.hid (show n ≤ 768 by omega)
  have HP := Lib.hid (rput_ok none 0 0 [] n w.heap.size w (RdB.nil _ _ _) (Nat.le_refl _) (by omega) (by omega))
  clear hbig
  go_enter Try.func19, Try.ntmps19
  go_wp2_with fail
  refine HP.out.mono ?_
  rintro e w1 ⟨A1, n1, c1, rfl, o1, b1⟩
  rw [← HB.out] at o1 b1
  clear hd HP
  go_wp2_with fail
  go_loopw [4, 21] (fun s i wr => ∃ (k : Nat) (A' : Option Addr) (n' c' : Nat), k ≤ n ∧ i = .int .i64 k ∧ s = .slice A' n' c' ∧ (∀ j x, j < k → xs[j]? = some x → rightE x.e = true) ∧ OwnB wr B A' n' c' (Vint.enc n ++ (xs.take k).flatMap fun x => encE x.e) ∧ Below B w wr) (fun _ i _ => n - (intOf i).toNat)
  case atStart => exact ⟨0, A1, n1, c1, by omega, rfl, rfl, fun j x hj => by omega, by simpa using o1, b1⟩
  case round =>
    clear o1 b1
    obtain ⟨k, A', n', c', hk, rfl, rfl, hall, ho, gb⟩ := hrel
    have HA := Lib.hid hall
    clear hall
    have hgs : B ≤ wr.heap.size := by have := gb.size; have := HB.out; omega
    by_cases hlt : k < n
    · have hkl : k < xs.length := by rw [← HN.out]; exact hlt
      obtain ⟨hok, ad, hA, hab, hcell⟩ := (HRK.out wr gb).2 k _ (List.getElem?_eq_getElem hkl)
      have hsn := take_snoc xs hkl
      have hkg := List.getElem?_eq_getElem hkl
      generalize xs[k] = x at *
      have hpr : ∀ y ∈ xs.take k, y.e.p.length = 7 ∧ rightE y.e = true := fun y hy => by
        obtain ⟨i, hi, rfl⟩ := List.getElem_of_mem hy
        rw [List.length_take] at hi
        have e1 : xs[i]? = some (xs.take k)[i] := by rw [List.getElem_take, List.getElem?_eq_getElem]
        exact ⟨((HRK.out wr gb).2 i _ e1).1.1, HA.out i _ (by omega) e1⟩
      have hlen := encAll_len _ hpr
      rw [List.length_take] at hlen
      have hl6 := enc_len6 n
      have HLL := Lib.hid (show n' ≤ 140737488350000 by rw [ho.1, List.length_append]; have := H768.out; omega)
      subst hA
      obtain ⟨cs, hcs⟩ : ∃ cs, cs = x.cs := ⟨_, rfl⟩
      have hec : ec x.e (.slice x.A x.m x.c) = cs := hcs.symm
      rw [← hcs] at hcell
      have HSZ := Lib.hid (show cs.size = 14 by rw [hcs]; rfl)
      have H1C := Lib.hid (show cs.all (·.oneCell') = true by rw [hcs]; exact x.one)
      have HC := Lib.hid hcell
      have HOK := Lib.hid hok
      have HSN := Lib.hid hsn
      have HKG := Lib.hid hkg
      have HEC := Lib.hid hec
      have hk0 : (0 : Int) ≤ (k : Int) := by omega
      have hkm : (k : Int) < (n : Int) := by omega
      clear hcs hec hcell hok hsn hkg hlen hl6 hpr
      go_upto_region 6 with fail
      go_upto_region 7 with first
        | ((with_reducible refine wpList_lda rowE HC.out HSZ.out ?_ ?_); rotate_left; (rfl))
        | ((with_reducible refine wpList_st rowE (Blk.new _ _ _) HSZ.out ?_ H1C.out ?_ ?_ ?_); (rfl); rotate_left; (rfl); (rfl); intro w6 k6 g6 z6)
      have bA : Below wr.heap.size wr w6 := (((Below.refl _ _).alloc (Nat.le_refl _) _).grown g6 (by simp) (fun q hq => by injection hq with hq; omega))
      have gb6 := gb.trans (bA.mono hgs)
      have o6 := ho.below bA (Nat.le_refl _)
      have hok6 := HOK.out.below (bA.mono hgs)
      obtain ⟨gr, hgr2⟩ : ∃ gr, gr = wr.heap.size := ⟨_, rfl⟩
      rw [← hgr2] at k6 ⊢
      have hs6 : B ≤ w6.heap.size := by have := gb6.size; have := HB.out; omega
      have hrp := rput07_any x.e hok6.1 x.A x.m x.c w6 (hok6.more hs6).2.1 (hok6.2.2)
      rw [HEC.out] at hrp
      have HRP := Lib.hid hrp
      clear hgr2 g6 z6 bA gb ho hok6 hrp
      go_wp2_with first
        | ((with_reducible refine wpList_ld rowE k6 HSZ.out ?_ ?_); rotate_left; (rfl))
      refine HRP.out.mono ?_
      rintro e w7 ⟨A7, n7, c7, rfl, o7, b7⟩
      have gb7 := gb6.trans (b7.mono hs6)
      have o67 := o6.below b7 (Nat.le_refl _)
      cases hx : rightE x.e
      case false =>
        have he : putAllE xs = ([], 2) := by
          unfold putAllE
          rw [if_neg (by rw [← HN.out]; have := H768.out; omega), if_neg]
          intro h
          have := List.all_eq_true.1 h x (List.mem_of_getElem? HKG.out)
          rw [hx] at this
          cases this
        have he2 : (putE x.e).2 = 2 := by unfold putE; rw [hx]; rfl
        have HE := Lib.hid he
        rw [he2]
        clear he hx he2 o7 b7
        go_wp2_with fail
        go_ret2
        exact ⟨none, 0, 0, by rw [HE.out]; rfl, by rw [HE.out]; exact OwnB.nil _ _, by rw [← HB.out]; exact gb7⟩
      case true =>
        have he2 : putE x.e = (encE x.e, 0) := by unfold putE; rw [hx]; rfl
        rw [he2] at o7 ⊢
        have hle := encE_len HOK.out.1 hx
        have HO7 := Lib.hid (show RdB w7 w7.heap.size A7 n7 (encE x.e) from o7.rd)
        have H7 := Lib.hid (show n7 ≤ 1230 by rw [o7.1]; exact hle)
        have HX := Lib.hid hx
        have hs7 : B ≤ w7.heap.size := by have := gb7.size; have := HB.out; omega
        clear hx he2 hle o7 b7
        go_wp2_with (at_builtin; refine wpList_appB rfl (.tmp 33) (.tmp 34) rfl rfl o67 rfl HO7.out ?he1 ?he2 ?_)
        case he1 => have := HLL.out; have := H7.out; omega
        case he2 => exact hs7
        intro A8 c8 w8 o8 g8 m8 b8
        have gb8 := gb7.trans b8
        clear g8 m8 b8
        go_wp2_with fail
        go_roundw
        case rel => exact ⟨k + 1, A8, _, c8, by omega, by go_num, rfl, fun j y hj hy => by
          by_cases e : j = k
          · subst e; rw [HKG.out] at hy; injection hy with hy; rw [← hy]; exact HX.out
          · exact HA.out j y (by omega) hy, by rw [HSN.out, List.flatMap_append]; simpa using o8, gb8⟩
        case measure => simp [intOf]; omega
    · have he : putAllE xs = (Vint.enc n ++ xs.flatMap fun x => encE x.e, 0) := by
        unfold putAllE
        rw [if_neg (by rw [← HN.out]; have := H768.out; omega), if_pos, ← HN.out]
        rw [List.all_eq_true]
        intro x hx
        obtain ⟨i, hi, rfl⟩ := List.getElem_of_mem hx
        exact HA.out i _ (by have := HN.out; omega) (List.getElem?_eq_getElem hi)
      have HE := Lib.hid he
      rw [List.take_of_length_le (by rw [← HN.out]; omega)] at ho
      have hkd : decide ((k : Int) < (n : Int)) = false := decide_eq_false (by omega)
      have HO := Lib.hid ho
      clear he ho
      go_wp2_with fail
      go_ret2
      exact ⟨A', n', c', by rw [HE.out]; rfl, by rw [HE.out, ← HB.out]; exact HO.out, by rw [← HB.out]; exact gb⟩
end Go.Proofs.Ytiemlnomlfebkaa

namespace Go.Proofs.Ytiemlnomlfebkaa.EventPuts
open Go.ChangeShapes Go.WideShapes Go.ChangeAt Go.RowKit Go.Deep
open Dot Evt
set_option linter.unusedVariables false
set_option linter.unusedSimpArgs false
theorem putAll_map {xs ys : List EvV} (h : ys.map (·.e) = xs.map (·.e)) : putAllE ys = putAllE xs := by
  have hl : ys.length = xs.length := by have := congrArg List.length h; simpa using this
  have ha : ys.all (fun x => rightE x.e) = xs.all (fun x => rightE x.e) := by
    have := congrArg (fun l : List Ev => l.all rightE) h
    simpa [List.all_map, Function.comp_def] using this
  have hf : ys.flatMap (fun x => encE x.e) = xs.flatMap (fun x => encE x.e) := by
    have := congrArg (fun l : List Ev => l.flatMap encE) h
    simpa [List.flatMap_map] using this
  unfold putAllE
  rw [hl, ha, hf]
theorem evSum_len (xs : List EvV) : xs.length ≤ evSum xs := by
  unfold evSum
  induction xs with
  | nil => simp
  | cons x l ih => simp at ih ⊢; omega
theorem evSum_mem (xs : List EvV) : ∀ x ∈ xs, x.m ≤ evSum xs := by
  unfold evSum
  induction xs with
  | nil => simp
  | cons y l ih =>
    intro x hx
    simp only [List.map_cons, List.sum_cons]
    rcases List.mem_cons.1 hx with rfl | h
    · omega
    · have := ih x h; omega
theorem putE_len {x : Ev} (hp : x.p.length = 7) : (putE x).1.length ≤ 1230 := by
  unfold putE
  cases hx : rightE x
  · simp
  · simpa using encE_len hp hx
theorem putAllE_len (xs : List EvV) (hp : ∀ x ∈ xs, x.e.p.length = 7) : (putAllE xs).1.length ≤ 1000000 := by
  unfold putAllE
  by_cases h1 : 768 < xs.length
  · rw [if_pos h1]; simp
  · rw [if_neg h1]
    by_cases h2 : xs.all (fun x => rightE x.e) = true
    · rw [if_pos h2]
      have h3 := encAll_len xs fun x hx => ⟨hp x hx, List.all_eq_true.1 h2 x hx⟩
      have h4 := enc_len6 xs.length
      simp only [List.length_append]
      omega
    · rw [if_neg h2]; simp
set_option maxRecDepth 100000 in
set_option maxHeartbeats 4000000 in
theorem walk (A : Option Addr) (n c : Nat) (xs : List EvV) (w : World) (hR : RowEv w w.heap.size A n xs) (hn : n ≤ 10000000000000) :
    Calls Try.prog 5 #[.slice A n c] w fun e w' => e = .returned (.bool true) ∧ Below w.heap.size w w' := by
  have HR := Lib.hid fun (w' : World) (h : Below w.heap.size w w') => hR.below h
  have HN := Lib.hid hR.1
  have HP7 := Lib.hid (show ∀ x ∈ xs, x.e.p.length = 7 from fun x hx => by
    obtain ⟨i, hi⟩ := List.getElem?_of_mem hx
    exact (hR.2 i x hi).1.1)
  have HNB := Lib.hid hn
  clear hR hn
  go_enter Try.func5, Try.ntmps5
  go_wp2_with fail
  refine (alive07 w).mono ?_
  rintro e w1 ⟨rfl, b1⟩
  go_wp2_with fail
  refine (egreat_any A n c xs w.heap.size w1 (by have := HNB.out; omega) (HR.out w1 b1) b1.size).mono ?_
  rintro e w2 ⟨⟨G, rfl, hG⟩, b2'⟩
  have b2 := b1.trans (b2'.mono b1.size)
  clear b1 b2'
  cases G
  case true =>
    go_wp2_with fail
    go_ret
    exact ⟨rfl, b2⟩
  case false =>
    have hsum := hG rfl
    have h3000 : n ≤ 3000 := by have := evSum_len xs; have := HN.out; omega
    have hms : ∀ x ∈ xs, x.m ≤ 3000 := fun x hx => Nat.le_trans (evSum_mem xs x hx) hsum
    have HMS := Lib.hid hms
    have H3 := Lib.hid h3000
    clear hG hsum hms h3000
    go_wp2_with fail
    refine (rcopies07_any A n c xs w2 (by have := H3.out; omega) ((HR.out w2 b2).more b2.size) (fun x hx => by have := HMS.out x hx; omega)).mono ?_
    rintro e w3 ⟨A3, c3, ys, rfl, o3, hys, hmp, b3'⟩
    have b3 := b2.trans (b3'.mono b2.size)
    have hry : RowEv w3 w3.heap.size A3 n ys := o3.row fun y hy => (hys y hy).ok
    have hrx : RowEv w3 w3.heap.size A n xs := (HR.out w3 b3).more b3.size
    have hpy : ∀ y ∈ ys, y.e.p.length = 7 := fun y hy => (hys y hy).1
    have hym : ∀ y ∈ ys, y.m ≤ 3000 := fun y hy => by
      obtain ⟨i, hi, rfl⟩ := List.getElem_of_mem hy
      have h := congrArg (fun l => l[i]?) hmp
      simp only [List.getElem?_map, List.getElem?_eq_getElem hi, Option.map_some] at h
      cases hxi : xs[i]? with
      | none => rw [hxi] at h; cases h
      | some x =>
        rw [hxi] at h
        injection h with h
        have h1 := (hys _ hy).2.1.1
        have h2 := (hrx.2 i x hxi).1.2.1.1
        have h3 := HMS.out x (List.mem_of_getElem? hxi)
        rw [h1, h, ← h2]
        exact h3
    have HRY := Lib.hid fun (w' : World) (h : Below w3.heap.size w3 w') => hry.below h
    have HRX := Lib.hid fun (w' : World) (h : Below w3.heap.size w3 w') => hrx.below h
    have HPM := Lib.hid (putAll_map hmp)
    have HMP := Lib.hid hmp
    have HYM := Lib.hid hym
    have HPY := Lib.hid hpy
    clear b2 b3' o3 hys hmp hry hrx hym hpy HR
    go_wp2_with fail
    refine (eputAll_any A3 n c3 ys w3 (by have := H3.out; omega) (HRY.out w3 (Below.refl _ _))).mono ?_
    rintro e w4 ⟨A4, n4, c4, rfl, o4, b4⟩
    go_wp2_with fail
    refine (rputAll07_any A n c xs w4 (by have := H3.out; omega) ((HRX.out w4 b4).more b4.size)).mono ?_
    rintro e w5 ⟨A5, n5, c5, rfl, o5, b5'⟩
    have b5 := b4.trans (b5'.mono b4.size)
    have r4 : RdB w5 w4.heap.size A4 n4 (putAllE xs).1 := by
      rw [← HPM.out]
      exact o4.rd.below b5'
    have r5 := o5.rd
    have hl4 : n4 ≤ 1000000 := by rw [o4.1]; exact putAllE_len ys HPY.out
    have HSE := Lib.hid (same_eq A4 A5 n4 c4 n5 c5 (putAllE xs).1 w4.heap.size w5.heap.size w5 r4 r5 (by omega))
    rw [HPM.out]
    obtain ⟨E, hE⟩ : ∃ E, E = (putAllE xs).2 := ⟨_, rfl⟩
    rw [← hE]
    have hEE : ((E : Int) != (E : Int)) = false := by simp
    clear b4 b5' o4 o5 r4 r5 hl4 hE
    go_wp2_with fail
    refine HSE.out.mono ?_
    rintro e w6' ⟨rfl, m6, rfl⟩
    obtain ⟨w6, hw6⟩ : ∃ w6, w6 = w5.drewN m6 := ⟨_, rfl⟩
    rw [← hw6]
    have b6 : Below w3.heap.size w3 w6 := by rw [hw6]; exact below_drewN b5 m6
    clear hw6 HSE b5
    go_wp2_with fail
    go_loopw [41] (fun i wr => ∃ k : Nat, k ≤ n ∧ i = .int .i64 k ∧ Below w3.heap.size w3 wr) (fun i _ => n - (intOf i).toNat)
    case atStart => exact ⟨0, by omega, rfl, b6⟩
    case round =>
      clear b6
      obtain ⟨k, hk, rfl, gb⟩ := hrel
      by_cases hlt : k < n
      · have hky : k < ys.length := by have := (HRY.out wr gb).1; omega
        have hkx : k < xs.length := by have := (HRX.out wr gb).1; omega
        have hY := (HRY.out wr gb).2 k _ (List.getElem?_eq_getElem hky)
        have hX := (HRX.out wr gb).2 k _ (List.getElem?_eq_getElem hkx)
        have hee : ys[k].e = xs[k].e := by
          have h := congrArg (fun l => l[k]?) HMP.out
          simp only [List.getElem?_map, List.getElem?_eq_getElem hkx, List.getElem?_eq_getElem hky, Option.map_some] at h
          injection h
        generalize xs[k] = x at *
        generalize ys[k] = y at *
        obtain ⟨oky, ady, hAy, hby, hcy⟩ := hY
        obtain ⟨okx, adx, hAx, hbx, hcx⟩ := hX
        subst hAy hAx
        obtain ⟨cx, hqx⟩ : ∃ cx, cx = x.cs := ⟨_, rfl⟩
        obtain ⟨cy, hqy⟩ : ∃ cy, cy = y.cs := ⟨_, rfl⟩
        have hex : ec x.e (.slice x.A x.m x.c) = cx := hqx.symm
        have hey : ec y.e (.slice y.A y.m y.c) = cy := hqy.symm
        have SX := Lib.hid (show cx.size = 14 by rw [hqx]; rfl)
        have SY := Lib.hid (show cy.size = 14 by rw [hqy]; rfl)
        have OY := Lib.hid (show cy.all (·.oneCell') = true by rw [hqy]; exact y.one)
        rw [← hqy] at hcy
        rw [← hqx] at hcx
        have HCY := Lib.hid hcy
        have HCX := Lib.hid hcx
        have HEX := Lib.hid hex
        have HEY := Lib.hid hey
        have HEE := Lib.hid hee
        have HOX := Lib.hid okx
        have HOY := Lib.hid oky
        have hbx' : adx.block < wr.heap.size := by have := gb.size; omega
        have HBX := Lib.hid hbx'
        have hk0 : (0 : Int) ≤ (k : Int) := by omega
        have hkm : (k : Int) < (n : Int) := by omega
        clear hqx hqy hex hey hcx hcy okx oky hbx hby hbx' hee
        go_upto_region 12 with fail
        go_upto_region 13 with first
          | ((with_reducible refine wpList_lda rowE HCY.out SY.out ?_ ?_); rotate_left; (rfl))
          | ((with_reducible refine wpList_st rowE (Blk.new _ _ _) SY.out ?_ OY.out ?_ ?_ ?_); (rfl); rotate_left; (rfl); (rfl); intro w6 k6 g6 z6)
        have bA : Below wr.heap.size wr w6 := (((Below.refl _ _).alloc (Nat.le_refl _) _).grown g6 (by simp) (fun q hq => by injection hq with hq; omega))
        have gb6 := gb.trans (bA.mono gb.size)
        obtain ⟨gr, hgr2⟩ : ∃ gr, gr = wr.heap.size := ⟨_, rfl⟩
        rw [← hgr2] at k6 ⊢
        have hcx6 := fun (w' : World) (h : Below w6.heap.size w6 w') => fun (j : Nat) (v : Value) (hv : cx[j]? = some v) => ((bA.trans (h.mono bA.size)).cell (p := (adx.add (k * 14)).add j) (by rw [block_add, block_add]; exact HBX.out)).trans (HCX.out j v hv)
        have HCX6 := Lib.hid hcx6
        have hpy6 := eput_any y.e HOY.out.1 y.A y.m y.c w6 ((HOY.out.2.1.below (bA.mono gb.size)).more gb6.size)
        have hrx6 := fun (w' : World) (h : Below w6.heap.size w6 w') => rput07_any x.e HOX.out.1 x.A x.m x.c w' (((HOX.out.2.1.below (bA.mono gb.size)).below (h.mono gb6.size)).more (by have := gb6.size; have := h.size; omega)) HOX.out.2.2
        rw [HEY.out] at hpy6
        rw [HEX.out] at hrx6
        have HPY6 := Lib.hid hpy6
        have HRX6 := Lib.hid hrx6
        clear hcx6 hpy6 hrx6 hgr2 g6 z6 bA
        go_wp2_with first
          | ((with_reducible refine wpList_ld rowE k6 SY.out ?_ ?_); rotate_left; (rfl))
        refine HPY6.out.mono ?_
        rintro e w7 ⟨A7, n7, c7, rfl, o7, b7⟩
        have HCX7 := Lib.hid (HCX6.out w7 b7)
        go_wp2_with first
          | ((with_reducible refine wpList_lda rowE HCX7.out SX.out ?_ ?_); rotate_left; (rfl))
        refine (HRX6.out w7 b7).mono ?_
        rintro e w8 ⟨A8, n8, c8, rfl, o8, b8⟩
        rw [HEE.out] at o7 ⊢
        have r7 : RdB w8 w7.heap.size A7 n7 (putE x.e).1 := o7.rd.below b8
        have r8 := o8.rd
        have hl7 : n7 ≤ 1230 := by rw [o7.1]; exact putE_len HOX.out.1
        have HSE := Lib.hid (same_eq A7 A8 n7 c7 n8 c8 (putE x.e).1 w7.heap.size w8.heap.size w8 r7 r8 (by omega))
        obtain ⟨E2, hE2⟩ : ∃ E2, E2 = (putE x.e).2 := ⟨_, rfl⟩
        rw [← hE2]
        have hEE2 : ((E2 : Int) != (E2 : Int)) = false := by simp
        have gb8 := gb6.trans ((b7.trans (b8.mono b7.size)).mono gb6.size)
        clear o7 o8 r7 r8 hl7 hE2 b7 b8 HRX6 HPY6 HCX6 HCX7 k6
        go_wp2_with fail
        refine HSE.out.mono ?_
        rintro e w9' ⟨rfl, m9, rfl⟩
        have gb9 := below_drewN gb8 m9
        go_wp2_with fail
        go_roundw
        case rel => exact ⟨k + 1, by omega, num_succ k (by have := H3.out; omega), gb9⟩
        case measure => exact meas_succ k n hlt (by have := H3.out; omega)
      · have hkd : decide ((k : Int) < (n : Int)) = false := decide_eq_false (by omega)
        have HAL := Lib.hid (rall07_eq A3 A n c3 c ys xs wr ((HRY.out wr gb).more gb.size) ((HRX.out wr gb).more gb.size) HMP.out (fun y hy => by have := HYM.out y hy; omega) (by have := H3.out; omega))
        go_wp2_with fail
        refine HAL.out.mono ?_
        rintro e w7 ⟨rfl, b7⟩
        go_wp2_with fail
        go_ret
        exact ⟨rfl, b3.trans ((gb.trans (b7.mono gb.size)).mono b3.size)⟩
set_option maxRecDepth 100000 in
theorem lifted (os : Os) (started : os.Started) (H : Type) (enc : TypeId × Value → H) :
    ReturnsInHanded {} Try.checked os 5 .any (Rows.eventPutsSpec.pre6 enc Try.prog Try.f5 Rows.eventPutsRow.domain false) (Rows.eventPutsSpec.post enc Try.prog Try.f5 false true false false) := by
  refine returnsInHanded_of_change_sized (C := Try.checked) own started (by kernel_rfl) Try.func5
    (ChangeSpec.witness6 (enc := enc) (C := Try.checked) false ⟨#[], #[.slice none 0 0], []⟩ 8 (by kernel_rfl) (by kernel_rfl) (by kernel_rfl) (by kernel_rfl)) ?_
  intro W base args ds gs before hval0 hW hcnd hsz0 _
  have hsz : (DataW.weightsEach Try.prog (Try.f5.params.toList ++ []) (ds ++ gs)).all (· ≤ reachBytes) = true := hsz0
  have hval : ∀ (j : Nat) t v, Try.f5.params[j]? = some t → args[j]? = some v → Value.okWide Try.prog W .any base t v := hval0
  have hW' := hW
  obtain ⟨p, q, hA0, hV, rfl, hfz, hnd⟩ := hW
  have hA : DataW.TrodAll enc Try.prog W 0 (fun _ => true) true Try.f5.params.toList args.toList ds p := hA0
  rw [Try.params5] at hA hval hsz
  obtain ⟨v0, vs0, d0, ds0, p0, q0, hargs, rfl, rfl, h0, r0⟩ := trodAll_cons hA
  obtain ⟨rfl, rfl, rfl⟩ := trodAll_nil r0
  obtain rfl : args = #[v0] := by cases args; simp_all
  obtain ⟨rfl, rfl⟩ := trodVars_none hV
  have lt0 : ∀ x ∈ p0, x.block < W.heap.size := by obtain ⟨m, hm⟩ := h0; exact DataW.trod_lt m _ _ _ hm
  have k0 := h0
  have sz0 : Sz 31 d0 := sz_arg (j := 0) hsz rfl rfl
  obtain ⟨a0, n0, c0, b0, rfl, w0, l0⟩ := open_evsz (hval 0 31 v0 rfl rfl) h0 sz0
  clear hA0 hval0
  refine (walk a0 n0 c0 b0 W w0 l0).mono fun e W' ⟨he, bel⟩ => ?_
  subst he
  exact ⟨_, rfl, _, _, _, [], _, [], hW', trodAll_mk1 (shut_bool Try.underlying4 _), (trodAll_cons_mk (Below.trod laidOut (by kernel_rfl) (of_decide_eq_true (by kernel_rfl)) k0 bel lt0) trodAll_mk0), rfl, bel.frame _, fun h => by cases h⟩

theorem proved : Rows.EventPutsSaid :=
  OpenClaim.holds_of_wide 5 Try.f5 rfl rfl rfl rfl rfl rfl rfl ⟨rfl, rfl, rfl, rfl, rfl⟩ rfl rfl rfl rfl rfl (by kernel_rfl) Try.func5 (by kernel_rfl)
    (of_decide_eq_true (by kernel_rfl)) (by unfold Func.isWrapper; first | (rw [if_pos (by decide +kernel)]; kernel_rfl) | (rw [if_neg (by decide +kernel)]; exact ⟨rfl, rfl⟩))
    (fun os started H enc _ => lifted os started H enc)
#print axioms proved
end Go.Proofs.Ytiemlnomlfebkaa.EventPuts
