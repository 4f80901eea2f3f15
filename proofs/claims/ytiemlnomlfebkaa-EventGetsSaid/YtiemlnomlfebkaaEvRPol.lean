/- The walks of the document's RightPolicy and Later. -/
import Derived.Test.YtiemlnomlfebkaaEvMem
namespace Go.Proofs.Ytiemlnomlfebkaa
set_option linter.unusedVariables false
set_option linter.unusedSimpArgs false
open Go.RowKit
open Dot Evt
set_option maxRecDepth 100000 in
set_option maxHeartbeats 4000000 in
theorem rpol_any (p : List Int) (w : World) : Calls Try.prog 14 #[.agg (pc p)] w fun e w' => e = .returned (.bool (polB p)) ∧ Below w.heap.size w w' := by
  have hbb : Below w.heap.size w (w.alloc (.cells (pc p) 25)) := (Below.refl _ _).alloc (Nat.le_refl _) _
  obtain ⟨R, hR⟩ : ∃ R, R = polB p := ⟨_, rfl⟩
  rw [← hR]
  have hR2 := @polB_iff p
  rw [← hR] at hR2
  clear hR
  unfold pc at hbb ⊢
  generalize p.getD 0 0 = p0, p.getD 1 0 = p1, p.getD 2 0 = p2, p.getD 3 0 = p3, p.getD 4 0 = p4, p.getD 5 0 = p5, p.getD 6 0 = p6 at *
  have HR := Lib.hid hR2
  clear hR2
  by_cases h0 : 0 ≤ p0
  rotate_left
  · have hf : R = false := by
      rw [← Bool.not_eq_true, HR.out]
      omega
    have d0 : decide (0 ≤ p0) = false := decide_eq_false h0
    subst hf
    clear h0
    go_enter Try.func14, Try.ntmps14
    go_wp2_with fail
    go_ret
    exact ⟨rfl, hbb⟩
  have d0 : decide (0 ≤ p0) = true := decide_eq_true h0
  by_cases h1 : p0 ≤ p1
  rotate_left
  · have hf : R = false := by
      rw [← Bool.not_eq_true, HR.out]
      omega
    have d1 : decide (p0 ≤ p1) = false := decide_eq_false h1
    subst hf
    clear h0 h1
    go_enter Try.func14, Try.ntmps14
    go_wp2_with fail
    go_ret
    exact ⟨rfl, hbb⟩
  have d1 : decide (p0 ≤ p1) = true := decide_eq_true h1
  by_cases h2 : p1 ≤ 1000
  rotate_left
  · have hf : R = false := by
      rw [← Bool.not_eq_true, HR.out]
      omega
    have d2 : decide (p1 ≤ 1000) = false := decide_eq_false h2
    subst hf
    clear h0 h1 h2
    go_enter Try.func14, Try.ntmps14
    go_wp2_with fail
    go_ret
    exact ⟨rfl, hbb⟩
  have d2 : decide (p1 ≤ 1000) = true := decide_eq_true h2
  by_cases h3 : 1 ≤ p2
  rotate_left
  · have hf : R = false := by
      rw [← Bool.not_eq_true, HR.out]
      omega
    have d3 : decide (1 ≤ p2) = false := decide_eq_false h3
    subst hf
    clear h0 h1 h2 h3
    go_enter Try.func14, Try.ntmps14
    go_wp2_with fail
    go_ret
    exact ⟨rfl, hbb⟩
  have d3 : decide (1 ≤ p2) = true := decide_eq_true h3
  by_cases h4 : p2 ≤ 1073741824
  rotate_left
  · have hf : R = false := by
      rw [← Bool.not_eq_true, HR.out]
      omega
    have d4 : decide (p2 ≤ 1073741824) = false := decide_eq_false h4
    subst hf
    clear h0 h1 h2 h3 h4
    go_enter Try.func14, Try.ntmps14
    go_wp2_with fail
    go_ret
    exact ⟨rfl, hbb⟩
  have d4 : decide (p2 ≤ 1073741824) = true := decide_eq_true h4
  by_cases h5 : 0 ≤ p3
  rotate_left
  · have hf : R = false := by
      rw [← Bool.not_eq_true, HR.out]
      omega
    have d5 : decide (0 ≤ p3) = false := decide_eq_false h5
    subst hf
    clear h0 h1 h2 h3 h4 h5
    go_enter Try.func14, Try.ntmps14
    go_wp2_with fail
    go_ret
    exact ⟨rfl, hbb⟩
  have d5 : decide (0 ≤ p3) = true := decide_eq_true h5
  by_cases h6 : p3 ≤ 100
  rotate_left
  · have hf : R = false := by
      rw [← Bool.not_eq_true, HR.out]
      omega
    have d6 : decide (p3 ≤ 100) = false := decide_eq_false h6
    subst hf
    clear h0 h1 h2 h3 h4 h5 h6
    go_enter Try.func14, Try.ntmps14
    go_wp2_with fail
    go_ret
    exact ⟨rfl, hbb⟩
  have d6 : decide (p3 ≤ 100) = true := decide_eq_true h6
  by_cases h7 : 1 ≤ p4
  rotate_left
  · have hf : R = false := by
      rw [← Bool.not_eq_true, HR.out]
      omega
    have d7 : decide (1 ≤ p4) = false := decide_eq_false h7
    subst hf
    clear h0 h1 h2 h3 h4 h5 h6 h7
    go_enter Try.func14, Try.ntmps14
    go_wp2_with fail
    go_ret
    exact ⟨rfl, hbb⟩
  have d7 : decide (1 ≤ p4) = true := decide_eq_true h7
  by_cases h8 : p4 ≤ 1000
  rotate_left
  · have hf : R = false := by
      rw [← Bool.not_eq_true, HR.out]
      omega
    have d8 : decide (p4 ≤ 1000) = false := decide_eq_false h8
    subst hf
    clear h0 h1 h2 h3 h4 h5 h6 h7 h8
    go_enter Try.func14, Try.ntmps14
    go_wp2_with fail
    go_ret
    exact ⟨rfl, hbb⟩
  have d8 : decide (p4 ≤ 1000) = true := decide_eq_true h8
  by_cases h9 : 1 ≤ p5
  rotate_left
  · have hf : R = false := by
      rw [← Bool.not_eq_true, HR.out]
      omega
    have d9 : decide (1 ≤ p5) = false := decide_eq_false h9
    subst hf
    clear h0 h1 h2 h3 h4 h5 h6 h7 h8 h9
    go_enter Try.func14, Try.ntmps14
    go_wp2_with fail
    go_ret
    exact ⟨rfl, hbb⟩
  have d9 : decide (1 ≤ p5) = true := decide_eq_true h9
  by_cases h10 : p5 ≤ 1000
  rotate_left
  · have hf : R = false := by
      rw [← Bool.not_eq_true, HR.out]
      omega
    have d10 : decide (p5 ≤ 1000) = false := decide_eq_false h10
    subst hf
    clear h0 h1 h2 h3 h4 h5 h6 h7 h8 h9 h10
    go_enter Try.func14, Try.ntmps14
    go_wp2_with fail
    go_ret
    exact ⟨rfl, hbb⟩
  have d10 : decide (p5 ≤ 1000) = true := decide_eq_true h10
  by_cases h11 : 0 ≤ p6
  rotate_left
  · have hf : R = false := by
      rw [← Bool.not_eq_true, HR.out]
      omega
    have d11 : decide (0 ≤ p6) = false := decide_eq_false h11
    subst hf
    clear h0 h1 h2 h3 h4 h5 h6 h7 h8 h9 h10 h11
    go_enter Try.func14, Try.ntmps14
    go_wp2_with fail
    go_ret
    exact ⟨rfl, hbb⟩
  have d11 : decide (0 ≤ p6) = true := decide_eq_true h11
  by_cases h12 : p6 ≤ 1000
  rotate_left
  · have hf : R = false := by
      rw [← Bool.not_eq_true, HR.out]
      omega
    have d12 : decide (p6 ≤ 1000) = false := decide_eq_false h12
    subst hf
    clear h0 h1 h2 h3 h4 h5 h6 h7 h8 h9 h10 h11 h12
    go_enter Try.func14, Try.ntmps14
    go_wp2_with fail
    go_ret
    exact ⟨rfl, hbb⟩
  have d12 : decide (p6 ≤ 1000) = true := decide_eq_true h12
  have hf : R = true := by
    rw [HR.out]
    omega
  subst hf
  clear h0 h1 h2 h3 h4 h5 h6 h7 h8 h9 h10 h11 h12
  go_enter Try.func14, Try.ntmps14
  go_wp2_with fail
  go_ret
  exact ⟨rfl, hbb⟩
theorem rlater_any (x y : Ev) (A1 A2 : Option Addr) (n1 c1 n2 c2 : Nat) (w : World) : Calls Try.prog 16 #[.agg (ec x (.slice A1 n1 c1)), .agg (ec y (.slice A2 n2 c2))] w fun e w' => e = .returned (.bool (laterB x y)) ∧ Below w.heap.size w w' := by
  obtain ⟨R, hR⟩ : ∃ R, R = laterB x y := ⟨_, rfl⟩
  rw [← hR]
  obtain ⟨⟨n, q⟩, t, k, wk, v, p, l⟩ := x
  obtain ⟨⟨m, r⟩, t', k', wk', v', p', l'⟩ := y
  have hbb : Below w.heap.size w ((w.alloc (.cells (ec ⟨(n, q), t, k, wk, v, p, l⟩ (.slice A1 n1 c1)) 28)).alloc (.cells (ec ⟨(m, r), t', k', wk', v', p', l'⟩ (.slice A2 n2 c2)) 28)) := ((Below.refl _ _).alloc (Nat.le_refl _) _).alloc (by simp) _
  unfold ec at hbb ⊢
  simp only at hbb ⊢
  by_cases h1 : t = t'
  · subst h1
    have hR2 : R = befB (m, r) (n, q) := by rw [hR]; unfold laterB; simp
    clear hR
    generalize p.getD 0 0 = p0, p.getD 1 0 = p1, p.getD 2 0 = p2, p.getD 3 0 = p3, p.getD 4 0 = p4, p.getD 5 0 = p5, p.getD 6 0 = p6 at *
    generalize p'.getD 0 0 = q0, p'.getD 1 0 = q1, p'.getD 2 0 = q2, p'.getD 3 0 = q3, p'.getD 4 0 = q4, p'.getD 5 0 = q5, p'.getD 6 0 = q6 at *
    have HR := Lib.hid hR2
    clear hR2
    go_enter Try.func16, Try.ntmps16
    go_wp2_with fail
    refine (before_any m r n q _).mono ?_
    rintro e w1 ⟨rfl, b1⟩
    rw [← HR.out]
    go_wp2_with fail
    go_ret
    exact ⟨rfl, hbb.trans (b1.mono hbb.size)⟩
  · have hR2 : R = decide (t' < t) := by rw [hR]; unfold laterB; simp [h1]
    have h2 : ((t : Int) != t') = true := by rw [bne_iff_ne]; exact h1
    clear hR
    generalize p.getD 0 0 = p0, p.getD 1 0 = p1, p.getD 2 0 = p2, p.getD 3 0 = p3, p.getD 4 0 = p4, p.getD 5 0 = p5, p.getD 6 0 = p6 at *
    generalize p'.getD 0 0 = q0, p'.getD 1 0 = q1, p'.getD 2 0 = q2, p'.getD 3 0 = q3, p'.getD 4 0 = q4, p'.getD 5 0 = q5, p'.getD 6 0 = q6 at *
    have HR := Lib.hid hR2
    clear hR2
    go_enter Try.func16, Try.ntmps16
    go_wp2_with fail
    go_ret
    rw [HR.out]
    exact ⟨rfl, hbb⟩
end Go.Proofs.Ytiemlnomlfebkaa
