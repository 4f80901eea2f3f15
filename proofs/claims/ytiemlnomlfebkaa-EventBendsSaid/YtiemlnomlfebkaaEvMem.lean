/- Events in memory: an event's cells; the walk of Later. -/
import Derived.Test.YtiemlnomlfebkaaEvWalks
import Derived.Test.YtiemlnomlfebkaaDotMem
namespace Go.Proofs.Ytiemlnomlfebkaa
set_option linter.unusedVariables false
set_option linter.unusedSimpArgs false
open Go.RowKit
open Dot Evt
/-- an event's cells -/
def ec (x : Ev) (s : Value) : Array Value := #[.int .i64 x.d.1, .int .i64 x.d.2, .int .i64 x.t, .int .i64 x.k, .int .i64 x.w, .int .i64 x.v, .int .i64 (x.p.getD 0 0), .int .i64 (x.p.getD 1 0), .int .i64 (x.p.getD 2 0), .int .i64 (x.p.getD 3 0), .int .i64 (x.p.getD 4 0), .int .i64 (x.p.getD 5 0), .int .i64 (x.p.getD 6 0), s]
/-- a policy's cells -/
def pc (p : List Int) : Array Value := #[.int .i64 (p.getD 0 0), .int .i64 (p.getD 1 0), .int .i64 (p.getD 2 0), .int .i64 (p.getD 3 0), .int .i64 (p.getD 4 0), .int .i64 (p.getD 5 0), .int .i64 (p.getD 6 0)]
theorem ec_size (x : Ev) (s : Value) : (ec x s).size = 14 := rfl
theorem ec_one (x : Ev) (A : Option Addr) (n c : Nat) : (ec x (.slice A n c)).all (·.oneCell') = true := by kernel_rfl
theorem rowE : RowT Try.prog 28 14 := ⟨_, Try.underlying28, rfl, by kernel_rfl⟩
theorem rowP : RowT Try.prog 25 7 := ⟨_, Try.underlying25, rfl, by kernel_rfl⟩
theorem later_any (x y : Ev) (A1 A2 : Option Addr) (n1 c1 n2 c2 : Nat) (w : World) : Calls Try.prog 15 #[.agg (ec x (.slice A1 n1 c1)), .agg (ec y (.slice A2 n2 c2))] w fun e w' => e = .returned (.bool (laterB x y)) ∧ Below w.heap.size w w' := by
  obtain ⟨R, hR⟩ : ∃ R, R = laterB x y := ⟨_, rfl⟩
  rw [← hR]
  obtain ⟨⟨n, q⟩, t, k, wk, v, p, l⟩ := x
  obtain ⟨⟨m, r⟩, t', k', wk', v', p', l'⟩ := y
  have hbb : Below w.heap.size w ((w.alloc (.cells (ec ⟨(n, q), t, k, wk, v, p, l⟩ (.slice A1 n1 c1)) 28)).alloc (.cells (ec ⟨(m, r), t', k', wk', v', p', l'⟩ (.slice A2 n2 c2)) 28)) := ((Below.refl _ _).alloc (Nat.le_refl _) _).alloc (by simp) _
  unfold ec at hbb ⊢
  simp only at hbb ⊢
  by_cases h1 : t = t'
  · subst h1
    have hR2 : R = befB (m, r) (n, q) := by rw [hR]; unfold laterB; simp
    clear hR
    generalize p.getD 0 0 = p0, p.getD 1 0 = p1, p.getD 2 0 = p2, p.getD 3 0 = p3, p.getD 4 0 = p4, p.getD 5 0 = p5, p.getD 6 0 = p6 at *
    generalize p'.getD 0 0 = q0, p'.getD 1 0 = q1, p'.getD 2 0 = q2, p'.getD 3 0 = q3, p'.getD 4 0 = q4, p'.getD 5 0 = q5, p'.getD 6 0 = q6 at *
    have HR := Lib.hid hR2
    clear hR2
    go_enter Try.func15, Try.ntmps15
    go_wp2_with fail
    refine (ebefore_any m r n q _).mono ?_
    rintro e w1 ⟨rfl, b1⟩
    rw [← HR.out]
    go_wp2_with fail
    go_ret
    exact ⟨rfl, hbb.trans (b1.mono hbb.size)⟩
  · have hR2 : R = decide (t' < t) := by rw [hR]; unfold laterB; simp [h1]
    have h2 : ((t : Int) != t') = true := by rw [bne_iff_ne]; exact h1
    clear hR
    generalize p.getD 0 0 = p0, p.getD 1 0 = p1, p.getD 2 0 = p2, p.getD 3 0 = p3, p.getD 4 0 = p4, p.getD 5 0 = p5, p.getD 6 0 = p6 at *
    generalize p'.getD 0 0 = q0, p'.getD 1 0 = q1, p'.getD 2 0 = q2, p'.getD 3 0 = q3, p'.getD 4 0 = q4, p'.getD 5 0 = q5, p'.getD 6 0 = q6 at *
    have HR := Lib.hid hR2
    clear hR2
    go_enter Try.func15, Try.ntmps15
    go_wp2_with fail
    go_ret
    rw [HR.out]
    exact ⟨rfl, hbb⟩
end Go.Proofs.Ytiemlnomlfebkaa
