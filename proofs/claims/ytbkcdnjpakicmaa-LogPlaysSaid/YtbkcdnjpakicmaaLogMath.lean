/- Plain laws of a log: what is written stands behind the others; what is mended. -/
import Derived.Test.YtbkcdnjpakicmaaLogAlive
namespace Go.Proofs.Ytbkcdnjpakicmaa.Log
open Go.RowKit
open Disk
open _root_.Go.Proofs.Ytbkcdnjpakicmaa.Frame (frm frms frms_nil frms_cons frms_snoc frms_append frm_length frm_pos Parts AllF)
theorem mend_all {b : List UInt8} {l : List (List UInt8)} {r : List UInt8} (hp : Parts b l r) : mendM b [] l = (0, frms l, []) := by
  unfold mendM
  have e : readL b [] = b := rfl
  rw [e]
  by_cases h : (frms l).length < b.length
  · rw [if_pos h]
  · rw [if_neg h]
    have h1 := hp.1
    have h2 := congrArg List.length h1
    rw [List.length_append] at h2
    have hr : r = [] := List.eq_nil_of_length_eq_zero (by omega)
    rw [hr, List.append_nil] at h1
    rw [h1]
theorem parts_frms {b : List UInt8} {l : List (List UInt8)} {r : List UInt8} (hp : Parts b l r) : Parts (frms l) l [] := ⟨by rw [List.append_nil], hp.2.1, 3, rfl⟩
theorem parts_len {b : List UInt8} {l : List (List UInt8)} {r : List UInt8} (hp : Parts b l r) : (frms l).length ≤ b.length ∧ l.length ≤ b.length ∧ ∀ x ∈ l, x.length ≤ b.length := by
  obtain ⟨h1, h2, _⟩ := hp
  have h3 := congrArg List.length h1
  rw [List.length_append] at h3
  refine ⟨by omega, ?_⟩
  have : l.length ≤ (frms l).length ∧ ∀ x ∈ l, x.length ≤ (frms l).length := by
    clear h1 h2 h3
    induction l with
    | nil => simp
    | cons x l ih =>
      rw [frms_cons, List.length_append, List.length_cons, frm_length]
      refine ⟨by omega, fun y hy => ?_⟩
      rcases List.mem_cons.1 hy with rfl | hy
      · omega
      · have := ih.2 y hy; omega
  exact ⟨by omega, fun x hx => by have := this.2 x hx; omega⟩
/-- Records that stand on a disk of this size. -/
def GoodL (size : Nat) (l : List (List UInt8)) : Prop := (∀ x ∈ l, x.length ≤ 4096) ∧ (frms l).length ≤ size
theorem GoodL.parts {size : Nat} {l : List (List UInt8)} (h : GoodL size l) : Parts (frms l) l [] := ⟨by rw [List.append_nil], h.1, 3, rfl⟩
theorem GoodL.nil (size : Nat) : GoodL size [] := ⟨by simp, Nat.zero_le _⟩
/-- A write: refused, or the record stands behind. -/
theorem write_good {size : Nat} {l : List (List UInt8)} (h : GoodL size l) (x : List UInt8) : (∃ y, y ≠ 0 ∧ y ≤ 7 ∧ writeM size (frms l) [] x = (y, frms l, [])) ∨ (writeM size (frms l) [] x = (0, frms (l ++ [x]), []) ∧ GoodL size (l ++ [x])) := by
  have e : readL (frms l) [] = frms l := rfl
  unfold writeM
  by_cases h1 : 4096 < x.length
  · exact .inl ⟨6, by omega, by omega, by rw [if_pos h1]⟩
  · rw [if_neg h1, e]
    by_cases h2 : (frms l).length + (frm x).length ≤ size
    · refine .inr ⟨by rw [if_pos h2, frms_snoc], fun y hy => ?_, by rw [frms_snoc, List.length_append]; exact h2⟩
      rw [List.mem_append, List.mem_singleton] at hy
      rcases hy with hy | rfl
      · exact h.1 y hy
      · omega
    · exact .inl ⟨7, by omega, by omega, by rw [if_neg h2]⟩
theorem rewrite_good {size : Nat} {l : List (List UInt8)} (ls : List (List UInt8)) : (∃ y, y ≠ 0 ∧ y ≤ 7 ∧ rewriteM size (frms l) [] ls = (y, frms l, [])) ∨ (rewriteM size (frms l) [] ls = (0, frms ls, []) ∧ GoodL size ls) := by
  unfold rewriteM
  by_cases h1 : ls.all (·.length ≤ 4096) = true
  · rw [if_pos h1]
    by_cases h2 : (frms ls).length ≤ size
    · refine .inr ⟨by rw [if_pos h2], fun y hy => ?_, h2⟩
      have := List.all_eq_true.1 h1 y hy
      simpa using this
    · exact .inl ⟨7, by omega, by omega, by rw [if_neg h2]⟩
  · exact .inl ⟨6, by omega, by omega, by rw [if_neg h1]⟩
end Go.Proofs.Ytbkcdnjpakicmaa.Log
