import Derived.Test.YtfpenfgmpbdakaaGreatEvMath
import Derived.Test.YtfpenfgmpbdakaaGreatDotWalks
namespace Go.Proofs.YtfpenfgmpbdakaaGreat
set_option linter.unusedVariables false
set_option linter.unusedSimpArgs false
set_option maxRecDepth 100000
open Go.RowKit
open Dot Evt
theorem satw_any (n lo hi : Int) (w : World) : Calls Tryz.prog 131 #[.int .i64 n,.int .i64 lo,.int .i64 hi] w fun e w'=>e = .returned (.int .i64 (if hi < n then hi else if n < lo then lo else n))∧w = w':=by
  by_cases h1 : hi < n
  · rw [if_pos h1]
    have d1 : decide (hi < n) = true:=decide_eq_true h1
    go_enter Tryz.func131,Tryz.ntmps131
    go_wp2_with fail;go_ret;exact ⟨rfl,rfl⟩
  · rw [if_neg h1]
    have d1 : decide (hi < n) = false:=decide_eq_false h1
    by_cases h2 : n < lo
    · rw [if_pos h2]
      have d2 : decide (n < lo) = true:=decide_eq_true h2
      go_enter Tryz.func131,Tryz.ntmps131
      go_wp2_with fail;go_ret;exact ⟨rfl,rfl⟩
    · rw [if_neg h2]
      have d2 : decide (n < lo) = false:=decide_eq_false h2
      go_enter Tryz.func131,Tryz.ntmps131
      go_wp2_with fail;go_ret;exact ⟨rfl,rfl⟩
theorem within_eq (n lo hi : Int) : ((if hi < n then hi else if n < lo then lo else n) == n) = inB n lo hi:=by
  rw [Bool.eq_iff_iff,beq_iff_eq,inB_iff]
  by_cases h1 : hi < n
  · rw [if_pos h1];omega
  · rw [if_neg h1]
    by_cases h2 : n < lo
    · rw [if_pos h2];omega
    · rw [if_neg h2];omega
theorem within_any (n lo hi : Int) (w : World) : Calls Tryz.prog 121 #[.int .i64 n,.int .i64 lo,.int .i64 hi] w fun e w'=>e = .returned (.bool (inB n lo hi))∧w = w':=by
  have hs:=satw_any n lo hi w;obtain ⟨R,hR⟩ : ∃ R,R = inB n lo hi:=⟨_,rfl⟩;rw [← hR];rw [← within_eq] at hR
  generalize (if hi < n then hi else if n < lo then lo else n) = z at hs hR
  have HR:=Lib.hid hR;clear hR
  go_enter Tryz.func121,Tryz.ntmps121
  go_wp2_with fail;refine hs.mono ?_;rintro e w1 ⟨rfl,rfl⟩;go_wp2_with fail;go_ret;rw [HR.out];exact ⟨rfl,rfl⟩
theorem ebefore_any (n q m p : Int) (w : World) : Calls Tryz.prog 136 #[.agg #[.int .i64 n,.int .i64 q],.agg #[.int .i64 m,.int .i64 p]] w fun e w'=>e = .returned (.bool (befB (n,q) (m,p)))∧Below w.heap.size w w':=by
  have hb : Below w.heap.size w ((w.alloc (.cells #[.int .i64 n,.int .i64 q] 42)).alloc (.cells #[.int .i64 m,.int .i64 p] 42)):=((Below.refl _ _).alloc (Nat.le_refl _) _).alloc (by simp) _
  by_cases h1 : n < m
  · rw [show befB (n,q) (m,p) = true by simp [befB,h1]]
    go_enter Tryz.func136,Tryz.ntmps136
    go_wp2_with fail;go_ret;exact ⟨rfl,hb⟩
  · by_cases h2 : n = m
    · subst h2
      by_cases h3 : q < p
      · rw [show befB (n,q) (n,p) = true by simp [befB,h3]]
        go_enter Tryz.func136,Tryz.ntmps136
        go_wp2_with fail;go_ret;exact ⟨rfl,hb⟩
      · rw [show befB (n,q) (n,p) = false by simp [befB,h3]]
        go_enter Tryz.func136,Tryz.ntmps136
        go_wp2_with fail;go_ret;exact ⟨rfl,hb⟩
    · rw [show befB (n,q) (m,p) = false by simp [befB,h1,h2]]
      go_enter Tryz.func136,Tryz.ntmps136
      go_wp2_with fail;go_ret;exact ⟨rfl,hb⟩
end Go.Proofs.YtfpenfgmpbdakaaGreat
