/- The walks of small functions of reg: within, may, Newer, Join, Write; the document's. -/
import Derived.Test.YtocoohpekpkmkaaRegMath
import Derived.Test.YtocoohpekpkmkaaQuiet
import Derived.Test.YtocoohpekpkmkaaFoot
import Derived.Test.YtocoohpekpkmkaaBytes
import Derived.Test.YtocoohpekpkmkaaChecked
import Derived.Deep.RegionLaw
import Derived.Deep.DeepCutAuto
import Derived.Test.YtocoohpekpkmkaaStepG
namespace Go.Proofs.Ytocoohpekpkmkaa
set_option linter.unusedVariables false
set_option linter.unusedSimpArgs false
open Go.RowKit
open Reg
/-- three cells -/
def v3 (a : Int × Int × Int) : Value := .agg #[.int .i64 a.1, .int .i64 a.2.1, .int .i64 a.2.2]
theorem th_size (a b c : Int) : (#[Value.int .i64 a, .int .i64 b, .int .i64 c]).size = 3 := rfl
theorem th_one (a b c : Int) : (#[Value.int .i64 a, .int .i64 b, .int .i64 c]).all (·.oneCell') = true := by simp [Value.oneCell']
theorem satw29_any (n lo hi : Int) (w : World) : Calls Try.prog 97 #[.int .i64 n, .int .i64 lo, .int .i64 hi] w fun e w' => e = .returned (.int .i64 (if hi < n then hi else if n < lo then lo else n)) ∧ w = w' := by
  by_cases h1 : hi < n
  · rw [if_pos h1]
    have d1 : decide (hi < n) = true := decide_eq_true h1
    go_enter Try.func97, Try.ntmps97
    go_wp2_with fail
    go_ret
    exact ⟨rfl, rfl⟩
  · rw [if_neg h1]
    have d1 : decide (hi < n) = false := decide_eq_false h1
    by_cases h2 : n < lo
    · rw [if_pos h2]
      have d2 : decide (n < lo) = true := decide_eq_true h2
      go_enter Try.func97, Try.ntmps97
      go_wp2_with fail
      go_ret
      exact ⟨rfl, rfl⟩
    · rw [if_neg h2]
      have d2 : decide (n < lo) = false := decide_eq_false h2
      go_enter Try.func97, Try.ntmps97
      go_wp2_with fail
      go_ret
      exact ⟨rfl, rfl⟩
theorem within29_eq (n lo hi : Int) (h : lo ≤ hi) : ((if hi < n then hi else if n < lo then lo else n) == n) = inB n lo hi := by
  rw [Bool.eq_iff_iff, beq_iff_eq, inB_iff]
  by_cases h1 : hi < n
  · rw [if_pos h1]; omega
  · rw [if_neg h1]
    by_cases h2 : n < lo
    · rw [if_pos h2]; omega
    · rw [if_neg h2]; omega
theorem within29_any (n lo hi : Int) (w : World) (hlh : lo ≤ hi ∨ True) : Calls Try.prog 54 #[.int .i64 n, .int .i64 lo, .int .i64 hi] w fun e w' => e = .returned (.bool (inB n lo hi)) ∧ w = w' := by
  have hs := satw29_any n lo hi w
  obtain ⟨R, hR⟩ : ∃ R, R = inB n lo hi := ⟨_, rfl⟩
  rw [← hR]
  have hz : ((if hi < n then hi else if n < lo then lo else n) == n) = inB n lo hi := by
    rw [Bool.eq_iff_iff, beq_iff_eq, inB_iff]
    by_cases h1 : hi < n
    · rw [if_pos h1]; omega
    · rw [if_neg h1]
      by_cases h2 : n < lo
      · rw [if_pos h2]; omega
      · rw [if_neg h2]; omega
  rw [← hz] at hR
  clear hz
  generalize (if hi < n then hi else if n < lo then lo else n) = z at hs hR
  have HR := Lib.hid hR
  clear hR
  go_enter Try.func54, Try.ntmps54
  go_wp2_with fail
  refine hs.mono ?_
  rintro e w1 ⟨rfl, rfl⟩
  go_wp2_with fail
  go_ret
  rw [HR.out]
  exact ⟨rfl, rfl⟩
theorem mayN_any (n v : Int) (w : World) : Calls Try.prog 45 #[.int .i64 n, .int .i64 v] w fun e w' => e = .returned (.bool (mayN n v)) ∧ w = w' := by
  obtain ⟨R, hR⟩ : ∃ R, R = mayN n v := ⟨_, rfl⟩
  rw [← hR]
  unfold mayN at hR
  have hs := within29_any n 0 7 w (Or.inr trivial)
  have ht := within29_any v (-1099511627776) 1099511627776 w (Or.inr trivial)
  generalize inB n 0 7 = a at hs hR
  generalize inB v (-1099511627776) 1099511627776 = b at ht hR
  have HR := Lib.hid hR
  clear hR
  cases a
  · go_enter Try.func45, Try.ntmps45
    go_wp2_with fail
    refine hs.mono ?_
    rintro e w1 ⟨rfl, rfl⟩
    go_wp2_with fail
    go_ret
    rw [HR.out]
    exact ⟨rfl, rfl⟩
  · go_enter Try.func45, Try.ntmps45
    go_wp2_with fail
    refine hs.mono ?_
    rintro e w1 ⟨rfl, rfl⟩
    go_wp2_with fail
    refine ht.mono ?_
    rintro e w1 ⟨rfl, rfl⟩
    go_wp2_with fail
    go_ret
    rw [HR.out]
    exact ⟨rfl, rfl⟩
theorem may29_ways (n v : Int) : (decide (0 ≤ n) = false ∧ mayN n v = false) ∨ (decide (0 ≤ n) = true ∧ decide (n < 8) = false ∧ mayN n v = false) ∨ (decide (0 ≤ n) = true ∧ decide (n < 8) = true ∧ decide (-1099511627776 ≤ v) = false ∧ mayN n v = false) ∨ (decide (0 ≤ n) = true ∧ decide (n < 8) = true ∧ decide (-1099511627776 ≤ v) = true ∧ decide (v ≤ 1099511627776) = false ∧ mayN n v = false) ∨ (decide (0 ≤ n) = true ∧ decide (n < 8) = true ∧ decide (-1099511627776 ≤ v) = true ∧ decide (v ≤ 1099511627776) = true ∧ mayN n v = true) := by
  unfold mayN inB
  rw [show decide (n ≤ 7) = decide (n < 8) by rw [decide_eq_decide]; omega]
  cases decide (0 ≤ n) <;> cases decide (n < 8) <;> cases decide (-1099511627776 ≤ v) <;> cases decide (v ≤ 1099511627776) <;> simp
theorem rmay29_any (n v : Int) (w : World) : Calls Try.prog 46 #[.int .i64 n, .int .i64 v] w fun e w' => e = .returned (.bool (mayN n v)) ∧ w = w' := by
  rcases may29_ways n v with ⟨h1, hm⟩ | ⟨h1, h2, hm⟩ | ⟨h1, h2, h3, hm⟩ | ⟨h1, h2, h3, h4, hm⟩ | ⟨h1, h2, h3, h4, hm⟩
  all_goals
    rw [hm]
    clear hm
    go_enter Try.func46, Try.ntmps46
    go_wp2_with fail
    go_ret
    exact ⟨rfl, rfl⟩
theorem nan_any (x : Int) (w : World) : Calls Try.prog 126 #[.int .i64 x] w fun e w' => e = .returned (.bool false) ∧ w = w' := by
  go_enter Try.func126, Try.ntmps126
  go_wp2_with fail
  go_ret
  exact ⟨by simp, rfl⟩
theorem cmpI_any (x y : Int) (w : World) : Calls Try.prog 98 #[.int .i64 x, .int .i64 y] w fun e w' => e = .returned (.int .i64 (cmpI x y)) ∧ w = w' := by
  unfold cmpI
  by_cases h1 : x < y
  · rw [if_pos h1]
    go_enter Try.func98, Try.ntmps98
    go_wp2_with fail
    refine (nan_any x _).mono ?_
    rintro e w1 ⟨rfl, rfl⟩
    go_wp2_with fail
    refine (nan_any y _).mono ?_
    rintro e w1 ⟨rfl, rfl⟩
    go_wp2_with fail
    go_ret
    exact ⟨rfl, rfl⟩
  · rw [if_neg h1]
    by_cases h2 : y < x
    · rw [if_pos h2]
      go_enter Try.func98, Try.ntmps98
      go_wp2_with fail
      refine (nan_any x _).mono ?_
      rintro e w1 ⟨rfl, rfl⟩
      go_wp2_with fail
      refine (nan_any y _).mono ?_
      rintro e w1 ⟨rfl, rfl⟩
      go_wp2_with fail
      go_ret
      exact ⟨rfl, rfl⟩
    · rw [if_neg h2]
      go_enter Try.func98, Try.ntmps98
      go_wp2_with fail
      refine (nan_any x _).mono ?_
      rintro e w1 ⟨rfl, rfl⟩
      go_wp2_with fail
      refine (nan_any y _).mono ?_
      rintro e w1 ⟨rfl, rfl⟩
      go_wp2_with fail
      go_ret
      exact ⟨rfl, rfl⟩
end Go.Proofs.Ytocoohpekpkmkaa
