/- Plain laws of the reference's disk: units that wait. -/
import Derived.Test.YtbkcdnjpakicmaaDiskMath
namespace Go.Proofs.Ytbkcdnjpakicmaa.Disk

/-- a unit that waits: a byte, or a swap -/
inductive U where
  | byte (c : UInt8)
  | swap (b : List UInt8)
def doU (out : List UInt8) : U → List UInt8
  | .byte c => out ++ [c]
  | .swap b => b
def afterU (b : List UInt8) (us : List U) : List UInt8 := us.foldl doU b
/-- the units of writes -/
def exp : List W → List U
  | [] => []
  | (true, b) :: r => .swap b :: exp r
  | (false, b) :: r => b.map .byte ++ exp r
def massU : List U → Nat
  | [] => 0
  | .byte _ :: r => 1 + massU r
  | .swap b :: r => b.length + massU r
theorem massU_append (a b : List U) : massU (a ++ b) = massU a + massU b := by
  induction a with
  | nil => simp [massU]
  | cons x r ih => cases x <;> simp [massU, ih] <;> omega
theorem massU_bytes (b : List UInt8) : massU (b.map .byte) = b.length := by
  induction b with
  | nil => rfl
  | cons c r ih => simp [massU, ih]; omega
theorem exp_append (a b : List W) : exp (a ++ b) = exp a ++ exp b := by
  induction a with
  | nil => rfl
  | cons x r ih =>
    obtain ⟨s, y⟩ := x
    cases s <;> simp [exp, ih]
theorem exp_length (ws : List W) : (exp ws).length = pend ws := by
  induction ws with
  | nil => rfl
  | cons x r ih =>
    obtain ⟨s, y⟩ := x
    cases s <;> simp [exp, pend, units, ih] <;> omega
theorem exp_mass (ws : List W) : massU (exp ws) = mass ws := by
  induction ws with
  | nil => rfl
  | cons x r ih =>
    obtain ⟨s, y⟩ := x
    cases s
    · simp only [exp, mass, massU_append, massU_bytes, ih]
    · simp only [exp, mass, massU, ih]
theorem afterU_append (b : List UInt8) (a c : List U) : afterU b (a ++ c) = afterU (afterU b a) c := List.foldl_append ..
theorem afterU_bytes (b x : List UInt8) : afterU b (x.map .byte) = b ++ x := by
  induction x generalizing b with
  | nil => simp [afterU]
  | cons c r ih =>
    have := ih (b ++ [c])
    simp only [afterU, List.map_cons, List.foldl_cons, doU] at this ⊢
    rw [this]; simp
theorem after_exp (b : List UInt8) (ws : List W) (n : Nat) : afterU b ((exp ws).take n) = afterL b ws n := by
  induction ws generalizing b n with
  | nil => simp [exp, afterU, afterL]
  | cons x r ih =>
    obtain ⟨s, y⟩ := x
    cases s
    · simp only [exp, afterL, units, doW]
      rw [List.take_append, afterU_append, ← List.map_take, afterU_bytes, ih]
      simp
      have e1 : n - min n y.length = n - y.length := by omega
      rw [e1, ← List.take_take, List.take_length]
      by_cases h : 0 < min n y.length
      · rw [if_pos h]
      · rw [if_neg h]
        have : y.take n = [] := by
          rw [List.take_eq_nil_iff]
          by_cases h2 : n = 0
          · exact .inl h2
          · exact .inr (List.length_eq_zero_iff.1 (by omega))
        rw [this, List.append_nil]
    · simp only [exp, afterL, units, doW]
      cases n with
      | zero => simp [afterU, after_zero]
      | succ n =>
        have e1 : min (n + 1) 1 = 1 := by omega
        simp only [if_true, e1]
        simp
        exact ih y n
theorem afterU_len (b : List UInt8) (us : List U) : (afterU b us).length ≤ b.length + massU us := by
  induction us generalizing b with
  | nil => simp [afterU, massU]
  | cons x r ih =>
    have := ih (doU b x)
    cases x with
    | byte c => simp [afterU, massU, doU] at *; omega
    | swap y => simp [afterU, massU, doU] at *; omega
theorem massU_take (us : List U) (k : Nat) : massU (us.take k) ≤ massU us := by
  conv => rhs; rw [← List.take_append_drop k us, massU_append]
  omega
end Go.Proofs.Ytbkcdnjpakicmaa.Disk
