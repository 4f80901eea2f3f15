/- Plain laws of the check sum: a turn of the register is linear and injective; no program in sight. -/
import Derived.KernelRfl
namespace Go.Proofs.Ytcgalmnllegnbaa.Crc
set_option linter.unusedVariables false
set_option linter.unusedSimpArgs false
set_option maxRecDepth 100000

def D : Nat := 3988292384
def step (r : Nat) : Nat := if r % 2 = 1 then r / 2 ^^^ D else r / 2
def steps : Nat → Nat → Nat
  | 0, r => r
  | k + 1, r => step (steps k r)
def T (r : Nat) : Nat := steps 8 r
def eat (r : Nat) (c : UInt8) : Nat := T (r ^^^ c.toNat)
def run (r : Nat) (l : List UInt8) : Nat := l.foldl eat r
def ones : Nat := 4294967295
def more (s : Nat) (l : List UInt8) : Nat := run (s ^^^ ones) l ^^^ ones
def sum (l : List UInt8) : Nat := more 0 l

theorem step_lt {r : Nat} (h : r < 4294967296) : step r < 4294967296 := by
  unfold step; split
  · exact Nat.xor_lt_two_pow (n := 32) (by omega) (by unfold D; omega)
  · omega
theorem steps_lt {r : Nat} (h : r < 4294967296) (k : Nat) : steps k r < 4294967296 := by
  induction k with
  | zero => exact h
  | succ k ih => exact step_lt ih
theorem eat_lt {r : Nat} (h : r < 4294967296) (c : UInt8) : eat r c < 4294967296 :=
  steps_lt (Nat.xor_lt_two_pow (n := 32) (by omega) (by have := c.toNat_lt; omega)) 8
theorem run_lt {r : Nat} (h : r < 4294967296) (l : List UInt8) : run r l < 4294967296 := by
  induction l generalizing r with
  | nil => exact h
  | cons c l ih => exact ih (eat_lt h c)
theorem more_lt {s : Nat} (h : s < 4294967296) (l : List UInt8) : more s l < 4294967296 :=
  Nat.xor_lt_two_pow (n := 32) (run_lt (Nat.xor_lt_two_pow (n := 32) (by omega) (by unfold ones; omega)) l) (by unfold ones; omega)
theorem sum_lt (l : List UInt8) : sum l < 4294967296 := more_lt (by omega) l

theorem run_append (r : Nat) (a b : List UInt8) : run r (a ++ b) = run (run r a) b := by simp [run]
theorem run_snoc (r : Nat) (a : List UInt8) (c : UInt8) : run r (a ++ [c]) = eat (run r a) c := by simp [run]
theorem xor_xor (a b : Nat) : a ^^^ b ^^^ b = a := by rw [Nat.xor_assoc, Nat.xor_self, Nat.xor_zero]
theorem more_append (s : Nat) (a b : List UInt8) : more (more s a) b = more s (a ++ b) := by
  unfold more; rw [xor_xor, run_append]
theorem more_nil (s : Nat) : more s [] = s := xor_xor s ones

theorem xor_mod2 (a b : Nat) : (a ^^^ b) % 2 = (a % 2 + b % 2) % 2 := by
  have h := @Nat.xor_mod_two_eq_one a b
  rcases Nat.mod_two_eq_zero_or_one a with ha | ha <;> rcases Nat.mod_two_eq_zero_or_one b with hb | hb <;> rcases Nat.mod_two_eq_zero_or_one (a ^^^ b) with h2 | h2 <;>
    (revert h; rw [ha, hb, h2]; decide)
theorem step_lin (a b : Nat) : step (a ^^^ b) = step a ^^^ step b := by
  have h := xor_mod2 a b
  have hd : (a ^^^ b) / 2 = a / 2 ^^^ b / 2 := Nat.xor_div_two
  have hx : a / 2 ^^^ b / 2 = (a / 2 ^^^ D) ^^^ (b / 2 ^^^ D) := by
    have e : (a / 2 ^^^ D) ^^^ (b / 2 ^^^ D) = (a / 2 ^^^ b / 2) ^^^ (D ^^^ D) := by ac_rfl
    rw [e, Nat.xor_self, Nat.xor_zero]
  unfold step
  rcases Nat.mod_two_eq_zero_or_one a with ha | ha <;> rcases Nat.mod_two_eq_zero_or_one b with hb | hb <;> rw [hd, h, ha, hb]
  · rfl
  · show a / 2 ^^^ b / 2 ^^^ D = a / 2 ^^^ (b / 2 ^^^ D); ac_rfl
  · show a / 2 ^^^ b / 2 ^^^ D = (a / 2 ^^^ D) ^^^ b / 2; ac_rfl
  · exact hx
theorem steps_lin (k a b : Nat) : steps k (a ^^^ b) = steps k a ^^^ steps k b := by
  induction k with
  | zero => rfl
  | succ k ih => show step _ = _; rw [ih, step_lin]; rfl
theorem T_lin (a b : Nat) : T (a ^^^ b) = T a ^^^ T b := steps_lin 8 a b

theorem step_top {a : Nat} (h : a < 4294967296) : (step a).testBit 31 = decide (a % 2 = 1) := by
  have hb : (a / 2).testBit 31 = false := Nat.testBit_lt_two_pow (by omega)
  unfold step
  split
  · rename_i h1; rw [Nat.testBit_xor, hb, h1]; decide
  · rename_i h1; rw [hb]; simp [h1]
theorem xor_cancel {a b d : Nat} (h : a ^^^ d = b ^^^ d) : a = b := by
  have := congrArg (· ^^^ d) h
  simpa [xor_xor] using this
theorem step_inj {a b : Nat} (ha : a < 4294967296) (hb : b < 4294967296) (h : step a = step b) : a = b := by
  have h1 := step_top ha
  have h2 := step_top hb
  rw [h, h2] at h1
  have h3 : (b % 2 = 1) ↔ (a % 2 = 1) := by simpa using h1
  have hd : a / 2 = b / 2 := by
    unfold step at h
    by_cases hc : a % 2 = 1
    · rw [if_pos hc, if_pos (h3.2 hc)] at h; exact xor_cancel h
    · rw [if_neg hc, if_neg (fun h' => hc (h3.1 h'))] at h; exact h
  omega
theorem steps_inj {a b : Nat} (ha : a < 4294967296) (hb : b < 4294967296) (k : Nat) (h : steps k a = steps k b) : a = b := by
  induction k with
  | zero => exact h
  | succ k ih => exact ih (step_inj (steps_lt ha k) (steps_lt hb k) h)
theorem eat_inj {r s : Nat} {c d : UInt8} (hr : r < 4294967296) (hs : s < 4294967296) (h : eat r c = eat s d) : r ^^^ c.toNat = s ^^^ d.toNat :=
  steps_inj (Nat.xor_lt_two_pow (n := 32) (by omega) (by have := c.toNat_lt; omega)) (Nat.xor_lt_two_pow (n := 32) (by omega) (by have := d.toNat_lt; omega)) 8 h
theorem run_inj {r s : Nat} (l : List UInt8) (hr : r < 4294967296) (hs : s < 4294967296) (h : run r l = run s l) : r = s := by
  induction l generalizing r s with
  | nil => exact h
  | cons c l ih => exact xor_cancel (eat_inj hr hs (ih (eat_lt hr c) (eat_lt hs c) h))
theorem sum_ne_of {a b l : List UInt8} (h : run ones a ≠ run ones b) : sum (a ++ l) ≠ sum (b ++ l) := by
  have e : (0 : Nat) ^^^ ones = ones := by decide
  unfold sum more
  intro he
  have := xor_cancel he
  rw [e, run_append, run_append] at this
  exact h (run_inj l (run_lt (by decide) a) (run_lt (by decide) b) this)
/-- one byte for another, anywhere, turns the sum -/
theorem sum_one {a l : List UInt8} {c d : UInt8} (h : c ≠ d) : sum (a ++ c :: l) ≠ sum (a ++ d :: l) := by
  have e : ∀ x : UInt8, a ++ x :: l = (a ++ [x]) ++ l := fun x => by simp
  rw [e, e]
  refine sum_ne_of fun he => h ?_
  rw [run_snoc, run_snoc] at he
  have := eat_inj (run_lt (by decide) a) (run_lt (by decide) a) he
  rw [Nat.xor_comm, Nat.xor_comm (run ones a)] at this
  exact UInt8.toNat_inj.1 (xor_cancel this)
theorem T_fix : ∀ d : Fin 256, d.val ≠ 0 → T d.val ≠ d.val := by decide +kernel
theorem swap_ne {r : Nat} {c d : UInt8} (hr : r < 4294967296) (h : c ≠ d) : eat (eat r c) d ≠ eat (eat r d) c := by
  intro he
  have h1 := eat_inj (eat_lt hr c) (eat_lt hr d) he
  unfold eat at h1
  rw [T_lin, T_lin] at h1
  have hx : c.toNat ^^^ d.toNat < 256 := Nat.xor_lt_two_pow (n := 8) (by have := c.toNat_lt; omega) (by have := d.toNat_lt; omega)
  have hne : c.toNat ^^^ d.toNat ≠ 0 := fun h0 => h (UInt8.toNat_inj.1 (by have := congrArg (· ^^^ d.toNat) h0; simpa [xor_xor] using this))
  refine T_fix ⟨_, hx⟩ hne ?_
  show T (c.toNat ^^^ d.toNat) = c.toNat ^^^ d.toNat
  rw [T_lin]
  have e1 : T c.toNat ^^^ T d.toNat = (T r ^^^ T c.toNat ^^^ d.toNat) ^^^ (T r ^^^ T d.toNat ^^^ d.toNat) := by
    have e : (T r ^^^ T c.toNat ^^^ d.toNat) ^^^ (T r ^^^ T d.toNat ^^^ d.toNat) = (T c.toNat ^^^ T d.toNat) ^^^ (T r ^^^ T r) ^^^ (d.toNat ^^^ d.toNat) := by ac_rfl
    rw [e, Nat.xor_self, Nat.xor_self, Nat.xor_zero, Nat.xor_zero]
  rw [e1, h1]
  have e : (T r ^^^ T d.toNat ^^^ c.toNat) ^^^ (T r ^^^ T d.toNat ^^^ d.toNat) = (c.toNat ^^^ d.toNat) ^^^ (T r ^^^ T r) ^^^ (T d.toNat ^^^ T d.toNat) := by ac_rfl
  rw [e, Nat.xor_self, Nat.xor_self, Nat.xor_zero, Nat.xor_zero]
theorem sum_swap {a l : List UInt8} {c d : UInt8} (h : c ≠ d) : sum (a ++ d :: c :: l) ≠ sum (a ++ c :: d :: l) := by
  have e : ∀ x y : UInt8, a ++ x :: y :: l = (a ++ [x] ++ [y]) ++ l := fun x y => by simp
  rw [e, e]
  refine sum_ne_of fun he => ?_
  rw [run_snoc, run_snoc, run_snoc, run_snoc] at he
  exact swap_ne (run_lt (by decide) a) h he.symm

/-- bytes with their sum behind them -/
theorem step_even (y : Nat) : step (y * 2) = y := by unfold step; rw [if_neg (by omega)]; omega
theorem T_shift (y : Nat) : T (y * 256) = y := by
  show step (step (step (step (step (step (step (step (y * 256)))))))) = y
  have h : ∀ m k, step (y * (2 * m)) = y * m → k = 0 → step (y * (2 * m)) = y * m := fun _ _ h _ => h
  have e : ∀ m, step (y * (m * 2)) = y * m := fun m => by rw [← Nat.mul_assoc]; exact step_even _
  rw [show y * 256 = y * (128 * 2) from rfl, e, show y * 128 = y * (64 * 2) from rfl, e, show y * 64 = y * (32 * 2) from rfl, e, show y * 32 = y * (16 * 2) from rfl, e,
    show y * 16 = y * (8 * 2) from rfl, e, show y * 8 = y * (4 * 2) from rfl, e, show y * 4 = y * (2 * 2) from rfl, e, show y * 2 = y * (1 * 2) from rfl, e, Nat.mul_one]
/-- a number's low byte and what stands above it -/
theorem low_high (s : Nat) : (s / 256 * 256) ^^^ (s % 256) = s := by
  apply Nat.eq_of_testBit_eq
  intro i
  rw [Nat.testBit_xor, show (256 : Nat) = 2 ^ 8 from rfl, Nat.testBit_mod_two_pow, Nat.testBit_mul_two_pow, Nat.testBit_div_two_pow]
  by_cases h : i < 8
  · simp [h, Nat.not_le.2 h]
  · have : 8 ≤ i := by omega
    simp [h, this]
theorem eat_low (R s : Nat) (c : UInt8) (hc : c.toNat = s % 256) : eat R c = T (R ^^^ s) ^^^ s / 256 := by
  have h := low_high s
  unfold eat
  rw [hc]
  have e : R ^^^ s = (R ^^^ s % 256) ^^^ (s / 256 * 256) := by
    conv => lhs; rw [← h]
    rw [Nat.xor_comm (s / 256 * 256), Nat.xor_assoc]
  rw [e, T_lin (R ^^^ s % 256), T_shift, xor_xor]
def bytesOf (s : Nat) : List UInt8 := [UInt8.ofNat s, UInt8.ofNat (s / 256), UInt8.ofNat (s / 65536), UInt8.ofNat (s / 16777216)]
theorem toNat_ofNat (s : Nat) : (UInt8.ofNat s).toNat = s % 256 := rfl
theorem sum_framed (l : List UInt8) : sum (l ++ bytesOf (sum l)) = T (T (T (T ones))) ^^^ ones := by
  have hs : sum l < 4294967296 := sum_lt l
  have hr : run (0 ^^^ ones) l = sum l ^^^ ones := (xor_xor _ _).symm
  generalize sum l = s at hs hr ⊢
  unfold sum more
  rw [run_append, hr]
  show eat (eat (eat (eat _ _) _) _) _ ^^^ ones = _
  congr 1
  have h1 := eat_low (s ^^^ ones) s (UInt8.ofNat s) rfl
  rw [Nat.xor_comm s ones, xor_xor, Nat.xor_comm ones s] at h1
  have h2 := eat_low (T ones ^^^ s / 256) (s / 256) (UInt8.ofNat (s / 256)) rfl
  rw [xor_xor, Nat.div_div_eq_div_mul] at h2
  have h3 := eat_low (T (T ones) ^^^ s / 65536) (s / 65536) (UInt8.ofNat (s / 65536)) rfl
  rw [xor_xor, Nat.div_div_eq_div_mul] at h3
  have h4 := eat_low (T (T (T ones)) ^^^ s / 16777216) (s / 16777216) (UInt8.ofNat (s / 16777216)) rfl
  rw [xor_xor, Nat.div_div_eq_div_mul, Nat.div_eq_of_lt (by omega : s < 16777216 * 256), Nat.xor_zero] at h4
  rw [h1, h2, h3, h4]
theorem check_sum : sum [49, 50, 51, 52, 53, 54, 55, 56, 57] = 3421780262 := by decide +kernel
end Go.Proofs.Ytcgalmnllegnbaa.Crc
