import Derived.KernelRfl
namespace Go.Proofs.YtfpenfgmpbdakaaGreat.Crc
set_option linter.unusedVariables false
set_option linter.unusedSimpArgs false
set_option maxRecDepth 100000
def D : Nat:=3988292384
def step (r : Nat) : Nat:=if r % 2 = 1 then r / 2 ^^^ D else r / 2
def steps : Nat→Nat→Nat
  | 0,r=>r
  | k + 1,r=>step (steps k r)
def T (r : Nat) : Nat:=steps 8 r
def eat (r : Nat) (c : UInt8) : Nat:=T (r ^^^ c.toNat)
def run (r : Nat) (l : List UInt8) : Nat:=l.foldl eat r
def ones : Nat:=4294967295
def more (s : Nat) (l : List UInt8) : Nat:=run (s ^^^ ones) l ^^^ ones
def sum (l : List UInt8) : Nat:=more 0 l
theorem step_lt {r : Nat} (h : r < 4294967296) : step r < 4294967296:=by
  unfold step;split
  · exact Nat.xor_lt_two_pow (n:=32) (by omega) (by unfold D;omega)
  · omega
theorem steps_lt {r : Nat} (h : r < 4294967296) (k : Nat) : steps k r < 4294967296:=by
  induction k with
  | zero=>exact h
  | succ k ih=>exact step_lt ih
theorem eat_lt {r : Nat} (h : r < 4294967296) (c : UInt8) : eat r c < 4294967296 :=
  steps_lt (Nat.xor_lt_two_pow (n:=32) (by omega) (by have:=c.toNat_lt;omega)) 8
theorem run_lt {r : Nat} (h : r < 4294967296) (l : List UInt8) : run r l < 4294967296:=by
  induction l generalizing r with
  | nil=>exact h
  | cons c l ih=>exact ih (eat_lt h c)
theorem more_lt {s : Nat} (h : s < 4294967296) (l : List UInt8) : more s l < 4294967296 :=
  Nat.xor_lt_two_pow (n:=32) (run_lt (Nat.xor_lt_two_pow (n:=32) (by omega) (by unfold ones;omega)) l) (by unfold ones;omega)
theorem sum_lt (l : List UInt8) : sum l < 4294967296:=more_lt (by omega) l
theorem run_snoc (r : Nat) (a : List UInt8) (c : UInt8) : run r (a ++ [c]) = eat (run r a) c:=by simp [run]
def bytesOf (s : Nat) : List UInt8:=[UInt8.ofNat s,UInt8.ofNat (s / 256),UInt8.ofNat (s / 65536),UInt8.ofNat (s / 16777216)]
theorem toNat_ofNat (s : Nat) : (UInt8.ofNat s).toNat = s % 256:=rfl
end Go.Proofs.YtfpenfgmpbdakaaGreat.Crc
