import Derived.KernelRfl
namespace Go.Proofs.Ytcgalmnllegnbaa.Vint
set_option linter.unusedVariables false
set_option linter.unusedSimpArgs false
set_option maxRecDepth 100000
def top : Nat:=1099511627776
def encF : Nat→Nat→List UInt8
  | 0,n=>[UInt8.ofNat n]
  | f + 1,n=>if n < 128 then [UInt8.ofNat n] else UInt8.ofNat (n % 128 + 128) :: encF f (n / 128)
def enc (n : Nat) : List UInt8:=encF 5 n
theorem toNat_ofNat (n : Nat) : (UInt8.ofNat n).toNat = n % 256:=rfl
theorem encF_length (f n : Nat) : (encF f n).length≤f + 1:=by
  induction f generalizing n with
  | zero=>simp [encF]
  | succ f ih =>
    unfold encF
    split
    · simp
    · have:=ih (n / 128);simp;omega
theorem enc_length (n : Nat) : (enc n).length≤6:=encF_length 5 n
theorem encF_pos (f n : Nat) : 1≤(encF f n).length:=by
  cases f with
  | zero=>simp [encF]
  | succ f=>unfold encF;split <;> simp
theorem enc_pos (n : Nat) : 1≤(enc n).length:=encF_pos 5 n
theorem or128 : ∀ x : Fin 256,x.val ||| 128 = x.val % 128 + 128:=by decide +kernel
end Go.Proofs.Ytcgalmnllegnbaa.Vint
