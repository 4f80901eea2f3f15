import Derived.Test.YtfpenfgmpbdakaaGreatVintMath
namespace Go.Proofs.YtfpenfgmpbdakaaGreat.Sto
set_option linter.unusedVariables false
set_option linter.unusedSimpArgs false
set_option maxRecDepth 100000
def upto (k : Nat) : Nat:=min (8 * k) 96
def told (kind : UInt8) (n : Nat) : List UInt8:=kind :: Vint.enc n
theorem told_len (kind : UInt8) (n : Nat) : (told kind n).length≤7:=by
  unfold told
  rw [List.length_cons]
  have:=Vint.enc_length n
  omega
end Go.Proofs.YtfpenfgmpbdakaaGreat.Sto
