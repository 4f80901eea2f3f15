import Derived.Test.YtcgalmnllegnbaaCrcMath
import Derived.Test.YtcgalmnllegnbaaVintMath
namespace Go.Proofs.Ytcgalmnllegnbaa.Frame
set_option linter.unusedVariables false
set_option linter.unusedSimpArgs false
set_option maxRecDepth 100000
def be (s : Nat) : List UInt8:=[UInt8.ofNat (s / 16777216),UInt8.ofNat (s / 65536),UInt8.ofNat (s / 256),UInt8.ofNat s]
def head (b : List UInt8) : List UInt8:=[1] ++ Vint.enc b.length ++ b
def frm (b : List UInt8) : List UInt8:=head b ++ be (Crc.sum (head b))
theorem be_length (s : Nat) : (be s).length = 4:=rfl
theorem head_length (b : List UInt8) : (head b).length = 1 + (Vint.enc b.length).length + b.length:=by simp [head];omega
theorem frm_length (b : List UInt8) : (frm b).length = 1 + (Vint.enc b.length).length + b.length + 4:=by simp [frm,head_length,be_length]
end Go.Proofs.Ytcgalmnllegnbaa.Frame
