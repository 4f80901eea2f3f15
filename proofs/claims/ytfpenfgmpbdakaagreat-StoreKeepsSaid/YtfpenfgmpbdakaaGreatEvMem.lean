import Derived.Test.YtfpenfgmpbdakaaGreatEvWalks
import Derived.Test.YtfpenfgmpbdakaaGreatDotMem
namespace Go.Proofs.YtfpenfgmpbdakaaGreat
set_option linter.unusedVariables false
set_option linter.unusedSimpArgs false
set_option maxRecDepth 100000
open Go.RowKit
open Dot Evt
def ec (x : Ev) (s : Value) : Array Value:=#[.int .i64 x.d.1,.int .i64 x.d.2,.int .i64 x.t,.int .i64 x.k,.int .i64 x.w,.int .i64 x.v,.int .i64 (x.p.getD 0 0),.int .i64 (x.p.getD 1 0),.int .i64 (x.p.getD 2 0),.int .i64 (x.p.getD 3 0),.int .i64 (x.p.getD 4 0),.int .i64 (x.p.getD 5 0),.int .i64 (x.p.getD 6 0),s]
def pc (p : List Int) : Array Value:=#[.int .i64 (p.getD 0 0),.int .i64 (p.getD 1 0),.int .i64 (p.getD 2 0),.int .i64 (p.getD 3 0),.int .i64 (p.getD 4 0),.int .i64 (p.getD 5 0),.int .i64 (p.getD 6 0)]
theorem ec_one (x : Ev) (A : Option Addr) (n c : Nat) : (ec x (.slice A n c)).all (·.oneCell') = true:=by kernel_rfl
theorem rowE : RowT Tryz.prog 47 14:=⟨_,Tryz.underlying47,rfl,by kernel_rfl⟩
end Go.Proofs.YtfpenfgmpbdakaaGreat
