import Derived.Test.YtcgalmnllegnbaaMbMem
import Derived.Test.YtcgalmnllegnbaaEvRow
namespace Go.Proofs.Ytcgalmnllegnbaa
set_option linter.unusedVariables false
set_option linter.unusedSimpArgs false
set_option maxRecDepth 100000
open Go.RowKit
open Dot Evt
def mgc (m : Ms.Msg) (s1 s2 s3 : Value) : Array Value:=#[.int .i64 m.kind,.int .i64 m.frm,.int .i64 m.to,.int .i64 m.seq,.int .i64 m.node,.int .i64 (m.u.getD 0 0),.int .i64 (m.u.getD 1 0),.int .i64 (m.u.getD 2 0),.int .i64 (m.u.getD 3 0),.int .i64 (m.u.getD 4 0),.int .i64 (m.u.getD 5 0),.int .i64 (m.u.getD 6 0),.int .i64 (m.u.getD 7 0),s1,s2,s3]
theorem mgc_one (m : Ms.Msg) (A1 A2 A3 : Option Addr) (n1 c1 n2 c2 n3 c3 : Nat) : (mgc m (.slice A1 n1 c1) (.slice A2 n2 c2) (.slice A3 n3 c3)).all (·.oneCell') = true:=by kernel_rfl
theorem rowMg : RowT Try.prog 27 16:=⟨_,Try.underlying27,rfl,by kernel_rfl⟩
structure MgV where
  m : Ms.Msg
  A1 : Option Addr
  n1 : Nat
  c1 : Nat
  xs : List EvV
  A2 : Option Addr
  n2 : Nat
  c2 : Nat
  A3 : Option Addr
  n3 : Nat
  c3 : Nat
def MgV.cs (x : MgV) : Array Value:=mgc x.m (.slice x.A1 x.n1 x.c1) (.slice x.A2 x.n2 x.c2) (.slice x.A3 x.n3 x.c3)
theorem MgV.size (x : MgV) : x.cs.size = 16:=rfl
theorem MgV.one (x : MgV) : x.cs.all (·.oneCell') = true:=mgc_one ..
structure MgOk (w : World) (B : Nat) (x : MgV) : Prop where
  u : x.m.u.length = 8
  more : RdD w B x.A1 x.n1 x.m.more
  ev : RowEv w B x.A2 x.n2 x.xs
  es : x.m.ev = x.xs.map (·.e)
  mem : RdMb w B x.A3 x.n3 x.m.mem
section
variable {w w' : World} {B B' : Nat} {x : MgV}
theorem MgOk.below (h : MgOk w B x) (hb : Below B w w') : MgOk w' B x:=⟨h.u,h.more.below hb,h.ev.below hb,h.es,h.mem.below hb⟩
theorem MgOk.mono (h : MgOk w B x) (hB : B≤B') : MgOk w B' x:=⟨h.u,h.more.more hB,h.ev.more hB,h.es,h.mem.more hB⟩
end
end Go.Proofs.Ytcgalmnllegnbaa
