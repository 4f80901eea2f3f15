import Derived.Test.YtcgalmnllegnbaaDotEq
import Derived.Test.YtcgalmnllegnbaaDotMath
import Derived.Test.YtcgalmnllegnbaaInts
namespace Go.Proofs.Ytcgalmnllegnbaa
set_option linter.unusedVariables false
set_option linter.unusedSimpArgs false
set_option maxRecDepth 100000
open Go.RowKit
open Dot
set_option maxHeartbeats 1000000 in
theorem put1_app (gs m c base : Nat) (n q : Int) (A : Option Addr) (M : List Int) (w : World)
    (hB : Blk w gs 75 #[.slice A m c]) (hO : OwnI w base A m c M) (hne : A.map (·.block) ≠ some gs) (hbase : base≤gs) (hml : m≤100000) :
    Calls Try.prog 74 #[.agg #[.int .i64 n,.int .i64 q],.pointer (some ⟨gs,0,none⟩)] w fun e w'=>e = .returned (.tuple #[])∧∃ A' c',Blk w' gs 75 #[.slice A' (m + 2) c']∧OwnI w' base A' (m + 2) c' (M ++ [n,q])∧A'.map (·.block) ≠ some gs∧Below base w w':=by
  go_enter Try.func74,Try.ntmps74
  go_upto_region 1 with fail
  refine nameW ?_;intro wv hwv;obtain ⟨b,hb⟩ : ∃ b,b = w.heap.size:=⟨_,rfl⟩;rw [← hb]
  have kb : Blk wv b 46 #[.int .i64 n,.int .i64 q]:=by rw [hwv,hb];exact Blk.new w _ _
  have hbs:=hB.lt
  have gb : Below base w wv:=by rw [hwv];exact (Below.refl _ _).alloc (by omega) _
  have kg : Blk wv gs 75 #[.slice A m c]:=by rw [hwv];exact hB.alloc _
  have oO : OwnI wv base A m c M:=by rw [hwv];exact hO.alloc _
  have t0 : wv.cell? ⟨b,0,none⟩ = some (.int .i64 n):=kb.cell 0;have t1 : wv.cell? ⟨b,1,none⟩ = some (.int .i64 q):=kb.cell 1;have c8 : wv.cell? ⟨gs,0,none⟩ = some (.slice A m c):=kg.cell 0
  have hgb : gs ≠ b:=by omega
  have hwb : b < wv.heap.size:=kb.lt
  have hbv : base≤wv.heap.size:=by have:=kg.lt;omega
  clear hwv hb
  go_wp2_with (at_builtin;refine wpList_appI rfl (.tmp 3) (.tmp 8) rfl rfl (oO.alloc _) (news:=[n,q]) rfl ⟨rfl,Rd.made _ _ _ _⟩ ?h2 ?h3 ?h4)
  case h2=>omega
  case h3=>simp;omega
  intro A' c' w2 o2 g2 m2 b2;have kg2 : Blk w2 gs 75 #[.slice A m c]:=(kg.alloc (.cells #[.int .i64 n,.int .i64 q] 3)).grown g2 hne
  have hne2 : A'.map (·.block) ≠ some gs:=by
    rcases m2 with h | h
    · rw [h];exact hne
    · rw [h]
      intro e
      injection e with e
      have:=kg.lt
      omega
  have c82 : w2.cell? ⟨gs,0,none⟩ = some (.slice A m c):=kg2.cell 0;have f82:=kg2.free 0;have bw:=((gb.alloc hbv (.cells #[.int .i64 n,.int .i64 q] 3)).trans b2).setCell (p:=⟨gs,0,none⟩) hbase (.slice A' (m + 2) c');have o3:=o2.setFar (p:=⟨gs,0,none⟩) hne2 (.slice A' (m + 2) c');have k3:=kg2.set_ 0 (.slice A' (m + 2) c');have HO3:=Lib.hid o3;have HB3:=Lib.hid bw;have HK3:=Lib.hid k3;clear g2 m2 b2 o2 o3 bw k3;go_wp2_with fail
  go_end0
  exact ⟨rfl,A',c',HK3.out,HO3.out,hne2,HB3.out⟩
end Go.Proofs.Ytcgalmnllegnbaa
