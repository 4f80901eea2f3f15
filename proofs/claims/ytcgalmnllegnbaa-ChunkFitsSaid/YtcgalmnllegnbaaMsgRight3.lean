import Derived.Test.YtcgalmnllegnbaaFramePut
import Derived.Test.YtcgalmnllegnbaaVintWalks
import Derived.WideLaws
import Derived.Test.YtcgalmnllegnbaaMsgMem
import Derived.Test.YtcgalmnllegnbaaDotEq
import Derived.Test.YtcgalmnllegnbaaEvRight
import Derived.Test.YtcgalmnllegnbaaFacts
namespace Go.Proofs.Ytcgalmnllegnbaa
set_option linter.unusedVariables false
set_option linter.unusedSimpArgs false
set_option maxRecDepth 100000
open Go.RowKit
namespace Frame
theorem frame15 (a f : Value) : (#[a] ++ (Array.replicate 14 undef).setIfInBounds 4 f : Array Value) = #[a,undef,undef,undef,undef,f,undef,undef,undef,undef,undef,undef,undef,undef,undef]:=by kernel_rfl
end Frame
end Go.Proofs.Ytcgalmnllegnbaa

namespace Go.Proofs.Ytcgalmnllegnbaa
set_option linter.unusedVariables false
set_option linter.unusedSimpArgs false
set_option maxRecDepth 100000
open Go.RowKit
open Dot Evt
theorem mwithin_any (n lo hi : Int) (w : World) : Calls Try.prog 43 #[.int .i64 n,.int .i64 lo,.int .i64 hi] w fun e w'=>e = .returned (.bool (inB n lo hi))∧w = w':=by
  have hs:=satw_any n lo hi w;obtain ⟨R,hR⟩ : ∃ R,R = inB n lo hi:=⟨_,rfl⟩;rw [← hR];rw [← within_eq] at hR
  generalize (if hi < n then hi else if n < lo then lo else n) = z at hs hR
  have HR:=Lib.hid hR;clear hR
  go_enter Try.func43,Try.ntmps43
  go_wp2_with fail;refine hs.mono ?_;rintro e w1 ⟨rfl,rfl⟩;go_wp2_with fail;go_ret;rw [HR.out];exact ⟨rfl,rfl⟩
theorem mnode_any (n : Int) (w : World) : Calls Try.prog 44 #[.int .i64 n] w fun e w'=>e = .returned (.bool (Ms.nodeB n))∧w = w':=by
  unfold Ms.nodeB
  go_enter Try.func44,Try.ntmps44
  go_wp2_with fail;refine (mwithin_any n 0 7 _).mono ?_;rintro e w1 ⟨rfl,rfl⟩;go_wp2_with fail;go_ret;exact ⟨rfl,rfl⟩
abbrev mflt (x : Int) : Value:=.iface 114 (.agg #[.int .i64 x])
theorem mmust_ok (x : Int) (w : World) :
    Calls Try.prog 32 #[.bool true,.int .i64 x] w fun e w'=>e = .returned (.tuple #[])∧w = w':=by
  go_enter Try.func32,Try.ntmps32
  go_wp2_with fail
  go_end0
  exact ⟨rfl,rfl⟩
theorem mmust_bad (x : Int) (w : World) :
    Calls Try.prog 32 #[.bool false,.int .i64 x] w fun e w'=>e = .panicked [{ v:=mflt x,recovered:=false }]∧w = w':=by
  go_enter Try.func32,Try.ntmps32
  go_wp2_with fail;exact ⟨rfl,rfl,rfl⟩
theorem massert_flt (x : Int) (w : World) : (Instr.typeAssert (mflt x) 20 114 true).run Try.prog w = .ok (.tuple #[.agg #[.int .i64 x],.bool true]) w:=by kernel_rfl
theorem mcaught_panic (g : Nat) (x : Int) (older : List PanicEntry) (v : Value) (w : World) (h0 : w.cell? ⟨g,0,none⟩ = some v) (hf : w.frozen? ⟨g,0,none⟩ = false) :
    CallsD Try.prog 31 #[.pointer (some ⟨g,0,none⟩)] (.panicking ({ v:=mflt x,recovered:=false } :: older)) w fun e u' w' =>
      e = .returned (.tuple #[])∧u' = .panicking ({ v:=mflt x,recovered:=true } :: older)∧w' = (w.alloc (.cells #[.int .i64 x] 114)).setCell ⟨g,0,none⟩ (.int .i64 x):=by
  have ta:=massert_flt x;have lt0:=World.block_lt_of_cell? w _ h0
  refine callsD_of_wpS Try.func31 rfl fun c₀ cs hu=>?_
  apply wpS_seq
  apply wpS_region
  simp [wpOpsS,go_sem,recoverD,hu,Try.ntmps31,Exit.thenS]
  refine wpS_of_wp ?_;rw [Frame.frame15];go_wp2_with fail
  simp [bodyPostS,results,Try.results31]
theorem mcaught_none (g : Nat) (w : World) :
    CallsD Try.prog 31 #[.pointer (some ⟨g,0,none⟩)] .returning w fun e u' w'=>e = .returned (.tuple #[])∧u' = .returning∧w' = w:=by
  refine callsD_of_wpS Try.func31 rfl fun c₀ cs hu=>?_
  apply wpS_seq
  apply wpS_region
  simp [wpOpsS,go_sem,recoverD,hu,Try.ntmps31,Exit.thenS]
  refine wpS_of_wp ?_;rw [Frame.frame15];go_wp2_with fail
  cases c₀
  simp_all [bodyPostS,results,Try.results31]
end Go.Proofs.Ytcgalmnllegnbaa

namespace Go.Proofs.Ytcgalmnllegnbaa
set_option linter.unusedVariables false
set_option linter.unusedSimpArgs false
set_option maxRecDepth 100000
open Go.RowKit
open Dot Evt
def pv (s n q v : Bool) : Value:=.agg #[.bool s,.bool n,.bool q,.bool v]
def hasV (k : Int) : Value:=pv (decide (k ≠ 5)) (decide (k = 2∨k = 3)) (decide (k = 4)) (decide (k = 5))
theorem rowPt : RowT Try.prog 73 4:=⟨_,Try.underlying73,rfl,by kernel_rfl⟩
theorem rowKs : RowT Try.prog 115 24:=⟨_,Try.underlying115,rfl,by kernel_rfl⟩
abbrev KS : Array Value:=#[.bool false,.bool false,.bool false,.bool false,.bool true,.bool false,.bool false,.bool false,.bool true,.bool true,.bool false,.bool false,.bool true,.bool true,.bool false,.bool false,.bool true,.bool false,.bool true,.bool false,.bool false,.bool false,.bool false,.bool true]
theorem ks_size : KS.size = 24:=rfl
theorem ks_one : KS.all (·.oneCell') = true:=by kernel_rfl
theorem pt_one (s n q v : Bool) : (#[Value.bool s,.bool n,.bool q,.bool v]).all (·.oneCell') = true:=by simp [Value.oneCell']
theorem rng4 {w : World} {g o : Nat} {T : TypeId} {cs : Array Value} {a b c d : Value} (k : Blk w g T cs) (h0 : cs[o]? = some a) (h1 : cs[o + 1]? = some b) (h2 : cs[o + 2]? = some c) (h3 : cs[o + 3]? = some d) : w.rangeAt g o (#[a,b,c,d]).toList:=fun j v hv=>by
  rw [k.cell]
  match j,hv with
  | 0,hv=>rw [Nat.add_zero,h0];exact hv
  | 1,hv=>rw [h1];exact hv
  | 2,hv=>rw [h2];exact hv
  | 3,hv=>rw [h3];exact hv
theorem has1_any (w : World) : Calls Try.prog 33 #[.int .i64 1] w fun e w'=>e = .returned (hasV 1)∧Below w.heap.size w w':=by
  go_enter Try.func33,Try.ntmps33
  go_upto_region 1 with fail
  refine nameW ?_;intro W hW;obtain ⟨G,hG⟩ : ∃ G,G = w.heap.size:=⟨_,rfl⟩;rw [← hG]
  have k0 : Blk W G 73 #[.bool false,.bool false,.bool false,.bool false]:=by rw [hW,hG];exact Blk.new w _ _
  have gb : Below w.heap.size w W:=by rw [hW];exact (Below.refl _ _).alloc (Nat.le_refl _) _
  have hGl : w.heap.size≤G:=by omega
  clear hW hG
  go_upto_region 2 with ((with_reducible refine wpList_st (cs:=KS) rowKs (Blk.new _ _ _) ks_size ?_ ks_one ?_ ?_ ?_);(rfl);rotate_left;(rfl);(rfl);intro w6 k6 g6 z6)
  have gn : Below W.heap.size W w6:=new_below g6;have k0:=k0.below gn k0.lt;have gb:=gb.trans (gn.mono gb.size);obtain ⟨H,hH⟩ : ∃ H,H = W.heap.size:=⟨_,rfl⟩;rw [← hH] at k6 ⊢;clear g6 z6 gn hH;have r4:=rng4 (o:=4) k6 rfl rfl rfl rfl
  go_wp2_with first
    | ((with_reducible refine wpList_ldr rowPt r4 rfl ?_ ?_);rotate_left;(rfl))
    | ((with_reducible refine wpList_st (cs:=#[.bool true,.bool false,.bool false,.bool false]) rowPt k0 rfl rfl (pt_one _ _ _ _) ?_ ?_ ?_);rotate_left;(rfl);(rfl);intro w7 k7 g7 z7)
  exact bodyPost_ret (v:=.agg #[.bool true,.bool false,.bool false,.bool false]) (results_blk rfl rowPt k7 rfl rfl) rfl ⟨rfl,gb.grown g7 gb.size (fun q hq=>by injection hq with hq;omega)⟩
theorem has2_any (w : World) : Calls Try.prog 33 #[.int .i64 2] w fun e w'=>e = .returned (hasV 2)∧Below w.heap.size w w':=by
  go_enter Try.func33,Try.ntmps33
  go_upto_region 1 with fail
  refine nameW ?_;intro W hW;obtain ⟨G,hG⟩ : ∃ G,G = w.heap.size:=⟨_,rfl⟩;rw [← hG]
  have k0 : Blk W G 73 #[.bool false,.bool false,.bool false,.bool false]:=by rw [hW,hG];exact Blk.new w _ _
  have gb : Below w.heap.size w W:=by rw [hW];exact (Below.refl _ _).alloc (Nat.le_refl _) _
  have hGl : w.heap.size≤G:=by omega
  clear hW hG
  go_upto_region 2 with ((with_reducible refine wpList_st (cs:=KS) rowKs (Blk.new _ _ _) ks_size ?_ ks_one ?_ ?_ ?_);(rfl);rotate_left;(rfl);(rfl);intro w6 k6 g6 z6)
  have gn : Below W.heap.size W w6:=new_below g6;have k0:=k0.below gn k0.lt;have gb:=gb.trans (gn.mono gb.size);obtain ⟨H,hH⟩ : ∃ H,H = W.heap.size:=⟨_,rfl⟩;rw [← hH] at k6 ⊢;clear g6 z6 gn hH;have r4:=rng4 (o:=8) k6 rfl rfl rfl rfl
  go_wp2_with first
    | ((with_reducible refine wpList_ldr rowPt r4 rfl ?_ ?_);rotate_left;(rfl))
    | ((with_reducible refine wpList_st (cs:=#[.bool true,.bool true,.bool false,.bool false]) rowPt k0 rfl rfl (pt_one _ _ _ _) ?_ ?_ ?_);rotate_left;(rfl);(rfl);intro w7 k7 g7 z7)
  exact bodyPost_ret (v:=.agg #[.bool true,.bool true,.bool false,.bool false]) (results_blk rfl rowPt k7 rfl rfl) rfl ⟨rfl,gb.grown g7 gb.size (fun q hq=>by injection hq with hq;omega)⟩
theorem has3_any (w : World) : Calls Try.prog 33 #[.int .i64 3] w fun e w'=>e = .returned (hasV 3)∧Below w.heap.size w w':=by
  go_enter Try.func33,Try.ntmps33
  go_upto_region 1 with fail
  refine nameW ?_;intro W hW;obtain ⟨G,hG⟩ : ∃ G,G = w.heap.size:=⟨_,rfl⟩;rw [← hG]
  have k0 : Blk W G 73 #[.bool false,.bool false,.bool false,.bool false]:=by rw [hW,hG];exact Blk.new w _ _
  have gb : Below w.heap.size w W:=by rw [hW];exact (Below.refl _ _).alloc (Nat.le_refl _) _
  have hGl : w.heap.size≤G:=by omega
  clear hW hG
  go_upto_region 2 with ((with_reducible refine wpList_st (cs:=KS) rowKs (Blk.new _ _ _) ks_size ?_ ks_one ?_ ?_ ?_);(rfl);rotate_left;(rfl);(rfl);intro w6 k6 g6 z6)
  have gn : Below W.heap.size W w6:=new_below g6;have k0:=k0.below gn k0.lt;have gb:=gb.trans (gn.mono gb.size);obtain ⟨H,hH⟩ : ∃ H,H = W.heap.size:=⟨_,rfl⟩;rw [← hH] at k6 ⊢;clear g6 z6 gn hH;have r4:=rng4 (o:=12) k6 rfl rfl rfl rfl
  go_wp2_with first
    | ((with_reducible refine wpList_ldr rowPt r4 rfl ?_ ?_);rotate_left;(rfl))
    | ((with_reducible refine wpList_st (cs:=#[.bool true,.bool true,.bool false,.bool false]) rowPt k0 rfl rfl (pt_one _ _ _ _) ?_ ?_ ?_);rotate_left;(rfl);(rfl);intro w7 k7 g7 z7)
  exact bodyPost_ret (v:=.agg #[.bool true,.bool true,.bool false,.bool false]) (results_blk rfl rowPt k7 rfl rfl) rfl ⟨rfl,gb.grown g7 gb.size (fun q hq=>by injection hq with hq;omega)⟩
theorem has4_any (w : World) : Calls Try.prog 33 #[.int .i64 4] w fun e w'=>e = .returned (hasV 4)∧Below w.heap.size w w':=by
  go_enter Try.func33,Try.ntmps33
  go_upto_region 1 with fail
  refine nameW ?_;intro W hW;obtain ⟨G,hG⟩ : ∃ G,G = w.heap.size:=⟨_,rfl⟩;rw [← hG]
  have k0 : Blk W G 73 #[.bool false,.bool false,.bool false,.bool false]:=by rw [hW,hG];exact Blk.new w _ _
  have gb : Below w.heap.size w W:=by rw [hW];exact (Below.refl _ _).alloc (Nat.le_refl _) _
  have hGl : w.heap.size≤G:=by omega
  clear hW hG
  go_upto_region 2 with ((with_reducible refine wpList_st (cs:=KS) rowKs (Blk.new _ _ _) ks_size ?_ ks_one ?_ ?_ ?_);(rfl);rotate_left;(rfl);(rfl);intro w6 k6 g6 z6)
  have gn : Below W.heap.size W w6:=new_below g6;have k0:=k0.below gn k0.lt;have gb:=gb.trans (gn.mono gb.size);obtain ⟨H,hH⟩ : ∃ H,H = W.heap.size:=⟨_,rfl⟩;rw [← hH] at k6 ⊢;clear g6 z6 gn hH;have r4:=rng4 (o:=16) k6 rfl rfl rfl rfl
  go_wp2_with first
    | ((with_reducible refine wpList_ldr rowPt r4 rfl ?_ ?_);rotate_left;(rfl))
    | ((with_reducible refine wpList_st (cs:=#[.bool true,.bool false,.bool true,.bool false]) rowPt k0 rfl rfl (pt_one _ _ _ _) ?_ ?_ ?_);rotate_left;(rfl);(rfl);intro w7 k7 g7 z7)
  exact bodyPost_ret (v:=.agg #[.bool true,.bool false,.bool true,.bool false]) (results_blk rfl rowPt k7 rfl rfl) rfl ⟨rfl,gb.grown g7 gb.size (fun q hq=>by injection hq with hq;omega)⟩
theorem has5_any (w : World) : Calls Try.prog 33 #[.int .i64 5] w fun e w'=>e = .returned (hasV 5)∧Below w.heap.size w w':=by
  go_enter Try.func33,Try.ntmps33
  go_upto_region 1 with fail
  refine nameW ?_;intro W hW;obtain ⟨G,hG⟩ : ∃ G,G = w.heap.size:=⟨_,rfl⟩;rw [← hG]
  have k0 : Blk W G 73 #[.bool false,.bool false,.bool false,.bool false]:=by rw [hW,hG];exact Blk.new w _ _
  have gb : Below w.heap.size w W:=by rw [hW];exact (Below.refl _ _).alloc (Nat.le_refl _) _
  have hGl : w.heap.size≤G:=by omega
  clear hW hG
  go_upto_region 2 with ((with_reducible refine wpList_st (cs:=KS) rowKs (Blk.new _ _ _) ks_size ?_ ks_one ?_ ?_ ?_);(rfl);rotate_left;(rfl);(rfl);intro w6 k6 g6 z6)
  have gn : Below W.heap.size W w6:=new_below g6;have k0:=k0.below gn k0.lt;have gb:=gb.trans (gn.mono gb.size);obtain ⟨H,hH⟩ : ∃ H,H = W.heap.size:=⟨_,rfl⟩;rw [← hH] at k6 ⊢;clear g6 z6 gn hH;have r4:=rng4 (o:=20) k6 rfl rfl rfl rfl
  go_wp2_with first
    | ((with_reducible refine wpList_ldr rowPt r4 rfl ?_ ?_);rotate_left;(rfl))
    | ((with_reducible refine wpList_st (cs:=#[.bool false,.bool false,.bool false,.bool true]) rowPt k0 rfl rfl (pt_one _ _ _ _) ?_ ?_ ?_);rotate_left;(rfl);(rfl);intro w7 k7 g7 z7)
  exact bodyPost_ret (v:=.agg #[.bool false,.bool false,.bool false,.bool true]) (results_blk rfl rowPt k7 rfl rfl) rfl ⟨rfl,gb.grown g7 gb.size (fun q hq=>by injection hq with hq;omega)⟩
theorem has17_any (k : Int) (w : World) (hk : 1≤k∧k≤5) : Calls Try.prog 33 #[.int .i64 k] w fun e w'=>e = .returned (hasV k)∧Below w.heap.size w w':=by
  obtain rfl | rfl | rfl | rfl | rfl : k = 1∨k = 2∨k = 3∨k = 4∨k = 5:=by omega
  · exact has1_any w
  · exact has2_any w
  · exact has3_any w
  · exact has4_any w
  · exact has5_any w
end Go.Proofs.Ytcgalmnllegnbaa

namespace Go.Proofs.Ytcgalmnllegnbaa
set_option linter.unusedVariables false
set_option linter.unusedSimpArgs false
set_option maxRecDepth 100000
open Go.RowKit
open Dot Evt
theorem askSeq_any (s n q v : Bool) (x : MgV) (w : World) : Calls Try.prog 46 #[pv s n q v,.agg x.cs] w fun e w'=>e = .returned (.bool (inB x.m.seq 0 (if q then 1 else if s then 1099511627776 else 0)))∧Below w.heap.size w w':=by
  obtain ⟨⟨kd,fr,tt,sq,nd,u,more,ev,mem⟩,A1,n1,c1,xs,A2,n2,c2,A3,n3,c3⟩:=x
  unfold MgV.cs mgc
  simp only
  generalize u.getD 0 0 = u0,u.getD 1 0 = u1,u.getD 2 0 = u2,u.getD 3 0 = u3,u.getD 4 0 = u4,u.getD 5 0 = u5,u.getD 6 0 = u6,u.getD 7 0 = u7
  unfold pv
  have hb : Below w.heap.size w ((w.alloc (.cells #[.bool s,.bool n,.bool q,.bool v] 73)).alloc (.cells #[.int .i64 kd,.int .i64 fr,.int .i64 tt,.int .i64 sq,.int .i64 nd,.int .i64 u0,.int .i64 u1,.int .i64 u2,.int .i64 u3,.int .i64 u4,.int .i64 u5,.int .i64 u6,.int .i64 u7,.slice A1 n1 c1,.slice A2 n2 c2,.slice A3 n3 c3] 27)):=((Below.refl _ _).alloc (Nat.le_refl _) _).alloc (by simp) _
  cases q
  case true =>
    cases s
    all_goals (
      go_enter Try.func46,Try.ntmps46
      go_wp2_with fail;refine (mwithin_any _ _ _ _).mono ?_;rintro e w1 ⟨rfl,rfl⟩;go_wp2_with fail;go_ret
      exact ⟨rfl,hb⟩)
  case false =>
    cases s
    all_goals (
      go_enter Try.func46,Try.ntmps46
      go_wp2_with fail;refine (mwithin_any _ _ _ _).mono ?_;rintro e w1 ⟨rfl,rfl⟩;go_wp2_with fail;go_ret
      exact ⟨rfl,hb⟩)
theorem askNode_any (s n q v : Bool) (x : MgV) (w : World) : Calls Try.prog 47 #[pv s n q v,.agg x.cs] w fun e w'=>e = .returned (.bool ((n && Ms.nodeB x.m.node) || decide (x.m.node = 0)))∧Below w.heap.size w w':=by
  obtain ⟨⟨kd,fr,tt,sq,nd,u,more,ev,mem⟩,A1,n1,c1,xs,A2,n2,c2,A3,n3,c3⟩:=x
  unfold MgV.cs mgc
  simp only
  generalize u.getD 0 0 = u0,u.getD 1 0 = u1,u.getD 2 0 = u2,u.getD 3 0 = u3,u.getD 4 0 = u4,u.getD 5 0 = u5,u.getD 6 0 = u6,u.getD 7 0 = u7
  unfold pv
  have hb : Below w.heap.size w ((w.alloc (.cells #[.bool s,.bool n,.bool q,.bool v] 73)).alloc (.cells #[.int .i64 kd,.int .i64 fr,.int .i64 tt,.int .i64 sq,.int .i64 nd,.int .i64 u0,.int .i64 u1,.int .i64 u2,.int .i64 u3,.int .i64 u4,.int .i64 u5,.int .i64 u6,.int .i64 u7,.slice A1 n1 c1,.slice A2 n2 c2,.slice A3 n3 c3] 27)):=((Below.refl _ _).alloc (Nat.le_refl _) _).alloc (by simp) _;have hn:=mnode_any nd
  generalize Ms.nodeB nd = R at *
  have hz : ((nd : Int) == 0) = decide (nd = 0):=rfl
  generalize hdz : decide (nd = 0) = Z at *
  cases n
  case true =>
    cases R
    all_goals (
      go_enter Try.func47,Try.ntmps47
      go_wp2_with fail;refine (hn _).mono ?_;rintro e w1 ⟨rfl,rfl⟩;go_wp2_with fail;go_ret
      exact ⟨rfl,hb⟩)
  case false =>
    go_enter Try.func47,Try.ntmps47
    go_wp2_with fail;go_ret;exact ⟨rfl,hb⟩
theorem mgv_at (x : MgV) : x.cs[0]? = some (.int .i64 x.m.kind)∧x.cs[1]? = some (.int .i64 x.m.frm)∧x.cs[2]? = some (.int .i64 x.m.to)∧x.cs[3]? = some (.int .i64 x.m.seq)∧x.cs[4]? = some (.int .i64 x.m.node)∧x.cs[13]? = some (.slice x.A1 x.n1 x.c1)∧x.cs[14]? = some (.slice x.A2 x.n2 x.c2)∧x.cs[15]? = some (.slice x.A3 x.n3 x.c3):=⟨rfl,rfl,rfl,rfl,rfl,rfl,rfl,rfl⟩
theorem mgv_u (x : MgV) (hu : x.m.u.length = 8) {w : World} {g : Nat} {T : TypeId} (k : Blk w g T x.cs) : w.rangeAt g 5 (x.m.u.map (Value.int .i64)):=fun j v hv=>by
  rw [k.cell];obtain ⟨⟨kd,fr,tt,sq,nd,u,more,ev,mem⟩,A1,n1,c1,xs,A2,n2,c2,A3,n3,c3⟩:=x
  simp only at hu hv
  match u,hu with
  | [u0,u1,u2,u3,u4,u5,u6,u7],_ =>
    match j,hv with
    | 0,hv=>exact hv
    | 1,hv=>exact hv
    | 2,hv=>exact hv
    | 3,hv=>exact hv
    | 4,hv=>exact hv
    | 5,hv=>exact hv
    | 6,hv=>exact hv
    | 7,hv=>exact hv
theorem seen_any (x : MgV) (hu : x.m.u.length = 8) (w : World) : Calls Try.prog 36 #[.agg x.cs] w fun e w'=>e = .returned (.agg (uc x.m.u (.slice x.A1 x.n1 x.c1)))∧Below w.heap.size w w':=by
  obtain ⟨⟨kd,fr,tt,sq,nd,u,more,ev,mem⟩,A1,n1,c1,xs,A2,n2,c2,A3,n3,c3⟩:=x
  simp only at hu
  match u,hu with
  | [u0,u1,u2,u3,u4,u5,u6,u7],_ =>
    unfold MgV.cs mgc uc
    simp only [List.getD_cons_zero,List.getD_cons_succ,List.map_cons,List.map_nil,List.cons_append,List.nil_append]
    go_enter Try.func36,Try.ntmps36
    go_upto_region 1 with fail
    refine nameW ?_;intro W hW;obtain ⟨G,hG⟩ : ∃ G,G = w.heap.size:=⟨_,rfl⟩;rw [← hG]
    have kb : Blk W G 27 #[.int .i64 kd,.int .i64 fr,.int .i64 tt,.int .i64 sq,.int .i64 nd,.int .i64 u0,.int .i64 u1,.int .i64 u2,.int .i64 u3,.int .i64 u4,.int .i64 u5,.int .i64 u6,.int .i64 u7,.slice A1 n1 c1,.slice A2 n2 c2,.slice A3 n3 c3]:=by rw [hW,hG];exact (Blk.new w _ _).alloc _
    have kz : Blk W (G + 1) 79 #[.int .i64 0,.int .i64 0,.int .i64 0,.int .i64 0,.int .i64 0,.int .i64 0,.int .i64 0,.int .i64 0,.slice none 0 0]:=by
      have h:=Blk.new (w.alloc (.cells #[.int .i64 kd,.int .i64 fr,.int .i64 tt,.int .i64 sq,.int .i64 nd,.int .i64 u0,.int .i64 u1,.int .i64 u2,.int .i64 u3,.int .i64 u4,.int .i64 u5,.int .i64 u6,.int .i64 u7,.slice A1 n1 c1,.slice A2 n2 c2,.slice A3 n3 c3] 27)) 79 #[.int .i64 0,.int .i64 0,.int .i64 0,.int .i64 0,.int .i64 0,.int .i64 0,.int .i64 0,.int .i64 0,.slice none 0 0];rw [hW,hG]
      simpa using h
    have gb : Below w.heap.size w W:=by rw [hW];exact ((Below.refl _ _).alloc (Nat.le_refl _) _).alloc (by simp) _
    have hGl : w.heap.size≤G + 1:=by omega
    have r5 : W.rangeAt G 5 (([u0,u1,u2,u3,u4,u5,u6,u7] : List Int).map (Value.int .i64)):=fun j v hv=>by
      rw [kb.cell]
      match j,hv with
      | 0,hv=>exact hv
      | 1,hv=>exact hv
      | 2,hv=>exact hv
      | 3,hv=>exact hv
      | 4,hv=>exact hv
      | 5,hv=>exact hv
      | 6,hv=>exact hv
      | 7,hv=>exact hv
    have k13 : W.cell? ⟨G,13,none⟩ = some (.slice A1 n1 c1):=kb.cell 13;clear hW hG kb
    go_wp2_with first
      | ((with_reducible refine wpList_ldm row8 r5 rfl ?_ ?_);rotate_left;(rfl))
      | ((with_reducible refine wpList_st (cs:=#[.int .i64 u0,.int .i64 u1,.int .i64 u2,.int .i64 u3,.int .i64 u4,.int .i64 u5,.int .i64 u6,.int .i64 u7,.slice A1 n1 c1]) rowS kz rfl rfl ?_ ?_ ?_ ?_);(exact uc_one (U:=[u0,u1,u2,u3,u4,u5,u6,u7]) (s:=.slice A1 n1 c1) rfl);rotate_left;(rfl);(rfl);intro w7 k7 g7 z7)
    exact bodyPost_ret (v:=.agg #[.int .i64 u0,.int .i64 u1,.int .i64 u2,.int .i64 u3,.int .i64 u4,.int .i64 u5,.int .i64 u6,.int .i64 u7,.slice A1 n1 c1]) (results_blk rfl rowS k7 rfl rfl) rfl ⟨rfl,gb.grown g7 gb.size (fun q hq=>by injection hq with hq;omega)⟩
def zeros8 : List Int:=[0,0,0,0,0,0,0,0]
set_option maxHeartbeats 1000000 in
theorem askSeen_any (s n q v : Bool) (x : MgV) (hu : x.m.u.length = 8) (wu : Wf x.m.u) (w : World) (hr : RdD w w.heap.size x.A1 x.n1 x.m.more) :
    Calls Try.prog 48 #[pv s n q v,.agg x.cs] w fun e w'=>e = .returned (.bool (if q then rightB x.m.u x.m.more else Ms.noSeen x.m))∧Below w.heap.size w w':=by
  have hs:=seen_any x hu;have HS:=Lib.hid hs
  have HR:=Lib.hid fun (w' : World) (h : RdD w' w'.heap.size x.A1 x.n1 x.m.more)=>right_any x.m.u hu x.A1 x.n1 x.c1 x.m.more w' h
  have HRD:=Lib.hid fun (w' : World) (h : Below w.heap.size w w')=>(hr.below h).more h.size
  have HN:=Lib.hid hr.1;have H13:=Lib.hid (mgv_at x).2.2.2.2.2.1
  have HU:=Lib.hid fun (w' : World) (g : Nat) (h : Blk w' g 27 x.cs)=>mgv_u x hu h
  have HUL:=Lib.hid hu;have HUM:=Lib.hid (show (x.m.u.map (Value.int .i64)).length = 8 by rw [List.length_map,hu]);have WU:=Lib.hid wu;have SZ:=Lib.hid x.size;have ONE:=Lib.hid x.one;have WZ:=Lib.hid (show Wf zeros8 from fun y hy=>by simp [zeros8] at hy;subst hy;exact wf_of (by omega) (by omega));have NS:=Lib.hid (show Ms.noSeen x.m = (decide (x.m.u = zeros8) && decide (x.m.more = [])) from rfl);clear hs hr hu wu
  unfold pv
  generalize hC : x.cs = C at *
  clear hC
  cases q
  case true =>
    go_enter Try.func48,Try.ntmps48
    go_upto_region 1 with fail
    refine nameW ?_;intro W hW;obtain ⟨G,hG⟩ : ∃ G,G = w.heap.size:=⟨_,rfl⟩;rw [← hG]
    have kb : Blk W (G + 1) 27 C:=by
      have h:=Blk.new (w.alloc (.cells #[.bool s,.bool n,.bool true,.bool v] 73)) 27 C;rw [hW,hG]
      simpa using h
    have kp : W.cell? ⟨G,2,none⟩ = some (.bool true):=by rw [hW,hG];exact ((Blk.new w 73 #[.bool s,.bool n,.bool true,.bool v]).alloc _).cell 2
    have gb : Below w.heap.size w W:=by rw [hW];exact ((Below.refl _ _).alloc (Nat.le_refl _) _).alloc (by simp) _
    clear hW hG
    go_wp2_with ((with_reducible refine wpList_ld rowMg kb SZ.out ?_ ?_);rotate_left;(rfl))
    refine (HS.out _).mono ?_;rintro e w1 ⟨rfl,b1⟩;have gb1:=gb.trans (b1.mono gb.size);clear kb kp gb b1;go_wp2_with fail;refine (HR.out _ (HRD.out _ gb1)).mono ?_;rintro e w2 ⟨rfl,b2⟩;have gb2:=gb1.trans (b2.mono gb1.size);go_wp2_with fail;go_ret;exact ⟨rfl,gb2⟩
  case false =>
    go_enter Try.func48,Try.ntmps48
    go_upto_region 1 with fail
    refine nameW ?_;intro W hW;obtain ⟨G,hG⟩ : ∃ G,G = w.heap.size:=⟨_,rfl⟩;rw [← hG]
    have kb : Blk W (G + 1) 27 C:=by
      have h:=Blk.new (w.alloc (.cells #[.bool s,.bool n,.bool false,.bool v] 73)) 27 C;rw [hW,hG]
      simpa using h
    have kp : W.cell? ⟨G,2,none⟩ = some (.bool false):=by rw [hW,hG];exact ((Blk.new w 73 #[.bool s,.bool n,.bool false,.bool v]).alloc _).cell 2
    have gb : Below w.heap.size w W:=by rw [hW];exact ((Below.refl _ _).alloc (Nat.le_refl _) _).alloc (by simp) _
    have r5:=HU.out _ _ kb;have k13 : W.cell? ⟨G + 1,13,none⟩ = some (.slice x.A1 x.n1 x.c1):=(kb.cell 13).trans H13.out;have hnm : x.n1 = x.m.more.length:=HN.out;clear hW hG kb
    by_cases hz : x.m.u = zeros8
    · by_cases hm : x.n1 = 0
      · have hres : Ms.noSeen x.m = true:=by rw [NS.out,decide_eq_true hz,decide_eq_true (List.eq_nil_of_length_eq_zero (by omega))];rfl
        have HRS:=Lib.hid hres;have hd : decide (x.m.u = zeros8) = true:=decide_eq_true hz;clear hres hz hnm
        go_upto_region 3 with fail
        go_wp2_with first
          | ((with_reducible refine wpList_ldm row8 r5 HUM.out ?_ ?_);rotate_left;(rfl);rw [show (x.m.u.map (Value.int .i64)).toArray = uI x.m.u from rfl])
          | ((with_reducible refine wpList_eq8 (A:=x.m.u) (B:=zeros8) HUL.out rfl WU.out WZ.out ?_ ?_ ?_);rotate_left;(rfl);(rfl);rw [hd])
        go_ret;rw [HRS.out];exact ⟨rfl,gb⟩
      · have hres : Ms.noSeen x.m = false:=by rw [NS.out,decide_eq_true hz,decide_eq_false (fun e=>hm (by rw [hnm,e];rfl))];rfl
        have hq0 : ((x.n1 : Int) == 0) = false:=by rw [beq_eq_false_iff_ne];omega
        have HRS:=Lib.hid hres;have hd : decide (x.m.u = zeros8) = true:=decide_eq_true hz;clear hres hz hnm
        go_upto_region 3 with fail
        go_wp2_with first
          | ((with_reducible refine wpList_ldm row8 r5 HUM.out ?_ ?_);rotate_left;(rfl);rw [show (x.m.u.map (Value.int .i64)).toArray = uI x.m.u from rfl])
          | ((with_reducible refine wpList_eq8 (A:=x.m.u) (B:=zeros8) HUL.out rfl WU.out WZ.out ?_ ?_ ?_);rotate_left;(rfl);(rfl);rw [hd])
        go_ret;rw [HRS.out];exact ⟨rfl,gb⟩
    · have hres : Ms.noSeen x.m = false:=by rw [NS.out,decide_eq_false hz];rfl
      have HRS:=Lib.hid hres;have hd : decide (x.m.u = zeros8) = false:=decide_eq_false hz;clear hres hz hnm
      go_upto_region 3 with fail
      go_wp2_with first
        | ((with_reducible refine wpList_ldm row8 r5 HUM.out ?_ ?_);rotate_left;(rfl);rw [show (x.m.u.map (Value.int .i64)).toArray = uI x.m.u from rfl])
        | ((with_reducible refine wpList_eq8 (A:=x.m.u) (B:=zeros8) HUL.out rfl WU.out WZ.out ?_ ?_ ?_);rotate_left;(rfl);(rfl);rw [hd])
      go_ret;rw [HRS.out];exact ⟨rfl,gb⟩
end Go.Proofs.Ytcgalmnllegnbaa

namespace Go.Proofs.Ytcgalmnllegnbaa
set_option linter.unusedVariables false
set_option linter.unusedSimpArgs false
set_option maxRecDepth 100000
open Go.RowKit
open Dot Evt
open Ms (Mem)
theorem members_bad {l : List Mem} {i : Nat} (h : i < l.length) (hb : Ms.memAt l i = false) : Ms.membersB l = false:=by
  rw [Bool.eq_false_iff];intro h2
  have:=(Ms.members_iff l).1 h2 i h
  rw [hb] at this
  cases this
theorem lastM_succ {l : List Mem} {k : Nat} (h : k < l.length) : Ms.lastM l (k + 1) = (l[k]).1:=by
  unfold Ms.lastM
  rw [if_neg (by omega),Nat.add_sub_cancel,List.getD_eq_getElem?_getD,List.getElem?_eq_getElem h]
  rfl
theorem memAt_eq {l : List Mem} {k : Nat} (h : k < l.length) : Ms.memAt l k = (Ms.nodeB (l[k]).1 && decide (Ms.lastM l k < (l[k]).1) && inB (l[k]).2.1 1 4 && inB (l[k]).2.2 0 1099511627776):=by
  unfold Ms.memAt
  rw [List.getD_eq_getElem?_getD,List.getElem?_eq_getElem h]
  rfl
set_option maxHeartbeats 1000000 in
theorem members_any (A : Option Addr) (n c : Nat) (l : List Mem) (w : World) (hl : RdMb w w.heap.size A n l) (hn : n≤maxLen) :
    Calls Try.prog 45 #[.slice A n c] w fun e w'=>e = .returned (.bool (Ms.membersB l))∧Below w.heap.size w w':=by
  obtain ⟨R,hR⟩ : ∃ R,R = Ms.membersB l:=⟨_,rfl⟩;rw [← hR];have HR:=Lib.hid hR;have HN:=Lib.hid hl.1
  have HRK:=Lib.hid fun (w' : World) (hb : Below w.heap.size w w')=>hl.below hb
  unfold maxLen at hn
  clear hR hl
  go_enter Try.func45,Try.ntmps45
  go_wp2_with fail
  go_loopw [3,8] (fun la i wr=>∃ k : Nat,k≤n∧i = .int .i64 k∧la = .int .i64 (Ms.lastM l k)∧(∀ j,j < k→Ms.memAt l j = true)∧Below w.heap.size w wr) (fun _ i _=>n - (intOf i).toNat)
  case atStart=>exact ⟨0,by omega,rfl,rfl,fun j hj=>by omega,Below.refl _ _⟩
  case round =>
    obtain ⟨k,hk,rfl,rfl,hall,gb⟩:=hrel;have HA:=Lib.hid hall;clear hall
    by_cases hlt : k < n
    · have hkl : k < l.length:=by rw [← HN.out];exact hlt
      obtain ⟨ad,hA,q5,q0,q1,q2⟩:=(HRK.out wr gb).2 k _ (List.getElem?_eq_getElem hkl);have hme:=memAt_eq hkl;have hls:=lastM_succ hkl
      have HB:=Lib.hid fun (h : Ms.memAt l k = false)=>members_bad hkl h
      have hk0 : (0 : Int)≤(k : Int):=by omega
      have hkn : (k : Int) < (n : Int):=by omega
      generalize l[k] = d at *
      obtain ⟨x,y,z⟩:=d
      simp only at q0 q1 q2 hme hls
      generalize Ms.lastM l k = la at *
      subst hA
      have hc1:=fun w=>mnode_any x w
      have hc3:=fun w=>mwithin_any y 1 4 w
      have hc4:=fun w=>mwithin_any z 0 1099511627776 w
      have gb1 : ∀ o : Obj,Below w.heap.size w (wr.alloc o):=fun o=>gb.alloc gb.size o
      have HG:=Lib.hid gb1;have HLS:=Lib.hid hls;clear hls gb1
      cases h1 : Ms.nodeB x
      case false =>
        rw [h1] at hme hc1
        have hr : R = false:=by rw [HR.out];exact HB.out hme
        subst hr;have H1:=Lib.hid hc1;clear hc1 hc3 hc4 hme h1 gb HR;go_wp2_with fail;refine (H1.out _).mono ?_;rintro e w1 ⟨rfl,rfl⟩;go_wp2_with fail;go_ret;exact ⟨rfl,HG.out _⟩
      case true =>
        by_cases h2 : x≤la
        · have hr : R = false:=by rw [HR.out];exact HB.out (by rw [hme,h1,decide_eq_false (by omega)];rfl)
          subst hr;rw [h1] at hc1;have H1:=Lib.hid hc1;have hd : decide (x≤la) = true:=decide_eq_true h2;clear hc1 hc3 hc4 hme h1 gb HR;go_wp2_with fail;refine (H1.out _).mono ?_;rintro e w1 ⟨rfl,rfl⟩;go_wp2_with fail;go_ret;exact ⟨rfl,HG.out _⟩
        · have hd : decide (x≤la) = false:=decide_eq_false h2
          have hme : Ms.memAt l k = (inB y 1 4 && inB z 0 1099511627776):=by rw [hme,h1,decide_eq_true (by omega)];rfl
          rw [h1] at hc1;have H1:=Lib.hid hc1
          cases h3 : inB y 1 4
          case false =>
            rw [h3] at hme hc3
            have hr : R = false:=by rw [HR.out];exact HB.out hme
            subst hr;have H3:=Lib.hid hc3;clear hc1 hc3 hc4 hme h1 h3 gb HR;go_wp2_with fail;refine (H1.out _).mono ?_;rintro e w1 ⟨rfl,rfl⟩;go_wp2_with fail;refine (H3.out _).mono ?_;rintro e w1 ⟨rfl,rfl⟩;go_wp2_with fail;go_ret;exact ⟨rfl,HG.out _⟩
          case true =>
            rw [h3] at hme hc3;have H3:=Lib.hid hc3
            cases h4 : inB z 0 1099511627776
            case false =>
              rw [h4] at hme hc4
              have hr : R = false:=by rw [HR.out];exact HB.out hme
              subst hr;have H4:=Lib.hid hc4;clear hc1 hc3 hc4 hme h1 h3 h4 gb HR;go_wp2_with fail;refine (H1.out _).mono ?_;rintro e w1 ⟨rfl,rfl⟩;go_wp2_with fail;refine (H3.out _).mono ?_;rintro e w1 ⟨rfl,rfl⟩;go_wp2_with fail;refine (H4.out _).mono ?_;rintro e w1 ⟨rfl,rfl⟩;go_wp2_with fail;go_ret;exact ⟨rfl,HG.out _⟩
            case true =>
              rw [h4] at hme hc4;have H4:=Lib.hid hc4;have HM:=Lib.hid hme;clear hc1 hc3 hc4 hme h1 h3 h4 gb;go_wp2_with fail;refine (H1.out _).mono ?_;rintro e w1 ⟨rfl,rfl⟩;go_wp2_with fail;refine (H3.out _).mono ?_;rintro e w1 ⟨rfl,rfl⟩;go_wp2_with fail;refine (H4.out _).mono ?_;rintro e w1 ⟨rfl,rfl⟩;go_wp2_with fail
              go_roundw
              case rel=>exact ⟨k + 1,by omega,by go_num,by rw [HLS.out],fun j hj=>by
                by_cases e : j = k
                · rw [e];exact HM.out
                · exact HA.out j (by omega),HG.out _⟩
              case measure=>simp [intOf];omega
    · have hr : R = true:=by
        rw [HR.out,Ms.members_iff];intro i hi;exact HA.out i (by have:=HN.out;omega)
      subst hr;have hkd : decide ((k : Int) < (n : Int)) = false:=decide_eq_false (by omega);go_wp2_with fail;go_ret;exact ⟨rfl,gb⟩
theorem all_offE {xs : List EvV} {k : Nat} (h : k < xs.length) (hb : rightE (xs[k]).e = false) : (xs.map (·.e)).all rightE = false:=by
  rw [Bool.eq_false_iff];intro h2
  have:=List.all_eq_true.1 h2 (xs[k]).e (List.mem_map.2 ⟨_,List.getElem_mem h,rfl⟩)
  rw [hb] at this
  cases this
set_option maxHeartbeats 1000000 in
theorem askEv_any (s n q v : Bool) (x : MgV) (w : World) (hr : RowEv w w.heap.size x.A2 x.n2 x.xs) (hes : x.m.ev = x.xs.map (·.e)) (hn : x.n2≤10000000000000) :
    Calls Try.prog 49 #[pv s n q v,.agg x.cs] w fun e w'=>e = .returned (.bool (if v then x.m.ev.all rightE && decide (x.m.ev.length≤768) else decide (x.m.ev = [])))∧Below w.heap.size w w':=by
  obtain ⟨R,hR⟩ : ∃ R,R = (if v then x.m.ev.all rightE && decide (x.m.ev.length≤768) else decide (x.m.ev = [])):=⟨_,rfl⟩;rw [← hR]
  have HRK:=Lib.hid fun (w' : World) (h : Below w.heap.size w w')=>hr.below h
  have HN:=Lib.hid hr.1;have H14:=Lib.hid (mgv_at x).2.2.2.2.2.2.1;have SZ:=Lib.hid x.size
  have hl : x.m.ev.length = x.n2:=by rw [hes,List.length_map,hr.1]
  rw [hes] at hR hl;clear hr hes
  unfold pv
  generalize hC : x.cs = C at *
  clear hC
  cases v
  case false =>
    have hz : R = decide ((x.n2 : Int) = 0):=by
      rw [hR,if_neg (by decide)]
      congr 1
      rw [eq_iff_iff]
      constructor
      · intro e;rw [e] at hl;simp at hl;omega
      · intro e;exact List.eq_nil_of_length_eq_zero (by omega)
    have HZ:=Lib.hid hz;clear hz hR
    go_enter Try.func49,Try.ntmps49
    go_upto_region 1 with fail
    refine nameW ?_;intro W hW;obtain ⟨G,hG⟩ : ∃ G,G = w.heap.size:=⟨_,rfl⟩;rw [← hG]
    have kb : Blk W (G + 1) 27 C:=by
      have h:=Blk.new (w.alloc (.cells #[.bool s,.bool n,.bool q,.bool false] 73)) 27 C;rw [hW,hG]
      simpa using h
    have kp : W.cell? ⟨G,3,none⟩ = some (.bool false):=by rw [hW,hG];exact ((Blk.new w 73 #[.bool s,.bool n,.bool q,.bool false]).alloc _).cell 3
    have gb : Below w.heap.size w W:=by rw [hW];exact ((Below.refl _ _).alloc (Nat.le_refl _) _).alloc (by simp) _
    have k14 : W.cell? ⟨G + 1,14,none⟩ = some (.slice x.A2 x.n2 x.c2):=(kb.cell 14).trans H14.out;clear hW hG kb;go_wp2_with fail;go_ret;rw [HZ.out];exact ⟨rfl,gb⟩
  case true =>
    rw [if_pos rfl,hl] at hR;have HR:=Lib.hid hR;clear hR
    go_enter Try.func49,Try.ntmps49
    go_upto_region 1 with fail
    refine nameW ?_;intro W hW;obtain ⟨G,hG⟩ : ∃ G,G = w.heap.size:=⟨_,rfl⟩;rw [← hG]
    have kb : Blk W (G + 1) 27 C:=by
      have h:=Blk.new (w.alloc (.cells #[.bool s,.bool n,.bool q,.bool true] 73)) 27 C;rw [hW,hG]
      simpa using h
    have kp : W.cell? ⟨G,3,none⟩ = some (.bool true):=by rw [hW,hG];exact ((Blk.new w 73 #[.bool s,.bool n,.bool q,.bool true]).alloc _).cell 3
    have gb : Below w.heap.size w W:=by rw [hW];exact ((Below.refl _ _).alloc (Nat.le_refl _) _).alloc (by simp) _
    have k14 : W.cell? ⟨G + 1,14,none⟩ = some (.slice x.A2 x.n2 x.c2):=(kb.cell 14).trans H14.out;have hGW : G + 1 < W.heap.size:=kb.lt;clear hW hG kb;go_wp2_with fail
    go_loopw [17] (fun i wr=>∃ k : Nat,k≤x.n2∧i = .int .i64 k∧(∀ j (h : j < x.xs.length),j < k→rightE (x.xs[j]).e = true)∧Below w.heap.size w wr∧Below W.heap.size W wr) (fun i _=>x.n2 - (intOf i).toNat)
    case atStart=>exact ⟨0,by omega,rfl,fun j _ hj=>by omega,gb,Below.refl _ _⟩
    case round =>
      clear gb;obtain ⟨k,hk,rfl,hall,gb,gW⟩:=hrel;have HA:=Lib.hid hall;clear hall
      by_cases hlt : k < x.n2
      · have hkl : k < x.xs.length:=by rw [← HN.out];exact hlt
        obtain ⟨hok,ad,hA,hab,hcell⟩:=(HRK.out wr gb).2 k _ (List.getElem?_eq_getElem hkl)
        have HOFF:=Lib.hid fun h=>all_offE hkl h
        have HAK:=Lib.hid fun (h : rightE (x.xs[k]).e = true) (j : Nat) (hj : j < x.xs.length) (hjk : j < k + 1)=>(by
          by_cases e : j = k
          · subst e;exact h
          · exact HA.out j hj (by omega) : rightE (x.xs[j]).e = true)
        have hright:=fun (w' : World) (h : RdD w' w'.heap.size (x.xs[k]).A (x.xs[k]).m (x.xs[k]).e.l)=>eright_any (x.xs[k]).e hok.1 (x.xs[k]).A (x.xs[k]).m (x.xs[k]).c w' h
        generalize x.xs[k] = y at *
        rw [hA] at *;obtain ⟨cs,hcs⟩ : ∃ cs,cs = y.cs:=⟨_,rfl⟩;have hec : ec y.e (.slice y.A y.m y.c) = cs:=hcs.symm;rw [← hcs] at hcell;rw [hec] at hright;have HSZ:=Lib.hid (show cs.size = 14 by rw [hcs];rfl);have H1C:=Lib.hid (show cs.all (·.oneCell') = true by rw [hcs];exact y.one);have HC:=Lib.hid hcell;have HRT:=Lib.hid hright
        have HOK:=Lib.hid fun (w' : World) (h : Below wr.heap.size wr w')=>((hok.2.1.below (h.mono gb.size)).more (show w.heap.size≤w'.heap.size by have:=h.size;have:=gb.size;omega))
        have hk0 : (0 : Int)≤(k : Int):=by omega
        have hkm : (k : Int) < (x.n2 : Int):=by omega
        clear hcs hec hcell hok hright
        go_upto_region 5 with fail
        go_upto_region 6 with first
          | ((with_reducible refine wpList_lda rowE HC.out HSZ.out ?_ ?_);rotate_left;(rfl))
          | ((with_reducible refine wpList_st rowE (Blk.new _ _ _) HSZ.out ?_ H1C.out ?_ ?_ ?_);(rfl);rotate_left;(rfl);(rfl);intro w6 k6 g6 z6)
        have bA : Below wr.heap.size wr w6:=new_below g6;have gb6:=gb.trans (bA.mono gb.size);have gW6:=gW.trans (bA.mono gW.size);have rd6:=HOK.out w6 bA;obtain ⟨gr,hgr2⟩ : ∃ gr,gr = wr.heap.size:=⟨_,rfl⟩;rw [← hgr2] at k6 ⊢;clear hgr2 g6 z6 bA gb gW
        cases hx : rightE y.e
        case false =>
          have hr : R = false:=by rw [HR.out,HOFF.out hx];rfl
          subst hr;have hrt:=HRT.out w6 rd6;rw [hx] at hrt;have HRT2:=Lib.hid hrt;clear hx hrt HRT
          go_wp2_with ((with_reducible refine wpList_ld rowE k6 HSZ.out ?_ ?_);rotate_left;(rfl))
          refine HRT2.out.mono ?_;rintro e w7 ⟨rfl,b7⟩;have gb7:=gb6.trans (b7.mono gb6.size);go_wp2_with fail;go_ret;exact ⟨rfl,gb7⟩
        case true =>
          have hrt:=HRT.out w6 rd6;rw [hx] at hrt;have HRT2:=Lib.hid hrt;have HX:=Lib.hid hx;clear hx hrt HRT
          go_wp2_with ((with_reducible refine wpList_ld rowE k6 HSZ.out ?_ ?_);rotate_left;(rfl))
          refine HRT2.out.mono ?_;rintro e w7 ⟨rfl,b7⟩;have gb7:=gb6.trans (b7.mono gb6.size);have gW7:=gW6.trans (b7.mono gW6.size);go_wp2_with fail
          go_roundw
          case rel=>exact ⟨k + 1,by omega,by go_num,HAK.out HX.out,gb7,gW7⟩
          case measure=>simp [intOf];omega
      · have hkd : decide ((k : Int) < (x.n2 : Int)) = false:=decide_eq_false (by omega)
        have k14b : wr.cell? ⟨G + 1,14,none⟩ = some (.slice x.A2 x.n2 x.c2):=(gW.cell hGW).trans k14
        have hr : R = decide ((x.n2 : Int)≤768):=by
          rw [HR.out]
          have h1 : (x.xs.map (·.e)).all rightE = true:=by
            rw [List.all_eq_true];intro e he;obtain ⟨y,hy,rfl⟩:=List.mem_map.1 he;obtain ⟨i,hi,rfl⟩:=List.getElem_of_mem hy;exact HA.out i hi (by have:=HN.out;omega)
          rw [h1,Bool.true_and]
          congr 1
          rw [eq_iff_iff]
          omega
        have HRR:=Lib.hid hr;clear hr;go_wp2_with fail;go_ret;rw [HRR.out];exact ⟨rfl,gb⟩
end Go.Proofs.Ytcgalmnllegnbaa

namespace Go.Proofs.Ytcgalmnllegnbaa
set_option linter.unusedVariables false
set_option linter.unusedSimpArgs false
set_option maxRecDepth 100000
open Go.RowKit
open Dot Evt
open Ms (Mem)
def asksM (m : Ms.Msg) : Nat→Bool
  | 0=>inB m.seq 0 (Ms.mostS m.kind)
  | 1=>Ms.askNode m
  | 2=>Ms.askSeen m
  | _=>Ms.askEv m
theorem ask0_any (x : MgV) (w : World) : Calls Try.prog 46 #[hasV x.m.kind,.agg x.cs] w fun e w'=>e = .returned (.bool (asksM x.m 0))∧Below w.heap.size w w':=by
  have h:=askSeq_any (decide (x.m.kind ≠ 5)) (decide (x.m.kind = 2∨x.m.kind = 3)) (decide (x.m.kind = 4)) (decide (x.m.kind = 5)) x w
  have e : inB x.m.seq 0 (if decide (x.m.kind = 4) = true then 1 else if decide (x.m.kind ≠ 5) = true then 1099511627776 else 0) = asksM x.m 0:=by
    show _ = inB x.m.seq 0 (Ms.mostS x.m.kind)
    congr 1
    unfold Ms.mostS Ms.top
    by_cases h4 : x.m.kind = 4
    · rw [if_pos (decide_eq_true h4),if_neg (by omega),if_pos h4]
    · rw [if_neg (by rw [decide_eq_false h4];decide)]
      by_cases h5 : x.m.kind = 5
      · rw [if_neg (by rw [decide_eq_false (by omega)];decide),if_pos h5]
      · rw [if_pos (decide_eq_true h5),if_neg h5,if_neg h4]
  rw [e] at h;exact h
theorem ask1_any (x : MgV) (w : World) : Calls Try.prog 47 #[hasV x.m.kind,.agg x.cs] w fun e w'=>e = .returned (.bool (asksM x.m 1))∧Below w.heap.size w w':=by
  have h:=askNode_any (decide (x.m.kind ≠ 5)) (decide (x.m.kind = 2∨x.m.kind = 3)) (decide (x.m.kind = 4)) (decide (x.m.kind = 5)) x w
  have e : ((decide (x.m.kind = 2∨x.m.kind = 3) && Ms.nodeB x.m.node) || decide (x.m.node = 0)) = asksM x.m 1:=by
    show _ = Ms.askNode x.m
    unfold Ms.askNode
    by_cases h4 : x.m.kind = 2∨x.m.kind = 3
    · rw [if_pos h4,decide_eq_true h4,Bool.true_and]
      by_cases hz : x.m.node = 0
      · rw [decide_eq_true hz,Bool.or_true,eq_comm,Ms.nodeB_iff]
        omega
      · rw [decide_eq_false hz,Bool.or_false]
    · rw [if_neg h4,decide_eq_false h4,Bool.false_and,Bool.false_or]
  rw [e] at h;exact h
theorem ask2_any (x : MgV) (hu : x.m.u.length = 8) (wu : Wf x.m.u) (w : World) (hr : RdD w w.heap.size x.A1 x.n1 x.m.more) : Calls Try.prog 48 #[hasV x.m.kind,.agg x.cs] w fun e w'=>e = .returned (.bool (asksM x.m 2))∧Below w.heap.size w w':=by
  have h:=askSeen_any (decide (x.m.kind ≠ 5)) (decide (x.m.kind = 2∨x.m.kind = 3)) (decide (x.m.kind = 4)) (decide (x.m.kind = 5)) x hu wu w hr
  have e : (if decide (x.m.kind = 4) = true then rightB x.m.u x.m.more else Ms.noSeen x.m) = asksM x.m 2:=by
    show _ = Ms.askSeen x.m
    unfold Ms.askSeen
    by_cases h4 : x.m.kind = 4
    · rw [if_pos (decide_eq_true h4),if_pos h4]
    · rw [if_neg (by rw [decide_eq_false h4];decide),if_neg h4]
  rw [e] at h;exact h
theorem ask3_any (x : MgV) (w : World) (hr : RowEv w w.heap.size x.A2 x.n2 x.xs) (hes : x.m.ev = x.xs.map (·.e)) (hn : x.n2≤10000000000000) : Calls Try.prog 49 #[hasV x.m.kind,.agg x.cs] w fun e w'=>e = .returned (.bool (asksM x.m 3))∧Below w.heap.size w w':=by
  have h:=askEv_any (decide (x.m.kind ≠ 5)) (decide (x.m.kind = 2∨x.m.kind = 3)) (decide (x.m.kind = 4)) (decide (x.m.kind = 5)) x w hr hes hn
  have e : (if decide (x.m.kind = 5) = true then x.m.ev.all rightE && decide (x.m.ev.length≤768) else decide (x.m.ev = [])) = asksM x.m 3:=by
    show _ = Ms.askEv x.m
    unfold Ms.askEv
    by_cases h4 : x.m.kind = 5
    · rw [if_pos (decide_eq_true h4),if_pos h4]
    · rw [if_neg (by rw [decide_eq_false h4];decide),if_neg h4]
  rw [e] at h;exact h
theorem right_asks (m : Ms.Msg) : Ms.rightM m = (Ms.headB m && (asksM m 0 && asksM m 1 && asksM m 2 && asksM m 3)):=by
  unfold Ms.rightM
  show (Ms.headB m && asksM m 0 && asksM m 1 && asksM m 2 && asksM m 3) = _
  simp only [Bool.and_assoc]
theorem asks_off (m : Ms.Msg) {k : Nat} (hk : k < 4) (h : asksM m k = false) : Ms.rightM m = false:=by
  rw [right_asks]
  obtain rfl | rfl | rfl | rfl : k = 0∨k = 1∨k = 2∨k = 3:=by omega
  all_goals (rw [h];simp)
theorem head_off {m : Ms.Msg} (h : Ms.headB m = false) : Ms.rightM m = false:=by rw [right_asks,h];rfl
theorem run_ask0 (w : World) : (Instr.index 92 (.agg #[.func (.func 46) #[] #[],.func (.func 47) #[] #[],.func (.func 48) #[] #[],.func (.func 49) #[] #[]]) (.int .i64 0)).run Try.prog w = .ok (.func (.func 46) #[] #[]) w:=by kernel_rfl
theorem run_ask1 (w : World) : (Instr.index 92 (.agg #[.func (.func 46) #[] #[],.func (.func 47) #[] #[],.func (.func 48) #[] #[],.func (.func 49) #[] #[]]) (.int .i64 1)).run Try.prog w = .ok (.func (.func 47) #[] #[]) w:=by kernel_rfl
theorem run_ask2 (w : World) : (Instr.index 92 (.agg #[.func (.func 46) #[] #[],.func (.func 47) #[] #[],.func (.func 48) #[] #[],.func (.func 49) #[] #[]]) (.int .i64 2)).run Try.prog w = .ok (.func (.func 48) #[] #[]) w:=by kernel_rfl
theorem run_ask3 (w : World) : (Instr.index 92 (.agg #[.func (.func 46) #[] #[],.func (.func 47) #[] #[],.func (.func 48) #[] #[],.func (.func 49) #[] #[]]) (.int .i64 3)).run Try.prog w = .ok (.func (.func 49) #[] #[]) w:=by kernel_rfl
structure MgIn (w : World) (x : MgV) : Prop where
  ok : MgOk w w.heap.size x
  wu : Wf x.m.u
  b2 : x.n2≤10000000000000
  b3 : x.n3≤maxLen
theorem MgIn.below {w w' : World} {x : MgV} (h : MgIn w x) (hb : Below w.heap.size w w') : MgIn w' x:=⟨(h.ok.below hb).mono hb.size,h.wu,h.b2,h.b3⟩
set_option maxHeartbeats 2000000 in
theorem mright_any (x : MgV) (w : World) (h : MgIn w x) : Calls Try.prog 14 #[.agg x.cs] w fun e w'=>e = .returned (.bool (Ms.rightM x.m))∧Below w.heap.size w w':=by
  obtain ⟨R,hR⟩ : ∃ R,R = Ms.rightM x.m:=⟨_,rfl⟩;rw [← hR];have HR:=Lib.hid hR;have HIN:=Lib.hid h;have HAT:=Lib.hid (mgv_at x);have SZ:=Lib.hid x.size
  have h1:=fun w=>mwithin_any x.m.kind 1 5 w
  have h2:=fun w=>mnode_any x.m.frm w
  have h3:=fun w=>mnode_any x.m.to w
  have h5:=fun (w' : World) (hb : Below w.heap.size w w')=>members_any x.A3 x.n3 x.c3 x.m.mem w' (h.below hb).ok.mem h.b3
  have hh : Ms.headB x.m = (inB x.m.kind 1 5 && Ms.nodeB x.m.frm && Ms.nodeB x.m.to && !decide (x.m.frm = x.m.to) && Ms.membersB x.m.mem):=rfl
  have HH:=Lib.hid fun (hk : inB x.m.kind 1 5 = true) (w' : World)=>has17_any x.m.kind w' ((inB_iff _ _ _).1 hk)
  have HA0:=Lib.hid fun (w' : World)=>ask0_any x w'
  have HA1:=Lib.hid fun (w' : World)=>ask1_any x w'
  have HA2:=Lib.hid fun (w' : World) (hb : Below w.heap.size w w')=>ask2_any x h.ok.u h.wu w' (h.below hb).ok.more
  have HA3:=Lib.hid fun (w' : World) (hb : Below w.heap.size w w')=>ask3_any x w' (h.below hb).ok.ev h.ok.es h.b2
  clear h hR
  generalize hC : x.cs = C at *
  clear hC;have b1:=HAT.out
  go_enter Try.func14,Try.ntmps14
  go_upto_region 1 with fail
  refine nameW ?_;intro W hW;obtain ⟨g,hg⟩ : ∃ g,g = w.heap.size:=⟨_,rfl⟩;rw [← hg]
  have kb : Blk W g 27 C:=by rw [hW,hg];exact Blk.new w _ _
  have gb : Below w.heap.size w W:=by rw [hW];exact (Below.refl _ _).alloc (Nat.le_refl _) _
  have t0 : W.cell? ⟨g,0,none⟩ = some (.int .i64 x.m.kind):=(kb.cell 0).trans b1.1;have t1 : W.cell? ⟨g,1,none⟩ = some (.int .i64 x.m.frm):=(kb.cell 1).trans b1.2.1;have t2 : W.cell? ⟨g,2,none⟩ = some (.int .i64 x.m.to):=(kb.cell 2).trans b1.2.2.1;have t15 : W.cell? ⟨g,15,none⟩ = some (.slice x.A3 x.n3 x.c3):=(kb.cell 15).trans b1.2.2.2.2.2.2.2;have hgW : g < W.heap.size:=kb.lt;have H5:=Lib.hid (h5 W gb);clear hW hg b1 h5
  cases c1 : inB x.m.kind 1 5
  case false =>
    have hr : R = false:=by rw [HR.out];exact head_off (by rw [hh,c1];rfl)
    subst hr;rw [c1] at h1;have H1:=Lib.hid h1;clear h1 h2 h3 hh c1 kb HH;go_wp2_with fail;refine (H1.out _).mono ?_;rintro e w1 ⟨rfl,rfl⟩;go_wp2_with fail;go_ret;exact ⟨rfl,gb⟩
  rw [c1] at h1 hh;have H1:=Lib.hid h1;have HHK:=Lib.hid (HH.out c1);clear h1 c1 HH
  cases c2 : Ms.nodeB x.m.frm
  case false =>
    have hr : R = false:=by rw [HR.out];exact head_off (by rw [hh,c2];rfl)
    subst hr;rw [c2] at h2;have H2:=Lib.hid h2;clear h2 h3 hh c2 kb;go_wp2_with fail;refine (H1.out _).mono ?_;rintro e w1 ⟨rfl,rfl⟩;go_wp2_with fail;refine (H2.out _).mono ?_;rintro e w1 ⟨rfl,rfl⟩;go_wp2_with fail;go_ret;exact ⟨rfl,gb⟩
  rw [c2] at h2 hh;have H2:=Lib.hid h2;clear h2 c2
  cases c3 : Ms.nodeB x.m.to
  case false =>
    have hr : R = false:=by rw [HR.out];exact head_off (by rw [hh,c3];rfl)
    subst hr;rw [c3] at h3;have H3:=Lib.hid h3;clear h3 hh c3 kb;go_wp2_with fail;refine (H1.out _).mono ?_;rintro e w1 ⟨rfl,rfl⟩;go_wp2_with fail;refine (H2.out _).mono ?_;rintro e w1 ⟨rfl,rfl⟩;go_wp2_with fail;refine (H3.out _).mono ?_;rintro e w1 ⟨rfl,rfl⟩;go_wp2_with fail;go_ret;exact ⟨rfl,gb⟩
  rw [c3] at h3 hh;have H3:=Lib.hid h3;clear h3 c3
  by_cases c4 : x.m.frm = x.m.to
  · have hr : R = false:=by rw [HR.out];exact head_off (by rw [hh,decide_eq_true c4];rfl)
    subst hr
    have hq : ((x.m.frm : Int) == x.m.to) = true:=by rw [c4];simp
    clear hh c4 kb;go_wp2_with fail;refine (H1.out _).mono ?_;rintro e w1 ⟨rfl,rfl⟩;go_wp2_with fail;refine (H2.out _).mono ?_;rintro e w1 ⟨rfl,rfl⟩;go_wp2_with fail;refine (H3.out _).mono ?_;rintro e w1 ⟨rfl,rfl⟩;go_wp2_with fail;go_ret;exact ⟨rfl,gb⟩
  have hq : ((x.m.frm : Int) == x.m.to) = false:=by rw [beq_eq_false_iff_ne];exact c4
  rw [decide_eq_false c4] at hh;clear c4;have h5:=H5.out
  cases c5 : Ms.membersB x.m.mem
  case false =>
    have hr : R = false:=by rw [HR.out];exact head_off (by rw [hh,c5];rfl)
    subst hr;rw [c5] at h5;have H5b:=Lib.hid h5;clear h5 hh c5 kb H5;go_wp2_with fail;refine (H1.out _).mono ?_;rintro e w1 ⟨rfl,rfl⟩;go_wp2_with fail;refine (H2.out _).mono ?_;rintro e w1 ⟨rfl,rfl⟩;go_wp2_with fail;refine (H3.out _).mono ?_;rintro e w1 ⟨rfl,rfl⟩;go_wp2_with fail;refine H5b.out.mono ?_;rintro e w2 ⟨rfl,b2⟩;have gb:=gb.trans (b2.mono gb.size);go_wp2_with fail;go_ret;exact ⟨rfl,gb⟩
  rw [c5] at h5 hh;have H5b:=Lib.hid h5;have HHD:=Lib.hid (show Ms.headB x.m = true from hh);clear h5 hh c5 H5;go_wp2_with fail;refine (H1.out _).mono ?_;rintro e w1 ⟨rfl,rfl⟩;go_wp2_with fail;refine (H2.out _).mono ?_;rintro e w1 ⟨rfl,rfl⟩;go_wp2_with fail;refine (H3.out _).mono ?_;rintro e w1 ⟨rfl,rfl⟩;go_wp2_with fail;refine H5b.out.mono ?_;rintro e w2 ⟨rfl,b2⟩;have gb:=gb.trans (b2.mono gb.size);have kb:=kb.below b2 kb.lt;clear t0 t1 t2 t15 hgW b2 H1 H2 H3 H5b;go_wp2_with fail
  go_loopw [35] (fun i wr=>∃ k : Nat,k≤4∧i = .int .i64 k∧(∀ j,j < k→asksM x.m j = true)∧Below w.heap.size w wr∧Blk wr g 27 C) (fun i _=>4 - (intOf i).toNat)
  case atStart=>exact ⟨0,by omega,rfl,fun j hj=>by omega,gb,kb⟩
  case round =>
    clear gb kb;obtain ⟨k,hk,rfl,hall,gb,kb⟩:=hrel;have HA:=Lib.hid hall;clear hall;have t0 : wr.cell? ⟨g,0,none⟩ = some (.int .i64 x.m.kind):=(kb.cell 0).trans HAT.out.1;have hgW : g < wr.heap.size:=kb.lt
    by_cases hlt : k < 4
    · obtain rfl | rfl | rfl | rfl : k = 0∨k = 1∨k = 2∨k = 3:=by omega
      · have HOFF:=Lib.hid fun (h : asksM x.m 0 = false)=>asks_off x.m (k:=0) (by omega) h
        go_upto_region 6 with ((with_reducible refine wpList_ix (run_ask0 _) ?_ ?_ ?_);rotate_left;(rfl);(rfl))
        refine wp_region_tailF 6 5 (fun L v w=>v 1 = .pointer (some ⟨g,0,none⟩)∧v 4 = .func (.func 46) #[] #[]∧Below wr.heap.size wr w∧(L 0 = true→v 38 = .func (.func 46) #[] #[])∧(L 1 = true→v 39 = .pointer (some ⟨g,0,none⟩))∧(L 2 = true→v 40 = .int .i64 x.m.kind)∧(L 3 = true→v 41 = hasV x.m.kind)∧(L 4 = true→v 42 = .agg C)) [38,39,40,41,42] (by kernel_rfl) (by kernel_rfl) (by kernel_rfl) (by kernel_rfl) (by kernel_rfl) (by kernel_rfl) ?h0 ?hst ?hend
        case h0 =>
          intro L h0;have h0 : ∀ i,i < 5→L i = false:=h0;exact ⟨rfl,rfl,(Below.refl _ _).drew,offF h0 (i:=0) (by decide),offF h0 (i:=1) (by decide),offF h0 (i:=2) (by decide),offF h0 (i:=3) (by decide),offF h0 (i:=4) (by decide)⟩
        case hst =>
          show FactSteps _ _ _ _ [0,1,2,3,4]
          refine @FactSteps.cons _ _ _ _ 0 _ [] _ rfl (by kernel_rfl) ?s0 ?_;rotate_left;refine @FactSteps.cons _ _ _ _ 1 _ [] _ rfl (by kernel_rfl) ?s1 ?_;rotate_left;refine @FactSteps.cons _ _ _ _ 2 _ [1] _ rfl (by kernel_rfl) ?s2 ?_;rotate_left;refine @FactSteps.cons _ _ _ _ 3 _ [2] _ rfl (by kernel_rfl) ?s3 ?_;rotate_left;refine @FactSteps.cons _ _ _ _ 4 _ [] _ rfl (by kernel_rfl) ?s4 ?_;rotate_left;exact FactSteps.nil
          case s0 =>
            rintro L a v w hv hg hL hd hcl ⟨e1,e4,hb,f0,f1,f2,f3,f4⟩ K hK;refine step_do rfl ?_;clear hv;go_simp;exact hK.out _ _ ⟨e1,e4,hb,fun _=>rfl,f1,f2,f3,f4⟩
          case s1 =>
            rintro L a v w hv hg hL hd hcl ⟨e1,e4,hb,f0,f1,f2,f3,f4⟩ K hK;refine step_do rfl ?_;clear hv;go_simp;exact hK.out _ _ ⟨e1,e4,hb,f0,fun _=>rfl,f2,f3,f4⟩
          case s2 =>
            rintro L a v w hv hg hL hd hcl ⟨e1,e4,hb,f0,f1,f2,f3,f4⟩ K hK;have g1:=f1 (hd 1 (by decide));have hc:=(hb.cell (p:=⟨g,0,none⟩) hgW).trans t0;refine step_do rfl ?_;clear hv;go_simp;exact hK.out _ _ ⟨e1,e4,hb,f0,f1,fun _=>rfl,f3,f4⟩
          case s3 =>
            rintro L a v w hv hg hL hd hcl ⟨e1,e4,hb,f0,f1,f2,f3,f4⟩ K hK;have h2:=f2 (hd 2 (by decide));refine step_do rfl ?_;clear hv;go_simp;refine (HHK.out w).mono ?_;rintro e wy ⟨rfl,bb⟩;exact hK.out _ _ ⟨e1,e4,(hb.trans (bb.mono hb.size)),f0,f1,f2,fun _=>rfl,f4⟩
          case s4 =>
            rintro L a v w hv hg hL hd hcl ⟨e1,e4,hb,f0,f1,f2,f3,f4⟩ K hK;refine step_do rfl ?_;refine wp_ld rowMg (.tmp 1) rfl ((hv 1).trans e1) (kb.below hb kb.lt) SZ.out ?_;exact hK.out _ _ ⟨e1,e4,hb,f0,f1,f2,f3,fun _=>rfl⟩
        case hend =>
        rintro L v wx hall ⟨e1,e4,hb,f0,f1,f2,f3,f4⟩;have hL : ∀ i,i < 5→L i = true:=hall;have f0:=f0 (hL 0 (by decide));have f1:=f1 (hL 1 (by decide));have f2:=f2 (hL 2 (by decide));have f3:=f3 (hL 3 (by decide));have f4:=f4 (hL 4 (by decide))
        simp only [finA,List.foldl_cons,List.foldl_nil,Act.put,List.setIfInBounds_toArray,List.set_cons_succ,List.set_cons_zero,f0,f1,f2,f4,f3]
        have HC:=Lib.hid (HA0.out wx);have gbx:=gb.trans (hb.mono gb.size);have kbx:=kb.below hb kb.lt;clear e1 e4 f0 f1 f2 f3 f4 hL hall;clear kb gb t0 hgW
        show wpList _ _ _ [_,_] _ _
        have hcv:=HC.out
        cases ca : asksM x.m 0
        case false =>
          have hr : R = false:=by rw [HR.out];exact HOFF.out ca
          subst hr;rw [ca] at hcv;have HCV:=Lib.hid hcv;clear hcv ca HC;go_wp2_with fail;refine HCV.out.mono ?_;rintro e w3 ⟨rfl,b3⟩;have gb:=gbx.trans (b3.mono gbx.size);go_wp2_with fail;go_ret;exact ⟨rfl,gb⟩
        case true =>
          rw [ca] at hcv;have HCV:=Lib.hid hcv;have HCA:=Lib.hid ca;clear hcv ca HC;go_wp2_with fail;refine HCV.out.mono ?_;rintro e w3 ⟨rfl,b3⟩;have gb:=gbx.trans (b3.mono gbx.size);have kb:=kbx.below b3 kbx.lt;go_wp2_with fail
          go_roundw
          case rel=>exact ⟨1,by omega,by go_num,fun j hj=>by
            by_cases e : j = 0
            · rw [e];exact HCA.out
            · exact HA.out j (by omega),gb,kb⟩
          case measure=>simp [intOf]
      · have HOFF:=Lib.hid fun (h : asksM x.m 1 = false)=>asks_off x.m (k:=1) (by omega) h
        go_upto_region 6 with ((with_reducible refine wpList_ix (run_ask1 _) ?_ ?_ ?_);rotate_left;(rfl);(rfl))
        refine wp_region_tailF 6 5 (fun L v w=>v 1 = .pointer (some ⟨g,0,none⟩)∧v 4 = .func (.func 47) #[] #[]∧Below wr.heap.size wr w∧(L 0 = true→v 38 = .func (.func 47) #[] #[])∧(L 1 = true→v 39 = .pointer (some ⟨g,0,none⟩))∧(L 2 = true→v 40 = .int .i64 x.m.kind)∧(L 3 = true→v 41 = hasV x.m.kind)∧(L 4 = true→v 42 = .agg C)) [38,39,40,41,42] (by kernel_rfl) (by kernel_rfl) (by kernel_rfl) (by kernel_rfl) (by kernel_rfl) (by kernel_rfl) ?h0 ?hst ?hend
        case h0 =>
          intro L h0;have h0 : ∀ i,i < 5→L i = false:=h0;exact ⟨rfl,rfl,(Below.refl _ _).drew,offF h0 (i:=0) (by decide),offF h0 (i:=1) (by decide),offF h0 (i:=2) (by decide),offF h0 (i:=3) (by decide),offF h0 (i:=4) (by decide)⟩
        case hst =>
          show FactSteps _ _ _ _ [0,1,2,3,4]
          refine @FactSteps.cons _ _ _ _ 0 _ [] _ rfl (by kernel_rfl) ?s0 ?_;rotate_left;refine @FactSteps.cons _ _ _ _ 1 _ [] _ rfl (by kernel_rfl) ?s1 ?_;rotate_left;refine @FactSteps.cons _ _ _ _ 2 _ [1] _ rfl (by kernel_rfl) ?s2 ?_;rotate_left;refine @FactSteps.cons _ _ _ _ 3 _ [2] _ rfl (by kernel_rfl) ?s3 ?_;rotate_left;refine @FactSteps.cons _ _ _ _ 4 _ [] _ rfl (by kernel_rfl) ?s4 ?_;rotate_left;exact FactSteps.nil
          case s0 =>
            rintro L a v w hv hg hL hd hcl ⟨e1,e4,hb,f0,f1,f2,f3,f4⟩ K hK;refine step_do rfl ?_;clear hv;go_simp;exact hK.out _ _ ⟨e1,e4,hb,fun _=>rfl,f1,f2,f3,f4⟩
          case s1 =>
            rintro L a v w hv hg hL hd hcl ⟨e1,e4,hb,f0,f1,f2,f3,f4⟩ K hK;refine step_do rfl ?_;clear hv;go_simp;exact hK.out _ _ ⟨e1,e4,hb,f0,fun _=>rfl,f2,f3,f4⟩
          case s2 =>
            rintro L a v w hv hg hL hd hcl ⟨e1,e4,hb,f0,f1,f2,f3,f4⟩ K hK;have g1:=f1 (hd 1 (by decide));have hc:=(hb.cell (p:=⟨g,0,none⟩) hgW).trans t0;refine step_do rfl ?_;clear hv;go_simp;exact hK.out _ _ ⟨e1,e4,hb,f0,f1,fun _=>rfl,f3,f4⟩
          case s3 =>
            rintro L a v w hv hg hL hd hcl ⟨e1,e4,hb,f0,f1,f2,f3,f4⟩ K hK;have h2:=f2 (hd 2 (by decide));refine step_do rfl ?_;clear hv;go_simp;refine (HHK.out w).mono ?_;rintro e wy ⟨rfl,bb⟩;exact hK.out _ _ ⟨e1,e4,(hb.trans (bb.mono hb.size)),f0,f1,f2,fun _=>rfl,f4⟩
          case s4 =>
            rintro L a v w hv hg hL hd hcl ⟨e1,e4,hb,f0,f1,f2,f3,f4⟩ K hK;refine step_do rfl ?_;refine wp_ld rowMg (.tmp 1) rfl ((hv 1).trans e1) (kb.below hb kb.lt) SZ.out ?_;exact hK.out _ _ ⟨e1,e4,hb,f0,f1,f2,f3,fun _=>rfl⟩
        case hend =>
        rintro L v wx hall ⟨e1,e4,hb,f0,f1,f2,f3,f4⟩;have hL : ∀ i,i < 5→L i = true:=hall;have f0:=f0 (hL 0 (by decide));have f1:=f1 (hL 1 (by decide));have f2:=f2 (hL 2 (by decide));have f3:=f3 (hL 3 (by decide));have f4:=f4 (hL 4 (by decide))
        simp only [finA,List.foldl_cons,List.foldl_nil,Act.put,List.setIfInBounds_toArray,List.set_cons_succ,List.set_cons_zero,f0,f1,f2,f4,f3]
        have HC:=Lib.hid (HA1.out wx);have gbx:=gb.trans (hb.mono gb.size);have kbx:=kb.below hb kb.lt;clear e1 e4 f0 f1 f2 f3 f4 hL hall;clear kb gb t0 hgW
        show wpList _ _ _ [_,_] _ _
        have hcv:=HC.out
        cases ca : asksM x.m 1
        case false =>
          have hr : R = false:=by rw [HR.out];exact HOFF.out ca
          subst hr;rw [ca] at hcv;have HCV:=Lib.hid hcv;clear hcv ca HC;go_wp2_with fail;refine HCV.out.mono ?_;rintro e w3 ⟨rfl,b3⟩;have gb:=gbx.trans (b3.mono gbx.size);go_wp2_with fail;go_ret;exact ⟨rfl,gb⟩
        case true =>
          rw [ca] at hcv;have HCV:=Lib.hid hcv;have HCA:=Lib.hid ca;clear hcv ca HC;go_wp2_with fail;refine HCV.out.mono ?_;rintro e w3 ⟨rfl,b3⟩;have gb:=gbx.trans (b3.mono gbx.size);have kb:=kbx.below b3 kbx.lt;go_wp2_with fail
          go_roundw
          case rel=>exact ⟨2,by omega,by go_num,fun j hj=>by
            by_cases e : j = 1
            · rw [e];exact HCA.out
            · exact HA.out j (by omega),gb,kb⟩
          case measure=>simp [intOf]
      · have HOFF:=Lib.hid fun (h : asksM x.m 2 = false)=>asks_off x.m (k:=2) (by omega) h
        go_upto_region 6 with ((with_reducible refine wpList_ix (run_ask2 _) ?_ ?_ ?_);rotate_left;(rfl);(rfl))
        refine wp_region_tailF 6 5 (fun L v w=>v 1 = .pointer (some ⟨g,0,none⟩)∧v 4 = .func (.func 48) #[] #[]∧Below wr.heap.size wr w∧(L 0 = true→v 38 = .func (.func 48) #[] #[])∧(L 1 = true→v 39 = .pointer (some ⟨g,0,none⟩))∧(L 2 = true→v 40 = .int .i64 x.m.kind)∧(L 3 = true→v 41 = hasV x.m.kind)∧(L 4 = true→v 42 = .agg C)) [38,39,40,41,42] (by kernel_rfl) (by kernel_rfl) (by kernel_rfl) (by kernel_rfl) (by kernel_rfl) (by kernel_rfl) ?h0 ?hst ?hend
        case h0 =>
          intro L h0;have h0 : ∀ i,i < 5→L i = false:=h0;exact ⟨rfl,rfl,(Below.refl _ _).drew,offF h0 (i:=0) (by decide),offF h0 (i:=1) (by decide),offF h0 (i:=2) (by decide),offF h0 (i:=3) (by decide),offF h0 (i:=4) (by decide)⟩
        case hst =>
          show FactSteps _ _ _ _ [0,1,2,3,4]
          refine @FactSteps.cons _ _ _ _ 0 _ [] _ rfl (by kernel_rfl) ?s0 ?_;rotate_left;refine @FactSteps.cons _ _ _ _ 1 _ [] _ rfl (by kernel_rfl) ?s1 ?_;rotate_left;refine @FactSteps.cons _ _ _ _ 2 _ [1] _ rfl (by kernel_rfl) ?s2 ?_;rotate_left;refine @FactSteps.cons _ _ _ _ 3 _ [2] _ rfl (by kernel_rfl) ?s3 ?_;rotate_left;refine @FactSteps.cons _ _ _ _ 4 _ [] _ rfl (by kernel_rfl) ?s4 ?_;rotate_left;exact FactSteps.nil
          case s0 =>
            rintro L a v w hv hg hL hd hcl ⟨e1,e4,hb,f0,f1,f2,f3,f4⟩ K hK;refine step_do rfl ?_;clear hv;go_simp;exact hK.out _ _ ⟨e1,e4,hb,fun _=>rfl,f1,f2,f3,f4⟩
          case s1 =>
            rintro L a v w hv hg hL hd hcl ⟨e1,e4,hb,f0,f1,f2,f3,f4⟩ K hK;refine step_do rfl ?_;clear hv;go_simp;exact hK.out _ _ ⟨e1,e4,hb,f0,fun _=>rfl,f2,f3,f4⟩
          case s2 =>
            rintro L a v w hv hg hL hd hcl ⟨e1,e4,hb,f0,f1,f2,f3,f4⟩ K hK;have g1:=f1 (hd 1 (by decide));have hc:=(hb.cell (p:=⟨g,0,none⟩) hgW).trans t0;refine step_do rfl ?_;clear hv;go_simp;exact hK.out _ _ ⟨e1,e4,hb,f0,f1,fun _=>rfl,f3,f4⟩
          case s3 =>
            rintro L a v w hv hg hL hd hcl ⟨e1,e4,hb,f0,f1,f2,f3,f4⟩ K hK;have h2:=f2 (hd 2 (by decide));refine step_do rfl ?_;clear hv;go_simp;refine (HHK.out w).mono ?_;rintro e wy ⟨rfl,bb⟩;exact hK.out _ _ ⟨e1,e4,(hb.trans (bb.mono hb.size)),f0,f1,f2,fun _=>rfl,f4⟩
          case s4 =>
            rintro L a v w hv hg hL hd hcl ⟨e1,e4,hb,f0,f1,f2,f3,f4⟩ K hK;refine step_do rfl ?_;refine wp_ld rowMg (.tmp 1) rfl ((hv 1).trans e1) (kb.below hb kb.lt) SZ.out ?_;exact hK.out _ _ ⟨e1,e4,hb,f0,f1,f2,f3,fun _=>rfl⟩
        case hend =>
        rintro L v wx hall ⟨e1,e4,hb,f0,f1,f2,f3,f4⟩;have hL : ∀ i,i < 5→L i = true:=hall;have f0:=f0 (hL 0 (by decide));have f1:=f1 (hL 1 (by decide));have f2:=f2 (hL 2 (by decide));have f3:=f3 (hL 3 (by decide));have f4:=f4 (hL 4 (by decide))
        simp only [finA,List.foldl_cons,List.foldl_nil,Act.put,List.setIfInBounds_toArray,List.set_cons_succ,List.set_cons_zero,f0,f1,f2,f4,f3]
        have HC:=Lib.hid (HA2.out wx (gb.trans (hb.mono gb.size)));have gbx:=gb.trans (hb.mono gb.size);have kbx:=kb.below hb kb.lt;clear e1 e4 f0 f1 f2 f3 f4 hL hall;clear kb gb t0 hgW
        show wpList _ _ _ [_,_] _ _
        have hcv:=HC.out
        cases ca : asksM x.m 2
        case false =>
          have hr : R = false:=by rw [HR.out];exact HOFF.out ca
          subst hr;rw [ca] at hcv;have HCV:=Lib.hid hcv;clear hcv ca HC;go_wp2_with fail;refine HCV.out.mono ?_;rintro e w3 ⟨rfl,b3⟩;have gb:=gbx.trans (b3.mono gbx.size);go_wp2_with fail;go_ret;exact ⟨rfl,gb⟩
        case true =>
          rw [ca] at hcv;have HCV:=Lib.hid hcv;have HCA:=Lib.hid ca;clear hcv ca HC;go_wp2_with fail;refine HCV.out.mono ?_;rintro e w3 ⟨rfl,b3⟩;have gb:=gbx.trans (b3.mono gbx.size);have kb:=kbx.below b3 kbx.lt;go_wp2_with fail
          go_roundw
          case rel=>exact ⟨3,by omega,by go_num,fun j hj=>by
            by_cases e : j = 2
            · rw [e];exact HCA.out
            · exact HA.out j (by omega),gb,kb⟩
          case measure=>simp [intOf]
      · have HOFF:=Lib.hid fun (h : asksM x.m 3 = false)=>asks_off x.m (k:=3) (by omega) h
        go_upto_region 6 with ((with_reducible refine wpList_ix (run_ask3 _) ?_ ?_ ?_);rotate_left;(rfl);(rfl))
        refine wp_region_tailF 6 5 (fun L v w=>v 1 = .pointer (some ⟨g,0,none⟩)∧v 4 = .func (.func 49) #[] #[]∧Below wr.heap.size wr w∧(L 0 = true→v 38 = .func (.func 49) #[] #[])∧(L 1 = true→v 39 = .pointer (some ⟨g,0,none⟩))∧(L 2 = true→v 40 = .int .i64 x.m.kind)∧(L 3 = true→v 41 = hasV x.m.kind)∧(L 4 = true→v 42 = .agg C)) [38,39,40,41,42] (by kernel_rfl) (by kernel_rfl) (by kernel_rfl) (by kernel_rfl) (by kernel_rfl) (by kernel_rfl) ?h0 ?hst ?hend
        case h0 =>
          intro L h0;have h0 : ∀ i,i < 5→L i = false:=h0;exact ⟨rfl,rfl,(Below.refl _ _).drew,offF h0 (i:=0) (by decide),offF h0 (i:=1) (by decide),offF h0 (i:=2) (by decide),offF h0 (i:=3) (by decide),offF h0 (i:=4) (by decide)⟩
        case hst =>
          show FactSteps _ _ _ _ [0,1,2,3,4]
          refine @FactSteps.cons _ _ _ _ 0 _ [] _ rfl (by kernel_rfl) ?s0 ?_;rotate_left;refine @FactSteps.cons _ _ _ _ 1 _ [] _ rfl (by kernel_rfl) ?s1 ?_;rotate_left;refine @FactSteps.cons _ _ _ _ 2 _ [1] _ rfl (by kernel_rfl) ?s2 ?_;rotate_left;refine @FactSteps.cons _ _ _ _ 3 _ [2] _ rfl (by kernel_rfl) ?s3 ?_;rotate_left;refine @FactSteps.cons _ _ _ _ 4 _ [] _ rfl (by kernel_rfl) ?s4 ?_;rotate_left;exact FactSteps.nil
          case s0 =>
            rintro L a v w hv hg hL hd hcl ⟨e1,e4,hb,f0,f1,f2,f3,f4⟩ K hK;refine step_do rfl ?_;clear hv;go_simp;exact hK.out _ _ ⟨e1,e4,hb,fun _=>rfl,f1,f2,f3,f4⟩
          case s1 =>
            rintro L a v w hv hg hL hd hcl ⟨e1,e4,hb,f0,f1,f2,f3,f4⟩ K hK;refine step_do rfl ?_;clear hv;go_simp;exact hK.out _ _ ⟨e1,e4,hb,f0,fun _=>rfl,f2,f3,f4⟩
          case s2 =>
            rintro L a v w hv hg hL hd hcl ⟨e1,e4,hb,f0,f1,f2,f3,f4⟩ K hK;have g1:=f1 (hd 1 (by decide));have hc:=(hb.cell (p:=⟨g,0,none⟩) hgW).trans t0;refine step_do rfl ?_;clear hv;go_simp;exact hK.out _ _ ⟨e1,e4,hb,f0,f1,fun _=>rfl,f3,f4⟩
          case s3 =>
            rintro L a v w hv hg hL hd hcl ⟨e1,e4,hb,f0,f1,f2,f3,f4⟩ K hK;have h2:=f2 (hd 2 (by decide));refine step_do rfl ?_;clear hv;go_simp;refine (HHK.out w).mono ?_;rintro e wy ⟨rfl,bb⟩;exact hK.out _ _ ⟨e1,e4,(hb.trans (bb.mono hb.size)),f0,f1,f2,fun _=>rfl,f4⟩
          case s4 =>
            rintro L a v w hv hg hL hd hcl ⟨e1,e4,hb,f0,f1,f2,f3,f4⟩ K hK;refine step_do rfl ?_;refine wp_ld rowMg (.tmp 1) rfl ((hv 1).trans e1) (kb.below hb kb.lt) SZ.out ?_;exact hK.out _ _ ⟨e1,e4,hb,f0,f1,f2,f3,fun _=>rfl⟩
        case hend =>
        rintro L v wx hall ⟨e1,e4,hb,f0,f1,f2,f3,f4⟩;have hL : ∀ i,i < 5→L i = true:=hall;have f0:=f0 (hL 0 (by decide));have f1:=f1 (hL 1 (by decide));have f2:=f2 (hL 2 (by decide));have f3:=f3 (hL 3 (by decide));have f4:=f4 (hL 4 (by decide))
        simp only [finA,List.foldl_cons,List.foldl_nil,Act.put,List.setIfInBounds_toArray,List.set_cons_succ,List.set_cons_zero,f0,f1,f2,f4,f3]
        have HC:=Lib.hid (HA3.out wx (gb.trans (hb.mono gb.size)));have gbx:=gb.trans (hb.mono gb.size);have kbx:=kb.below hb kb.lt;clear e1 e4 f0 f1 f2 f3 f4 hL hall;clear kb gb t0 hgW
        show wpList _ _ _ [_,_] _ _
        have hcv:=HC.out
        cases ca : asksM x.m 3
        case false =>
          have hr : R = false:=by rw [HR.out];exact HOFF.out ca
          subst hr;rw [ca] at hcv;have HCV:=Lib.hid hcv;clear hcv ca HC;go_wp2_with fail;refine HCV.out.mono ?_;rintro e w3 ⟨rfl,b3⟩;have gb:=gbx.trans (b3.mono gbx.size);go_wp2_with fail;go_ret;exact ⟨rfl,gb⟩
        case true =>
          rw [ca] at hcv;have HCV:=Lib.hid hcv;have HCA:=Lib.hid ca;clear hcv ca HC;go_wp2_with fail;refine HCV.out.mono ?_;rintro e w3 ⟨rfl,b3⟩;have gb:=gbx.trans (b3.mono gbx.size);have kb:=kbx.below b3 kbx.lt;go_wp2_with fail
          go_roundw
          case rel=>exact ⟨4,by omega,by go_num,fun j hj=>by
            by_cases e : j = 3
            · rw [e];exact HCA.out
            · exact HA.out j (by omega),gb,kb⟩
          case measure=>simp [intOf]
    · obtain rfl : k = 4:=by omega
      have hr : R = true:=by rw [HR.out,right_asks,HHD.out,HA.out 0 (by omega),HA.out 1 (by omega),HA.out 2 (by omega),HA.out 3 (by omega)];rfl
      subst hr;go_wp2_with fail;go_ret;exact ⟨rfl,gb⟩
end Go.Proofs.Ytcgalmnllegnbaa
