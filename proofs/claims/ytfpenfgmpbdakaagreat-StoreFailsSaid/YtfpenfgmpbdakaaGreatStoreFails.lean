/- StoreFails: whatever has an error changes nothing, on the disk and beside it: the whole statement, without a condition. -/
import Derived.Test.YtfpenfgmpbdakaaGreatStoWalks
import Derived.Test.YtfpenfgmpbdakaaGreatEvCopy
import Derived.Test.YtfpenfgmpbdakaaGreatDiskWords
import Derived.Test.YtfpenfgmpbdakaaGreatSls
import Derived.Test.YtfpenfgmpbdakaaGreatFoot
import Derived.Test.YtfpenfgmpbdakaaGreatFactsD
import Derived.Test.YtfpenfgmpbdakaaGreatLogOps
import Derived.Test.YtfpenfgmpbdakaaGreatOpen
import Derived.SizedLaws
import Derived.Test.YtfpenfgmpbdakaaGreatDotMem
import Derived.Test.YtfpenfgmpbdakaaGreatDotAdd
namespace Go.Proofs.YtfpenfgmpbdakaaGreat
set_option linter.unusedVariables false
set_option linter.unusedSimpArgs false
set_option maxRecDepth 100000
open Go.RowKit
open Dot Evt
theorem cloneDt_any (A : Option Addr) (n c : Nat) (l : List Dt) (B : Nat) (w : World) (hb : RdD w B A n l) (hB : B≤w.heap.size) (hl : n≤1000000000000) :
    Calls Tryz.prog 83 #[.slice A n c] w fun e w'=>∃ A' c',e = .returned (.slice A' n c')∧OwnD w' w.heap.size A' n c' l∧Below w.heap.size w w':=by
  have q:=fun (w : World) (a : Option Addr) (n c n' c' : Nat)=>Lib.run_eql_slice_nil (P:=Tryz.prog) w 45 _ a n c n' c' Tryz.underlying45
  rcases A with _ | a
  · have h0 : l = []:=by
      rcases l with _ | ⟨x,r⟩
      · rfl
      · obtain ⟨_,h,_⟩:=hb.2 0 _ rfl
        cases h
    subst h0;obtain rfl:=hb.1
    go_enter Tryz.func83,Tryz.ntmps83
    go_wp2_with fail;go_ret;exact ⟨_,_,rfl,OwnD.nil _ _,Below.refl _ _⟩
  · obtain ⟨m0,hm0⟩ : ∃ m0,m0 = n:=⟨_,rfl⟩
    have hm:=hb.1;clear hm0
    go_enter Tryz.func83,Tryz.ntmps83
    go_wp2_with (at_builtin;refine wpList_appD rfl (.tmp 5) (.tmp 6) rfl rfl (own_emptyD (base:=w.heap.size) (Blk.new w 42 #[]) (Nat.le_refl _)) rfl ((hb.below ((Below.refl _ _).alloc hB _)).rd) hm (by omega) (by simp) ?_)
    intro A' c' w2 ho1 _ _ hbl1;subst hm;go_wp2_with fail;go_ret;exact ⟨_,_,rfl,ho1,((Below.refl _ _).alloc (Nat.le_refl _) _).trans hbl1⟩
set_option maxHeartbeats 2000000 in
theorem indexE_any (A : Option Addr) (n c : Nat) (xs : List EvV) (fid : FuncId) (cap : Array Value) (P : EvV→Bool) (w0 : World) (hr : RowEv w0 w0.heap.size A n xs) (hn : n≤10000000000000)
    (hk : ∀ args w,(callFunc fid args).run Tryz.prog w = .ok (.enter fid args) w)
    (hclo : ∀ x ∈ xs,∀ w,Below w0.heap.size w0 w→Calls Tryz.prog fid (#[.agg x.cs] ++ cap) w fun e w'=>e = .returned (.bool (P x))∧Below w.heap.size w w') :
    Calls Tryz.prog 102 #[.slice A n c,.func (.func fid) #[] cap] w0 fun e w'=>(∃ z : Int,e = .returned (.int .i64 z)∧decide (0≤z) = xs.any P)∧Below w0.heap.size w0 w':=by
  have HN:=Lib.hid hr.1
  have HRK:=Lib.hid fun (w' : World) (hb : Below w0.heap.size w0 w')=>hr.below hb
  have HC:=Lib.hid hclo;have HNB:=Lib.hid hn;obtain ⟨R,hR⟩ : ∃ R,R = xs.any P:=⟨_,rfl⟩;rw [← hR];have HR:=Lib.hid hR;clear hr hclo hR hn
  go_enter Tryz.func102,Tryz.ntmps102
  go_wp2_with fail
  go_loopw [5,8] (fun _ i wr=>∃ k : Nat,k≤n∧i = .int .i64 (k : Nat)∧(∀ j x,j < k→xs[j]? = some x→P x = false)∧Below w0.heap.size w0 wr) (fun _ i _=>n - (intOf i).toNat)
  case atStart=>exact ⟨0,by omega,rfl,fun j x hj=>by omega,Below.refl _ _⟩
  case round =>
  obtain ⟨k,hkn,rfl,hall,gb⟩:=hrel;have HA:=Lib.hid hall;clear hall
  by_cases hlt : k < n
  · have hkl : k < xs.length:=by rw [← HN.out];exact hlt
    have hkb : k < 10000000000000:=by have:=HNB.out;omega
    obtain ⟨hok,ad,hA,hab,hcs⟩:=(HRK.out wr gb).2 k _ (List.getElem?_eq_getElem hkl);have hc:=HC.out _ (List.getElem_mem hkl) wr gb;have e1 : xs[k]? = some xs[k]:=List.getElem?_eq_getElem hkl;have hmem : xs[k] ∈ xs:=List.getElem_mem hkl
    generalize xs[k] = x at *
    subst hA;obtain ⟨cs,hcx⟩ : ∃ cs,cs = x.cs:=⟨_,rfl⟩;rw [← hcx] at hcs hc;have HSZ:=Lib.hid (show cs.size = 14 by rw [hcx];rfl);have HCS:=Lib.hid hcs;obtain ⟨b,hb⟩ : ∃ b,b = P x:=⟨_,rfl⟩;rw [← hb] at hc;have HB:=Lib.hid hb;have HCL:=Lib.hid hc;have E1:=Lib.hid e1;have HM:=Lib.hid hmem
    have hk0 : (0 : Int)≤(k : Int):=by omega
    have hkm : (k : Int) < (n : Int):=by omega
    clear hcs hc hb hok hcx e1 hmem
    go_upto_region 4 with fail
    go_wp2_with ((with_reducible refine wpList_lda rowE HCS.out HSZ.out ?_ ?_);rotate_left;(rfl))
    refine HCL.out.mono ?_;rintro e w1 ⟨rfl,b1⟩;have gb:=gb.trans (b1.mono gb.size);clear b1 HCL
    cases b
    case true =>
      have hr : R = true:=by rw [HR.out];exact List.any_eq_true.2 ⟨x,HM.out,HB.out.symm⟩
      subst hr;go_wp2_with fail;go_ret;exact ⟨⟨_,rfl,decide_eq_true hk0⟩,gb⟩
    case false =>
      go_wp2_with fail
      go_roundw
      case rel=>exact ⟨k + 1,by omega,by go_num,fun j y hj hy=>by
        by_cases e : j = k
        · subst e
          rw [E1.out] at hy
          injection hy with hy
          rw [← hy];exact HB.out.symm
        · exact HA.out j y (by omega) hy,gb⟩
      case measure=>simp [intOf];omega
  · obtain rfl : k = n:=by omega
    have hr : R = false:=by
      rw [HR.out,List.any_eq_false];intro x hx;obtain ⟨j,hj,e⟩:=List.getElem_of_mem hx;rw [HA.out j x (by rw [HN.out];exact hj) (by rw [List.getElem?_eq_getElem hj,e])]
      decide
    subst hr
    have hkk : ¬ (k : Int) < (k : Int):=by omega
    go_wp2_with fail;go_ret;exact ⟨⟨-1,rfl,by decide⟩,gb⟩
theorem containsE_any (A : Option Addr) (n c : Nat) (xs : List EvV) (fid : FuncId) (cap : Array Value) (P : EvV→Bool) (w0 : World) (hr : RowEv w0 w0.heap.size A n xs) (hn : n≤10000000000000)
    (hk : ∀ args w,(callFunc fid args).run Tryz.prog w = .ok (.enter fid args) w)
    (hclo : ∀ x ∈ xs,∀ w,Below w0.heap.size w0 w→Calls Tryz.prog fid (#[.agg x.cs] ++ cap) w fun e w'=>e = .returned (.bool (P x))∧Below w.heap.size w w') :
    Calls Tryz.prog 81 #[.slice A n c,.func (.func fid) #[] cap] w0 fun e w'=>e = .returned (.bool (xs.any P))∧Below w0.heap.size w0 w':=by
  have HI:=Lib.hid (indexE_any A n c xs fid cap P w0 hr hn hk hclo)
  generalize xs.any P = R at *
  clear hr hclo hk hn
  go_enter Tryz.func81,Tryz.ntmps81
  go_wp2_with fail;refine HI.out.mono ?_;rintro e w1 ⟨⟨z,rfl,hz⟩,b1⟩;have HZ:=Lib.hid hz;clear hz;go_wp2_with fail;go_ret;exact ⟨by rw [← HZ.out];rfl,b1⟩
namespace Sto
theorem has1_any (x : EvV) (g : Nat) (n q : Int) (w : World) (kd : Blk w g 42 #[.int .i64 n,.int .i64 q]) :
    Calls Tryz.prog 82 #[.agg x.cs,.pointer (some ⟨g,0,none⟩)] w fun e w'=>e = .returned (.bool (decide (x.e.d = (n,q))))∧Below w.heap.size w w':=by
  obtain ⟨R,hR⟩ : ∃ R,R = decide (x.e.d = (n,q)):=⟨_,rfl⟩;rw [← hR];obtain ⟨cs,hcx⟩ : ∃ cs,cs = x.cs:=⟨_,rfl⟩;rw [← hcx];have X0:=Lib.hid (show cs[0]? = some (.int .i64 x.e.d.1) by rw [hcx];rfl);have X1:=Lib.hid (show cs[1]? = some (.int .i64 x.e.d.2) by rw [hcx];rfl)
  generalize x.e.d = d at *
  obtain ⟨n',q'⟩:=d;clear hcx
  by_cases e1 : n' = n
  · by_cases e2 : q' = q
    · have hr : R = true:=by rw [hR,e1,e2];exact decide_eq_true rfl
      subst hr e1 e2;clear hR
      go_enter Tryz.func82,Tryz.ntmps82
      go_upto_region 1 with fail
      refine nameW ?_;intro W hW
      have kb : Blk W w.heap.size 47 cs:=by rw [hW];exact Blk.new _ _ _
      have gb : Below w.heap.size w W:=by rw [hW];exact (Below.refl _ _).alloc (Nat.le_refl _) _
      have kd:=kd.below gb kd.lt;have c0:=(kb.cell 0).trans X0.out;have c1:=(kb.cell 1).trans X1.out;have d0 : W.cell? ⟨g,0,none⟩ = some (.int .i64 n'):=kd.cell 0;have d1 : W.cell? ⟨g,1,none⟩ = some (.int .i64 q'):=kd.cell 1;clear hW kb kd;go_wp2_with fail;go_ret;exact ⟨rfl,gb⟩
    · have hr : R = false:=by rw [hR];exact decide_eq_false (fun h=>e2 (congrArg Prod.snd h))
      subst hr e1;clear hR
      go_enter Tryz.func82,Tryz.ntmps82
      go_upto_region 1 with fail
      refine nameW ?_;intro W hW
      have kb : Blk W w.heap.size 47 cs:=by rw [hW];exact Blk.new _ _ _
      have gb : Below w.heap.size w W:=by rw [hW];exact (Below.refl _ _).alloc (Nat.le_refl _) _
      have kd:=kd.below gb kd.lt;have c0:=(kb.cell 0).trans X0.out;have c1:=(kb.cell 1).trans X1.out;have d0 : W.cell? ⟨g,0,none⟩ = some (.int .i64 n'):=kd.cell 0;have d1 : W.cell? ⟨g,1,none⟩ = some (.int .i64 q):=kd.cell 1;clear hW kb kd;go_wp2_with fail;go_ret;exact ⟨rfl,gb⟩
  · have hr : R = false:=by rw [hR];exact decide_eq_false (fun h=>e1 (congrArg Prod.fst h))
    subst hr;clear hR
    go_enter Tryz.func82,Tryz.ntmps82
    go_upto_region 1 with fail
    refine nameW ?_;intro W hW
    have kb : Blk W w.heap.size 47 cs:=by rw [hW];exact Blk.new _ _ _
    have gb : Below w.heap.size w W:=by rw [hW];exact (Below.refl _ _).alloc (Nat.le_refl _) _
    have kd:=kd.below gb kd.lt;have c0:=(kb.cell 0).trans X0.out;have c1:=(kb.cell 1).trans X1.out;have d0 : W.cell? ⟨g,0,none⟩ = some (.int .i64 n):=kd.cell 0;have d1 : W.cell? ⟨g,1,none⟩ = some (.int .i64 q):=kd.cell 1;clear hW kb kd;go_wp2_with fail;go_ret;exact ⟨rfl,gb⟩
def hasE (l : List Ev) (d : Dt) : Bool:=l.any fun e=>decide (e.d = d)
theorem shas_any (A : Option Addr) (n c : Nat) (xs : List EvV) (x y : Int) (w0 : World) (hr : RowEv w0 w0.heap.size A n xs) (hn : n≤10000000000000) :
    Calls Tryz.prog 53 #[.slice A n c,.agg #[.int .i64 x,.int .i64 y]] w0 fun e w'=>e = .returned (.bool (hasE (xs.map (·.e)) (x,y)))∧Below w0.heap.size w0 w':=by
  have hck : ∀ args w,(callFunc 82 args).run Tryz.prog w = .ok (.enter 82 args) w:=by
    intro args w
    simp [go_sem]
  have hx : hasE (xs.map (·.e)) (x,y) = xs.any fun z=>decide (z.e.d = (x,y)):=by unfold hasE;rw [List.any_map];rfl
  rw [hx]
  have HRK:=Lib.hid fun (w' : World) (hb : Below w0.heap.size w0 w')=>(hr.below hb).more hb.size
  have HCK:=Lib.hid hck
  obtain ⟨R,hR⟩ : ∃ R,R = xs.any fun z=>decide (z.e.d = (x,y)):=⟨_,rfl⟩
  rw [← hR];have HR:=Lib.hid hR;have HNB:=Lib.hid hn;clear hck hr hx hR hn
  go_enter Tryz.func53,Tryz.ntmps53
  go_upto_region 1 with fail
  refine nameW ?_;intro W hW;obtain ⟨g,hg⟩ : ∃ g,g = w0.heap.size:=⟨_,rfl⟩;rw [← hg]
  have kb : Blk W g 42 #[.int .i64 x,.int .i64 y]:=by rw [hW,hg];exact Blk.new _ _ _
  have gb : Below w0.heap.size w0 W:=by rw [hW];exact (Below.refl _ _).alloc (Nat.le_refl _) _
  clear hW hg;have HCN:=Lib.hid (containsE_any A n c xs 82 #[.pointer (some ⟨g,0,none⟩)] (fun z=>decide (z.e.d = (x,y))) W (HRK.out W gb) HNB.out HCK.out (fun z _ w hb=>has1_any z g x y w (kb.below hb kb.lt)));go_wp2_with fail;refine HCN.out.mono ?_;rintro e w1 ⟨rfl,b1⟩;have gb:=gb.trans (b1.mono gb.size);rw [← HR.out];go_wp2_with fail;go_ret;exact ⟨rfl,gb⟩
end Sto
end Go.Proofs.YtfpenfgmpbdakaaGreat

namespace Go.Proofs.YtfpenfgmpbdakaaGreat
set_option linter.unusedVariables false
set_option linter.unusedSimpArgs false
set_option maxRecDepth 100000
open Go.RowKit
open Dot Evt
theorem numsE_len (x : Ev) (hp : x.p.length = 7) : (numsE x).length≤13 + 2 * x.l.length:=by
  have hd : (dotNums x.l).length = 2 * x.l.length:=by rw [← dotN_len,← dotNums_nat,List.length_map]
  unfold numsE
  rw [List.length_append]
  split
  · simp only [List.length_cons,List.length_nil];omega
  · rw [List.length_append,List.length_append,hd]
    split
    · simp only [List.length_cons,List.length_nil,hp];omega
    · simp only [List.length_cons,List.length_nil];omega
theorem encE_len {x : Ev} (hp : x.p.length = 7) (hx : rightE x = true) : (encE x).length≤1230:=by
  have h:=encN_len ((numsE x).map Int.toNat);rw [List.length_map] at h;have h2:=numsE_len x hp;have h3:=(right_facts hp hx).2.2.1
  unfold encE
  omega
end Go.Proofs.YtfpenfgmpbdakaaGreat

namespace Go.Proofs.YtfpenfgmpbdakaaGreat
set_option linter.unusedVariables false
set_option linter.unusedSimpArgs false
set_option maxRecDepth 100000
open Go.RowKit
open Dot Evt
namespace Sto
set_option maxHeartbeats 1000000 in
theorem own_any (x : EvV) (w : World) (hx : EvOk w w.heap.size x) (hm : x.m≤100000) :
    Calls Tryz.prog 54 #[.agg x.cs] w fun e w'=>∃ z : EvV,e = .returned (.agg z.cs)∧z.e = x.e∧EvOwn w' w.heap.size z∧Below w.heap.size w w':=by
  obtain ⟨cs,hcs⟩ : ∃ cs,cs = x.cs:=⟨_,rfl⟩;have HSZ:=Lib.hid (show cs.size = 14 by rw [hcs];rfl);have X13:=Lib.hid (show cs[13]? = some (.slice x.A x.m x.c) by rw [hcs];rfl);have XS:=Lib.hid (fun (A' : Option Addr) (c' : Nat)=>(show cs.setIfInBounds 13 (.slice A' x.m c') = ec x.e (.slice A' x.m c') by rw [hcs];rfl));rw [← hcs];have HX:=Lib.hid hx;have HM:=Lib.hid hm;clear hx hm hcs
  go_enter Tryz.func54,Tryz.ntmps54
  go_upto_region 1 with fail
  refine nameW ?_;intro wv hwv;obtain ⟨b,hb⟩ : ∃ b,b = w.heap.size:=⟨_,rfl⟩;rw [← hb]
  have kb : Blk wv b 47 cs:=by rw [hwv,hb];exact (Blk.new w _ _).alloc _
  have kz : Blk wv (b + 1) 47 (cT 0):=by
    have h:=Blk.new (w.alloc (.cells cs 47)) 47 (cT 0);rw [show (w.alloc (.cells cs 47)).heap.size = w.heap.size + 1 by simp] at h;rw [hwv,hb];exact h
  have gb : Below w.heap.size w wv:=by rw [hwv];exact ((Below.refl _ _).alloc (Nat.le_refl _) _).alloc (by simp) _
  have t13 : wv.cell? ⟨b,13,none⟩ = some (.slice x.A x.m x.c):=(kb.cell 13).trans X13.out;have HCL:=Lib.hid (cloneDt_any x.A x.m x.c x.e.l w.heap.size wv (HX.out.2.1.below gb) gb.size (by have:=HM.out;omega))
  have hbw : w.heap.size≤b:=by omega
  clear hwv hb;go_wp2_with fail;refine HCL.out.mono ?_;rintro e w3 ⟨A',c',rfl,o3,b3⟩;have kb3:=kb.below b3 kb.lt;have kz3:=kz.below b3 kz.lt;have gb3:=gb.trans (b3.mono gb.size);have hbv:=kz.lt;have c3 : w3.cell? ⟨b,13,none⟩ = some (.slice x.A x.m x.c):=(kb3.cell 13).trans X13.out;have f3:=kb3.free 13;have hl3:=kb3.lt;have kb4:=kb3.set_ 13 (.slice A' x.m c');rw [XS.out] at kb4;have kz4:=kz3.far (p:=⟨b,13,none⟩) (by simp) (.slice A' x.m c');have o4:=o3.setFar (p:=⟨b,13,none⟩) (fun h=>by have h9 : wv.heap.size≤b:=(o3.lt _ h).1;omega) (.slice A' x.m c');have gb4 : Below w.heap.size w (w3.setCell ⟨b,13,none⟩ (.slice A' x.m c')):=gb3.setCell (p:=⟨b,13,none⟩) hbw _;obtain ⟨z,hz⟩ : ∃ z : EvV,z = ⟨x.e,A',x.m,c'⟩:=⟨_,rfl⟩
  have hzc : ec x.e (.slice A' x.m c') = z.cs:=by rw [hz];rfl
  rw [hzc] at kb4;have SZ:=Lib.hid z.size;have OZ:=Lib.hid z.one;have HZ0:=Lib.hid (show (cT 0).size = 14 from rfl);have HZ:=Lib.hid hz;clear kb3 kz3 gb3 kb kz gb hzc hz t13
  go_upto_region 2 with fail
  refine nameW ?_;intro w4 hw4;rw [← hw4] at kb4 kz4 o4 gb4;clear hw4 c3 f3 o3 hl3
  generalize hCZ : z.cs = CZ at *
  go_wp2_with first
    | ((with_reducible refine wpList_ld rowE kb4 SZ.out ?_ ?_);rotate_left;(rfl))
    | ((with_reducible refine wpList_st rowE kz4 SZ.out HZ0.out OZ.out ?_ ?_ ?_);rotate_left;(rfl);(rfl);intro w5 k5 g5 z5)
  have o5:=o4.grown g5 (.inr (own_ne o4.2 kz4 (by decide)));refine bodyPost_ret (v:=.agg CZ) (results_blk rfl rowE k5 SZ.out rfl) rfl ⟨z,by rw [hCZ],by rw [HZ.out],?_,gb4.grown g5 gb4.size (fun q hq=>by injection hq;omega)⟩;rw [HZ.out];exact ⟨HX.out.1,o5.mono (by omega),HX.out.2.2⟩
set_option maxRecDepth 100000 in
set_option maxHeartbeats 2000000 in
theorem owns_any (A : Option Addr) (n c : Nat) (xs : List EvV) (w : World) (hn : n≤100000) (hR : RowEv w w.heap.size A n xs) (hm : ∀ x ∈ xs,x.m≤100000) :
    Calls Tryz.prog 58 #[.slice A n c] w (CopiesEnd w n xs):=by
  have HN:=Lib.hid hR.1
  have HRK:=Lib.hid fun (w' : World) (hb : Below w.heap.size w w')=>hR.below hb
  have HNB:=Lib.hid hn;have HM:=Lib.hid hm;clear hR hn hm;obtain ⟨B,hB⟩ : ∃ B,B = w.heap.size:=⟨_,rfl⟩;have HB:=Lib.hid hB;rw [← hB] at HRK;clear hB
  go_enter Tryz.func58,Tryz.ntmps58
  go_wp2_with fail
  go_loopw [2,7] (fun s i wr=>∃ (k : Nat) (A' : Option Addr) (c' : Nat) (ys : List EvV),k≤n∧i = .int .i64 k∧s = .slice A' k c'∧OwnEv wr B A' k c' ys∧(∀ y ∈ ys,EvOwn wr B y)∧ys.map (·.e) = (xs.take k).map (·.e)∧Below B w wr) (fun _ i _=>n - (intOf i).toNat)
  case atStart=>exact ⟨0,none,0,[],by omega,rfl,rfl,OwnEv.nil _ _,fun y hy=>by simp at hy,rfl,by rw [HB.out];exact Below.refl _ _⟩
  case round =>
    obtain ⟨k,A',c',ys,hk,rfl,rfl,ho,hys,hmp,gb⟩:=hrel;have HYS:=Lib.hid hys;have HMP:=Lib.hid hmp;clear hys hmp
    by_cases hlt : k < n
    · have hkl : k < xs.length:=by rw [← HN.out];exact hlt
      have hgs : B≤wr.heap.size:=by have:=gb.size;have:=HB.out;omega
      obtain ⟨hok,ad,hA,hab,hcell⟩:=(HRK.out wr gb).2 k _ (List.getElem?_eq_getElem hkl);have hsn:=take_snoc xs hkl;have hmm:=HM.out _ (List.getElem_mem hkl)
      generalize xs[k] = x at *
      subst hA;obtain ⟨cs,hcs⟩ : ∃ cs,cs = x.cs:=⟨_,rfl⟩;rw [← hcs] at hcell;have HCS:=Lib.hid hcs;have HSZ:=Lib.hid (show cs.size = 14 by rw [hcs];rfl);have H1C:=Lib.hid (show cs.all (·.oneCell') = true by rw [hcs];exact x.one);have HC:=Lib.hid hcell;have HSN:=Lib.hid hsn;have HOK:=Lib.hid hok;have HMM:=Lib.hid hmm
      have hk0 : (0 : Int)≤(k : Int):=by omega
      have hkm : (k : Int) < (n : Int):=by omega
      clear hcell hok hsn hmm hcs
      go_upto_region 3 with fail
      go_upto_region 4 with first
        | ((with_reducible refine wpList_lda rowE HC.out HSZ.out ?_ ?_);rotate_left;(rfl))
        | ((with_reducible refine wpList_st rowE (Blk.new _ _ _) HSZ.out ?_ H1C.out ?_ ?_ ?_);(rfl);rotate_left;(rfl);(rfl);intro w6 k6 g6 z6)
      have bA : Below wr.heap.size wr w6:=(((Below.refl _ _).alloc (Nat.le_refl _) _).grown g6 (by simp) (fun q hq=>by injection hq with hq;omega));have gb6:=gb.trans (bA.mono hgs);have ho6:=ho.below bA (Nat.le_refl _)
      have hys6 : ∀ y ∈ ys,EvOwn w6 B y:=fun y hy=>by
        obtain ⟨q1,q2,q3⟩:=HYS.out y hy;exact ⟨q1,q2.below bA (Nat.le_refl _),q3⟩
      have hok6:=HOK.out.below (bA.mono hgs);obtain ⟨gr,hgr2⟩ : ∃ gr,gr = wr.heap.size:=⟨_,rfl⟩
      have hgr3 : B≤gr:=by omega
      rw [← hgr2] at k6 ⊢;have HYS6:=Lib.hid hys6
      have hs6 : B≤w6.heap.size:=by have:=gb6.size;have:=HB.out;omega
      have hcp:=own_any x w6 (hok6.more hs6) HMM.out;rw [← HCS.out] at hcp;have HCP:=Lib.hid hcp;clear hgr2 g6 z6 bA gb ho HYS hys6 hcp hok6
      go_wp2_with first
        | ((with_reducible refine wpList_ld rowE k6 HSZ.out ?_ ?_);rotate_left;(rfl))
      refine HCP.out.mono ?_;rintro e w7 ⟨z,rfl,hze,hz,b7⟩;have ho7:=ho6.below b7 (Nat.le_refl _)
      have hys7 : ∀ y ∈ ys,EvOwn w7 B y:=fun y hy=>by
        obtain ⟨q1,q2,q3⟩:=HYS6.out y hy;exact ⟨q1,q2.below b7 (Nat.le_refl _),q3⟩
      have gb7:=gb6.trans (b7.mono hs6);have hz : EvOwn w7 B z:=⟨hz.1,hz.2.1.mono hs6,hz.2.2⟩;have HZ:=Lib.hid hz;have HZE:=Lib.hid hze;have HBS:=Lib.hid (fun w=>buildE1 z w);have HYS7:=Lib.hid hys7
      have hs7 : B≤w7.heap.size:=by have:=gb7.size;have:=HB.out;omega
      obtain ⟨cz,hcz2⟩ : ∃ cz,cz = z.cs:=⟨_,rfl⟩;have HCZ:=Lib.hid hcz2;rw [← hcz2] at HBS ⊢;clear hz hze hcz2 hys7 HYS6 b7 ho6 gb6
      go_wp2_with first
        | ((refine wpList_bs (v:=.slice (some ⟨w7.heap.size,0,none⟩) 1 1) (w':=w7.alloc (.cells cz 47)) rfl 48 1 #[(0,.tmp 13)] rfl ?_ ?_);(simp only [List.map_toArray,List.map_cons,List.map_nil];exact HBS.out w7))
        | (at_builtin;refine wpList_appE rfl (.tmp 11) (.tmp 14) rfl rfl (ho7.alloc _) rfl (news:=[z]) (B:=w7.heap.size + 1) ?hd1 rfl ?hd2 ?hd3 ?_)
      case hd1 =>
        have h:=Rd.made w7 cz 47 (0,0);rw [show ecsL [z] = cz.toList by rw [HCZ.out];simp [ecsL]];exact h
      case hd2=>have:=HNB.out;omega
      case hd3=>simp;omega
      intro A3 c3 w8 o8 g8 m8 b8;have gb8:=gb7.trans (((Below.refl _ _).alloc hs7 (.cells cz 47)).trans b8)
      have hys8 : ∀ y ∈ ys ++ [z],EvOwn w8 B y:=fun y hy=>by
        have hy2 : EvOwn w7 B y:=by
          rcases List.mem_append.1 hy with h | h
          · exact HYS7.out y h
          · simp at h;rw [h];exact HZ.out
        exact ⟨hy2.1,(hy2.2.1.alloc (.cells cz 47)).grown g8 (own2_ne hy2.2.1.2 ho7.2 (by decide)),hy2.2.2⟩
      have HYS8:=Lib.hid hys8;clear hys8 g8 m8 b8 HYS7;go_wp2_with fail
      go_roundw
      case rel=>exact ⟨k + 1,A3,c3,ys ++ [z],by omega,num_succ k (by have:=HNB.out;omega),rfl,o8,HYS8.out,by rw [HSN.out,List.map_append,List.map_append,HMP.out];simp [HZE.out],gb8⟩
      case measure=>exact meas_succ k n hlt (by have:=HNB.out;omega)
    · have hkn : k = n:=by omega
      have hkd : decide ((k : Int) < (n : Int)) = false:=decide_eq_false (by omega);have hmp:=HMP.out;rw [List.take_of_length_le (by rw [← HN.out];omega)] at hmp;have HMP2:=Lib.hid hmp;clear hmp HMP;subst hkn;go_wp2_with fail;go_ret;exact ⟨A',c',ys,rfl,by rw [← HB.out];exact ho,by rw [← HB.out];exact HYS.out,HMP2.out,by rw [← HB.out];exact gb⟩
def told3 (x : Ev) : List UInt8:=3 :: (putE x).1
theorem told3_bad (x : EvV) (w : World) (hx : EvOk w w.heap.size x) (hr : rightE x.e = false) :
    Calls Tryz.prog 52 #[.agg x.cs] w fun e w'=>e = .panicked [{ v:=flt 2,recovered:=false }]∧Below w.heap.size w w':=by
  have HP:=Lib.hid fun (w' : World) (hb : Below w.heap.size w w')=>eput_any x.e hx.1 x.A x.m x.c w' ((hx.2.1.below hb).more hb.size)
  obtain ⟨cs,hcs⟩ : ∃ cs,cs = x.cs:=⟨_,rfl⟩
  have hcs2 : ec x.e (.slice x.A x.m x.c) = cs:=by rw [hcs];rfl
  have SZ:=Lib.hid (show cs.size = 14 by rw [hcs];rfl);rw [hcs2] at HP;rw [← hcs]
  have hp : putE x.e = ([],2):=by unfold putE;rw [hr];rfl
  rw [hp] at HP;clear hx hcs hcs2 hp hr
  go_enter Tryz.func52,Tryz.ntmps52
  go_upto_region 1 with fail
  refine nameW ?_;intro W hW
  have kb : Blk W w.heap.size 47 cs:=by rw [hW];exact Blk.new _ _ _
  have gb : Below w.heap.size w W:=by rw [hW];exact (Below.refl _ _).alloc (Nat.le_refl _) _
  clear hW
  go_wp2_with ((with_reducible refine wpList_ld rowE kb SZ.out ?_ ?_);rotate_left;(rfl))
  refine (HP.out W gb).mono ?_;rintro e w1 ⟨A,n1,c1,rfl,ho,b1⟩;have gb1:=gb.trans (b1.mono gb.size);go_wp2_with fail;refine (must_no (by first | with_reducible rfl | assumption | (simp;done) | (simp;omega)) _ _).mono ?_;rintro e w2 ⟨rfl,rfl⟩;go_wp2_with fail;exact ⟨rfl,rfl,gb1⟩
theorem told3_any (x : EvV) (w : World) (hx : EvOk w w.heap.size x) (hr : rightE x.e = true) :
    Calls Tryz.prog 52 #[.agg x.cs] w (GiveB w (told3 x.e)):=by
  have HP:=Lib.hid fun (w' : World) (hb : Below w.heap.size w w')=>eput_any x.e hx.1 x.A x.m x.c w' ((hx.2.1.below hb).more hb.size)
  obtain ⟨cs,hcs⟩ : ∃ cs,cs = x.cs:=⟨_,rfl⟩
  have hcs2 : ec x.e (.slice x.A x.m x.c) = cs:=by rw [hcs];rfl
  have SZ:=Lib.hid (show cs.size = 14 by rw [hcs];rfl);rw [hcs2] at HP;rw [← hcs]
  have hp : putE x.e = (encE x.e,0):=by unfold putE;rw [hr];rfl
  have hlen:=encE_len hx.1 hr
  have ht : told3 x.e = 3 :: encE x.e:=by unfold told3;rw [hp]
  rw [hp] at HP;rw [ht]
  generalize encE x.e = PB at *
  clear hx hcs hcs2 hp hr ht
  go_enter Tryz.func52,Tryz.ntmps52
  go_upto_region 1 with fail
  refine nameW ?_;intro W hW
  have kb : Blk W w.heap.size 47 cs:=by rw [hW];exact Blk.new _ _ _
  have gb : Below w.heap.size w W:=by rw [hW];exact (Below.refl _ _).alloc (Nat.le_refl _) _
  clear hW
  go_wp2_with ((with_reducible refine wpList_ld rowE kb SZ.out ?_ ?_);rotate_left;(rfl))
  refine (HP.out W gb).mono ?_;rintro e w1 ⟨A,n1,c1,rfl,ho,b1⟩;have gb1:=gb.trans (b1.mono gb.size);have HO:=Lib.hid ho
  have hn1 : n1≤100000000:=by rw [ho.1];omega
  clear ho b1 kb gb;go_wp2_with fail;refine (must_ok _ _).mono ?_;rintro e w2 ⟨rfl,rfl⟩;have hba : Below w1.heap.size w1 (w1.alloc (.cells #[.int .u8 3] 5)):=(Below.refl _ _).alloc (Nat.le_refl _) _
  go_wp2_with (at_builtin;refine wpList_appB rfl (.tmp 14) (.tmp 15) rfl rfl (OwnB.made w1 w1.heap.size [3] #[.int .u8 3] 1 rfl rfl (Nat.le_refl _) (by unfold maxLen;omega)) rfl (HO.out.rd.below hba) (by omega) (by simp) ?_)
  intro A' c' w3 o3 _ _ b3;rw [show 1 + n1 = n1 + 1 from Nat.add_comm _ _] at *;have HO3:=Lib.hid o3;have gb3:=gb1.trans ((hba.trans b3).mono gb1.size);clear o3 b3 hba;go_wp2_with fail;go_ret;exact ⟨A',n1 + 1,c',rfl,HO3.out.mono gb1.size,gb3⟩
theorem inc_any (b g used u i : Nat) (E : Value) (w : World) (h0 : Blk w b 88 (sc g used u i E)) :
    Calls Tryz.prog 31 #[.pointer (some ⟨b,0,none⟩)] w fun e w'=>e = .returned (.int .i64 (i : Nat))∧w = w':=by
  have c0:=h0.cell 3
  go_enter Tryz.func31,Tryz.ntmps31
  go_wp2_with fail;go_ret;exact ⟨rfl,rfl⟩
theorem events_any (b g used u i : Nat) (A : Option Addr) (n c : Nat) (xs : List EvV) (w : World) (h0 : Blk w b 88 (sc g used u i (.slice A n c))) (hn : n≤100000) (hR : RowEv w w.heap.size A n xs) (hm : ∀ x ∈ xs,x.m≤100000) :
    Calls Tryz.prog 30 #[.pointer (some ⟨b,0,none⟩)] w (CopiesEnd w n xs):=by
  have c0:=h0.cell 4;have c0 : w.cell? ⟨b,4,none⟩ = some (.slice A n c):=c0;have HO:=Lib.hid (owns_any A n c xs w hn hR hm);clear h0 hn hR hm
  go_enter Tryz.func30,Tryz.ntmps30
  go_wp2_with fail;refine HO.out.mono ?_;rintro e w1 ⟨A',c',ys,rfl,h1,h2,h3,h4⟩;go_wp2_with fail;go_ret;exact ⟨A',c',ys,rfl,h1,h2,h3,h4⟩
end Sto
end Go.Proofs.YtfpenfgmpbdakaaGreat

namespace Go.Proofs.YtfpenfgmpbdakaaGreat
set_option linter.unusedVariables false
set_option linter.unusedSimpArgs false
set_option maxRecDepth 100000
open Go.RowKit
open Disk
namespace Sto
open _root_.Go.Proofs.YtfpenfgmpbdakaaGreat.Log (writeM LogEnd lwrite_any)
open _root_.Go.Proofs.YtfpenfgmpbdakaaGreat.Frame (frm frms frms_nil frms_cons frms_snoc frms_append frm_length frm_pos Parts AllF)
structure Sd where
  b : List UInt8
  used : Nat
  upto : Nat
  inc : Nat
def StoAt (w : World) (F : Nat→Prop) (b g size : Nat) (S : Sd) (E : Value) : Prop:=DiskAt w F g size S.b []∧Blk w b 88 (sc g S.used S.upto S.inc E)∧¬ F b
def StoOp (w : World) (F : Nat→Prop) (b g size : Nat) (S : Sd) (E : Value) (w' : World) : Prop:=∃ F',StoAt w' F' b g size S E∧Only (fun k=>F k∨k = b) w w'∧Grows F F' w
structure SW (w : World) (F : Nat→Prop) (b g size : Nat) (S : Sd) (E : Value) (F1 : Nat→Prop) (w1 : World) : Prop where
  disk : DiskAt w1 F1 g size S.b []
  blk : Blk w1 b 88 (sc g S.used S.upto S.inc E)
  only : Only (fun k=>F k∨k = b) w w1
  grows : Grows F F1 w
  nf : ¬ F b
  lt : b < w.heap.size
  fl : ∀ k,F k→k < w.heap.size
section
variable {w w0 w1 w2 : World} {F F1 : Nat→Prop} {b g size : Nat} {S : Sd} {E : Value} {l : List UInt8}
theorem StoAt.sw (h : StoAt w F b g size S E) : SW w F b g size S E F w:=⟨h.1,h.2.1,Only.refl _ _,Grows.refl _ _,h.2.2,h.2.1.lt,h.1.lt⟩
theorem StoAt.below (h : StoAt w F b g size S E) (hb : Below w.heap.size w w1) : StoAt w1 F b g size S E:=⟨h.1.below hb,h.2.1.below hb h.2.1.lt,h.2.2⟩
theorem SW.nb (h : SW w F b g size S E F1 w1) : ¬ F1 b:=fun hk=>by
  rcases h.grows _ hk with q | q
  · exact h.nf q
  · have:=h.lt;omega
theorem SW.below (h : SW w F b g size S E F1 w1) (hb : Below w1.heap.size w1 w2) : SW w F b g size S E F1 w2 :=
  ⟨h.disk.below hb,h.blk.below hb h.blk.lt,h.only.then_below (hb.mono h.only.size),h.grows,h.nf,h.lt,h.fl⟩
theorem SW.op (h : SW w F b g size S E F1 w1) (ho : DiskOp w1 F1 g size l [] w2) : ∃ F2,SW w F b g size { S with b:=l } E F2 w2:=by
  obtain ⟨F2,o1,o2,o3⟩:=ho;refine ⟨F2,o1,h.blk.only o2 h.nb,?_,?_,h.nf,h.lt,h.fl⟩
  · refine h.only.trans (o2.mono (G:=fun k=>F1 k∨k = b) fun k hk=>.inl (.inl hk)) fun k hk=>?_
    rcases hk with hk | hk
    · rcases h.grows k hk with q | q
      · exact .inl (.inl q)
      · exact .inr q
    · exact .inl (.inr hk)
  · exact h.grows.trans o3 h.only.size
theorem SW.set_ {u' v' i' : Nat} (h : SW w F b g size S E F1 w1) {i : Nat} {x : Value} (hk : Blk (w1.setCell ⟨b,i,none⟩ x) b 88 (sc g u' v' i' E)) : SW w F b g size ⟨S.b,u',v',i'⟩ E F1 (w1.setCell ⟨b,i,none⟩ x) :=
  ⟨h.disk.keep ⟨by simp [World.setCell],fun k hk=>Below.heap_setCell w1 _ _ k (fun e=>h.nb (by have e : k = b:=e;rw [← e];exact hk))⟩,hk,h.only.setCell (.inl (.inr rfl)) x,h.grows,h.nf,h.lt,h.fl⟩
theorem SW.drew (h : SW w F b g size S E F1 w1) : SW w F b g size S E F1 w1.drew:=h.below (Below.refl _ _).drew
theorem SW.drewN (h : SW w F b g size S E F1 w1) (n : Nat) : SW w F b g size S E F1 (w1.drewN n):=h.below (below_drewN (Below.refl _ _) n)
theorem SW.nk (h : SW w F b g size S E F1 w1) {k : Nat} (hk : k < w.heap.size) (hF : ¬ F k) : ¬ F1 k:=fun q=>by
  rcases h.grows _ q with x | x
  · exact hF x
  · omega
theorem SW.err (h : SW w0 F b g size S E F1 w1) (hb : Below w.heap.size w w0) (hs : w.heap.size < w0.heap.size) (hl : b < w.heap.size) (hf : ∀ k,F k→k < w.heap.size) (i : Nat) (x : Value) : StoOp w F b g size S E (w1.setCell ⟨w.heap.size,i,none⟩ x):=by
  have hn : ¬ F1 w.heap.size:=fun hk=>by
    rcases h.grows _ hk with q | q
    · have:=hf _ q;omega
    · omega
  refine ⟨F1,⟨h.disk.keep ⟨by simp [World.setCell],fun k hk=>Below.heap_setCell w1 _ _ k (fun e=>hn (by have e : k = w.heap.size:=e;rw [← e];exact hk))⟩,h.blk.far (by show b ≠ w.heap.size;omega) x,h.nb⟩,
    ((Only.of_below _ hb).trans h.only (Grows.refl _ _)).setCell (.inr (Nat.le_refl _)) x,fun k hk=>(h.grows k hk).imp id fun q=>by have:=hb.size;omega⟩
theorem SW.keeps {t : TypeId} {cs : Array Value} (h : SW w0 F b g size S E F1 w1) {k : Nat} (kb : Blk w0 k t cs) (hk : k ≠ b) (hf : ¬ F k) : Blk w1 k t cs:=kb.only h.only (by rintro (q | q);exact hf q;exact hk q)
end
theorem write_any (A : Option Addr) (n c B : Nat) (bs : List UInt8) (F : Nat→Prop) (b g size u v i : Nat) (lasts : List UInt8) (E : Value) (w : World) (h0 : Blk w b 88 (sc g u v i E)) (hD : DiskAt w F g size lasts []) (hm : lasts.length≤16384) (hs : size≤16384)
    (hb : RdB w B A n bs) (hB : B≤w.heap.size) (hc : n≤c) (hcm : c≤maxLen) :
    Calls Tryz.prog 48 #[.pointer (some ⟨b,0,none⟩),.slice A n c] w fun e w'=>(e = if (writeM size lasts [] bs).1 = 0 then .returned (.tuple #[]) else .panicked [{ v:=flt ((writeM size lasts [] bs).1 : Nat),recovered:=false }])∧DiskOp w F g size (writeM size lasts [] bs).2.1 (writeM size lasts [] bs).2.2 w':=by
  have c0 : w.cell? ⟨b,0,none⟩ = some (.pointer (some ⟨g,0,none⟩)):=h0.cell 0;have hw:=lwrite_any A n c B bs F g size lasts [] w hD (by simp [mass];omega) (by simp) hs hb hB hc hcm
  unfold LogEnd at hw
  generalize writeM size lasts [] bs = r at *
  obtain ⟨k,l1,l2⟩:=r
  simp only at hw ⊢
  have HW:=Lib.hid hw;clear hw hD hb hc hm h0
  by_cases h : k = 0
  · subst h
    rw [if_pos rfl]
    go_enter Tryz.func48,Tryz.ntmps48
    go_wp2_with fail;refine HW.out.mono ?_;rintro e w1 ⟨rfl,h1⟩;have H1:=Lib.hid h1;clear h1;go_wp2_with fail;refine (must_yes (by first | with_reducible rfl | assumption | (simp;done) | (simp;omega)) _ _).mono ?_;rintro e w2 ⟨rfl,rfl⟩;go_wp2_with fail
    go_end0
    exact ⟨rfl,H1.out⟩
  · rw [if_neg h]
    have hq : ((k : Int) == 0) = false:=by rw [beq_eq_false_iff_ne];omega
    go_enter Tryz.func48,Tryz.ntmps48
    go_wp2_with fail;refine HW.out.mono ?_;rintro e w1 ⟨rfl,h1⟩;have H1:=Lib.hid h1;clear h1;go_wp2_with fail;refine (must_no (by first | with_reducible rfl | assumption | (simp;done) | (simp;omega)) _ _).mono ?_;rintro e w2 ⟨rfl,rfl⟩;go_wp2_with fail;exact ⟨rfl,rfl,H1.out⟩
theorem told_lit (kd : UInt8) (z m : Int) (n : Nat) (hz : (kd.toNat : Int) = z) (hm : m = (n : Nat)) (hn : n≤1099511627776) (w : World) :
    Calls Tryz.prog 49 #[.int .u8 z,.int .i64 m] w (GiveB w (told kd n)):=by
  subst hz hm;exact told_any kd n hn w
theorem told_write {size : Nat} {b : List UInt8} {kd : UInt8} {n : Nat} : writeM size b [] (told kd n) = if b.length + (frm (told kd n)).length≤size then (0,b ++ frm (told kd n),[]) else (7,b,[]):=by
  unfold writeM
  have:=told_len kd n
  rw [if_neg (by omega)]
  rfl
def nextD (size : Nat) (S : Sd) : Nat × Nat × Sd :=
  if S.used < S.upto then (S.used + 1,0,⟨S.b,S.used + 1,S.upto,S.inc⟩)
  else if 96≤S.upto then (0,7,S)
  else if S.b.length + (frm (told 1 (min (S.upto + 8) 96))).length≤size then (S.used + 1,0,⟨S.b ++ frm (told 1 (min (S.upto + 8) 96)),S.used + 1,min (S.upto + 8) 96,S.inc⟩)
  else (0,7,S)
def bumpD (size : Nat) (S : Sd) : Nat × Nat × Sd :=
  if 1099511627776≤S.inc then (0,7,S)
  else if S.b.length + (frm (told 2 (S.inc + 1))).length≤size then (S.inc + 1,0,⟨S.b ++ frm (told 2 (S.inc + 1)),S.used,S.upto,S.inc + 1⟩)
  else (0,7,S)
def NumOp (w : World) (F : Nat→Prop) (b g size : Nat) (E : Value) (r : Nat × Nat × Sd) (e : Ending) (w' : World) : Prop:=e = .returned (.tuple #[.int .i64 (r.1 : Nat),.int .i64 (r.2.1 : Nat)])∧StoOp w F b g size r.2.2 E w'
theorem next_nil (w : World) :
    Calls Tryz.prog 14 #[.pointer none] w fun e w'=>e = .returned (.tuple #[.int .i64 0,.int .i64 1])∧Below w.heap.size w w':=by
  have k0:=(Blk.new w 27 #[.int .i64 0]).set_ 0 (.int .i64 1);have c0 : World.cell? _ _ = some (.int .i64 1):=k0.cell 0;have f0:=(Blk.new w 27 #[.int .i64 0]).free 0;have hbw : Below w.heap.size w (w.alloc (.cells #[.int .i64 1] 27)):=(Below.refl _ _).alloc (Nat.le_refl _) _;have HB:=Lib.hid hbw;clear hbw k0
  go_enter_defers Tryz.func14,Tryz.ntmps14
  go_wp2_with fail;refine ⟨.tuple #[.int .i64 0,.int .i64 1],by simp [results,Tryz.results14,go_sem,c0],rfl,HB.out⟩
theorem upto_any (b g used u i : Nat) (E : Value) (w : World) (h0 : Blk w b 88 (sc g used u i E)) :
    Calls Tryz.prog 32 #[.pointer (some ⟨b,0,none⟩)] w fun e w'=>e = .returned (.int .i64 (u : Nat))∧w = w':=by
  have c0:=h0.cell 2
  go_enter Tryz.func32,Tryz.ntmps32
  go_wp2_with fail;go_ret;exact ⟨rfl,rfl⟩
end Sto
end Go.Proofs.YtfpenfgmpbdakaaGreat

namespace Go.Proofs.YtfpenfgmpbdakaaGreat
set_option linter.unusedVariables false
set_option linter.unusedSimpArgs false
set_option maxRecDepth 100000
open Go.RowKit
section
variable {w w' : World} {B B' base n c : Nat} {A : Option Addr} {ls ms : List (List UInt8)} {es fs : List Sl}
end
section
variable {w w' : World} {B base n c : Nat} {A : Option Addr} {ls ms : List (List UInt8)}
theorem only_row {row : Option Nat} (hg : w.grownBy w' row) : Only (fun k=>row = some k) w w':=⟨hg.os,hg.tape,hg.output,hg.size,fun k hk hn=>hg.block k hk fun e=>hn e.symm⟩
end
end Go.Proofs.YtfpenfgmpbdakaaGreat

namespace Go.Proofs.YtfpenfgmpbdakaaGreat
set_option linter.unusedVariables false
set_option linter.unusedSimpArgs false
set_option maxRecDepth 100000
open Go.RowKit
open Dot Evt
open Disk
namespace Sto
open _root_.Go.Proofs.YtfpenfgmpbdakaaGreat.Log (writeM LogEnd lwrite_any)
open _root_.Go.Proofs.YtfpenfgmpbdakaaGreat.Frame (frm frms frms_nil frms_cons frms_snoc frms_append frm_length frm_pos Parts AllF)
structure EvsAt (w : World) (F : Nat→Prop) (b base : Nat) (A : Option Addr) (n c : Nat) (xs : List EvV) : Prop where
  row : OwnEv w base A n c xs
  own : ∀ x ∈ xs,EvOwn w base x
  nf : ∀ k,A.map (·.block) = some k→¬ F k∧k ≠ b
  nfx : ∀ x ∈ xs,∀ k,x.A.map (·.block) = some k→¬ F k∧k ≠ b
section
variable {w w0 w1 w2 : World} {F F1 G : Nat→Prop} {b g size base n c : Nat} {A : Option Addr} {xs : List EvV} {S : Sd} {l : List UInt8}
theorem EvsAt.lt (h : EvsAt w F b base A n c xs) : (∀ k,A.map (·.block) = some k→k < w.heap.size)∧∀ x ∈ xs,∀ k,x.A.map (·.block) = some k→k < w.heap.size :=
  ⟨fun k hk=>(h.row.lt k hk).2,fun x hx k hk=>((h.own x hx).2.1.lt k hk).2⟩
theorem EvsAt.only (h : EvsAt w F b base A n c xs) (ho : Only G w w1) (hg : Grows F F1 w) (hG : ∀ k,G k→F k∨k = b∨w.heap.size≤k) : EvsAt w1 F1 b base A n c xs:=by
  obtain ⟨l1,l2⟩:=h.lt
  have key : ∀ k,k < w.heap.size→¬ F k∧k ≠ b→w1.heap[k]? = w.heap[k]?:=fun k hk hn=>ho.block k hk (fun q=>by
    rcases hG k q with q | q | q
    · exact hn.1 q
    · exact hn.2 q
    · omega)
  have grow : ∀ k,k < w.heap.size→¬ F k∧k ≠ b→¬ F1 k∧k ≠ b:=fun k hk hn=>⟨fun q=>by
    rcases hg k q with q | q
    · exact hn.1 q
    · omega,hn.2⟩
  exact ⟨⟨h.row.1,ownsRow_keep h.row.2 fun k hk=>key k (l1 k hk) (h.nf k hk)⟩,
    fun x hx=>⟨(h.own x hx).1,⟨(h.own x hx).2.1.1,ownsRow_keep (h.own x hx).2.1.2 fun k hk=>key k (l2 x hx k hk) (h.nfx x hx k hk)⟩,(h.own x hx).2.2⟩,
    fun k hk=>grow k (l1 k hk) (h.nf k hk),fun x hx k hk=>grow k (l2 x hx k hk) (h.nfx x hx k hk)⟩
theorem EvsAt.below (h : EvsAt w F b base A n c xs) (hb : Below w.heap.size w w1) : EvsAt w1 F b base A n c xs :=
  h.only (Only.of_below (fun _=>False) hb) (Grows.refl _ _) (fun k q=>q.elim)
theorem EvsAt.setT (h : EvsAt w F b base A n c xs) {q : Nat} {T : TypeId} {cs : Array Value} (hq : Blk w q T cs) (h1 : T ≠ 47) (h2 : T ≠ 42) (j : Nat) (v : Value) : EvsAt (w.setCell ⟨q,j,none⟩ v) F b base A n c xs :=
  ⟨⟨h.row.1,ownsRow_keep h.row.2 fun k hk=>Below.heap_setCell w ⟨q,j,none⟩ v k (fun e=>own_ne h.row.2 hq h1 (by rw [hk,e]))⟩,
    fun x hx=>⟨(h.own x hx).1,(h.own x hx).2.1.setFar (p:=⟨q,j,none⟩) (own_ne (h.own x hx).2.1.2 hq h2) v,(h.own x hx).2.2⟩,h.nf,h.nfx⟩
def EOp (w : World) (F : Nat→Prop) (b g size base : Nat) (A : Option Addr) (S : Sd) (evs : List Ev) (w' : World) : Prop :=
  ∃ F' A' n' c' xs',StoAt w' F' b g size S (.slice A' n' c')∧EvsAt w' F' b base A' n' c' xs'∧xs'.map (·.e) = evs∧Only (fun k=>F k∨k = b∨A.map (·.block) = some k) w w'∧Grows F F' w
structure SE (w : World) (F : Nat→Prop) (b g size : Nat) (S : Sd) (base : Nat) (A : Option Addr) (n c : Nat) (xs : List EvV) (F1 : Nat→Prop) (w1 : World) : Prop where
  sw : SW w F b g size S (.slice A n c) F1 w1
  ev : EvsAt w1 F1 b base A n c xs
theorem SE.start (h : StoAt w F b g size S (.slice A n c)) (he : EvsAt w F b base A n c xs) : SE w F b g size S base A n c xs F w:=⟨h.sw,he⟩
theorem SE.below (h : SE w F b g size S base A n c xs F1 w1) (hb : Below w1.heap.size w1 w2) : SE w F b g size S base A n c xs F1 w2:=⟨h.sw.below hb,h.ev.below hb⟩
theorem SE.op (h : SE w F b g size S base A n c xs F1 w1) (ho : DiskOp w1 F1 g size l [] w2) : ∃ F2,SE w F b g size { S with b:=l } base A n c xs F2 w2:=by
  have hs:=h.sw;obtain ⟨F2,o1,o2,o3⟩:=ho;refine ⟨F2,⟨o1,hs.blk.only o2 hs.nb,?_,?_,hs.nf,hs.lt,hs.fl⟩,h.ev.only o2 o3 (fun k q=>.inl q)⟩
  · refine hs.only.trans (o2.mono (G:=fun k=>F1 k∨k = b) fun k hk=>.inl (.inl hk)) fun k hk=>?_
    rcases hk with hk | hk
    · rcases hs.grows k hk with q | q
      · exact .inl (.inl q)
      · exact .inr q
    · exact .inl (.inr hk)
  · exact hs.grows.trans o3 hs.only.size
theorem SE.fail (h : SE w0 F b g size S base A n c xs F1 w1) (hb : Below w.heap.size w w0) (hl : b < w.heap.size) (hf : ∀ k,F k→k < w.heap.size) {q : Nat} {cs : Array Value} (hq : Blk w1 q 27 cs) (h1 : w.heap.size≤q) (h2 : q < w0.heap.size) (j : Nat) (v : Value) :
    EOp w F b g size base A S (xs.map (·.e)) (w1.setCell ⟨q,j,none⟩ v):=by
  have hs:=h.sw
  have hn : ¬ F1 q:=fun hk=>by
    rcases hs.grows _ hk with x | x
    · have:=hf _ x;omega
    · omega
  refine ⟨F1,A,n,c,xs,⟨hs.disk.keep ⟨by simp [World.setCell],fun k hk=>Below.heap_setCell w1 _ _ k (fun e=>hn (by have e : k = q:=e;rw [← e];exact hk))⟩,hs.blk.far (by show b ≠ q;omega) v,hs.nb⟩,h.ev.setT hq (by decide) (by decide) j v,rfl,?_,fun k hk=>(hs.grows k hk).imp id fun x=>by have:=hb.size;omega⟩;exact (((Only.of_below _ hb).trans hs.only (Grows.refl _ _)).setCell (.inr h1) v).mono (fun k hk=>.inl (by rcases hk with x | x;exact .inl x;exact .inr (.inl x)))
end
def KpRow (wd w : World) (base : Nat) (A : Option Addr) (n : Nat) (xs : List EvV) (x : Ev) (v : Value) : Prop :=
  ∃ A9 c9 z,v = .slice A9 (n + 1) c9∧OwnEv w base A9 (n + 1) c9 (xs ++ [z])∧z.e = x∧(∀ y ∈ xs ++ [z],EvOwn w base y)∧(A9.map (·.block) = A.map (·.block)∨∀ k,A9.map (·.block) = some k→wd.heap.size≤k)∧∀ k,z.A.map (·.block) = some k→wd.heap.size≤k
theorem step_appE {w : World} {o : Oper} {a : Act} {K : Act→World→Prop} {Q : Exit→Act→World→Prop} (s x : Operand)
    (ho : o.op = .call { callee:=.builtin .append,args:=#[s,x],argTypes:=#[48,48] })
    {base : Nat} {A : Option Addr} {n c : Nat} {bs : List EvV} (hs : a.eval s = .slice A n c) (hown : OwnEv w base A n c bs)
    {B : Nat} {D : Option Addr} {m d : Nat} {news : List EvV} (hx : a.eval x = .slice D m d) (hr : Rd w B D (ecsL news)) (hm : m = news.length)
    (hbytes : n + m≤1000000000000) (hbase : base≤w.heap.size)
    (h : ∀ A' c' w',OwnEv w' base A' (n + m) c' (bs ++ news)→w.grownBy w' (A.map (·.block))→Moved A' (A.map (·.block)) w.heap.size→Below base w w' →
      K (a.put o.dst (.slice A' (n + m) c')) w') : Oper.wp Tryz.prog o a w K Q:=by
  obtain ⟨i0,hi,hz0,hz1,hz2⟩:=info_parts infoEv
  have hob : (Value.slice A n c).ownBlock = A.map (·.block):=by cases A <;> rfl
  obtain ⟨v',w',hrun,h2,h3,h4⟩:=run_app (P:=Tryz.prog) w base 48 o.type 47 i0 (.agg (cT 0)) 14 128 Tryz.underlying48 hi hz0 hz1 hz2 rfl (by decide) (.slice A n c) n _ hown.2 B D m d (ecsL news) hr (by rw [ecsL_len,hm]) (ecsL_one _) (by unfold maxLen;omega) (by omega) hbase
  unfold Oper.wp execOp
  simp only [ho,resolve,invoke,builtin,Sem.run_bind,Sem.run_pure,Result.andThen_ok,List.map_toArray,List.map_cons,List.map_nil,hs,hx,hrun]
  have hv : ∃ A' c',v' = .slice A' (n + m) c'∧v'.ownBlock = A'.map (·.block):=by
    rcases h2.2 with ⟨rfl,h0⟩ | ⟨g,cap,cur,rfl,_⟩
    · exact ⟨none,0,by rw [h0],rfl⟩
    · exact ⟨_,_,rfl,rfl⟩
  obtain ⟨A',c',rfl,hb⟩:=hv;rw [hb] at h4;rw [hob] at h3 h4;exact h _ _ _ ⟨by rw [List.length_append,hown.1,hm],by rw [ecsL_app];exact h2⟩ h3 h4 ((Below.refl _ _).grown h3 hbase (fun g hg=>(hown.lt g hg).1))
theorem Blk.rdMg {w : World} {g : Nat} {T : TypeId} {cs : Array Value} (h : Blk w g T cs) : Rd w (g + 1) (some ⟨g,0,none⟩) cs.toList:=fun j u hu=>⟨_,rfl,Nat.lt_succ_self _,by rw [add_mk,Nat.zero_add,h.cell,← hu];exact (Array.getElem?_toList ..).symm⟩
theorem ev_dot {w : World} {g : Nat} {T : TypeId} {cs : Array Value} (k : Blk w g T cs) {x y : Int} (h0 : cs[0]? = some (.int .i64 x)) (h1 : cs[1]? = some (.int .i64 y)) : w.rangeAt g 0 (#[Value.int .i64 x,.int .i64 y] : Array Value).toList:=fun j v hv=>by
  rw [Nat.zero_add,k.cell]
  match j,hv with
  | 0,hv=>rw [h0,← hv];rfl
  | 1,hv=>rw [h1,← hv];rfl
  | j + 2,hv=>simp at hv
theorem rowDt2 : RowT Tryz.prog 42 2:=⟨_,Tryz.underlying42,rfl,by kernel_rfl⟩
def keepD (size : Nat) (S : Sd) (evs : List Ev) (x : Ev) : Nat × Sd × List Ev :=
  if rightE x = false then (2,S,evs) else if hasE evs x.d = true then (9,S,evs)
  else if S.b.length + (frm (told3 x)).length≤size then (0,{ S with b:=S.b ++ frm (told3 x) },evs ++ [x]) else (7,S,evs)
def KeepEnd (w : World) (F : Nat→Prop) (b g size base : Nat) (A : Option Addr) (r : Nat × Sd × List Ev) (e : Ending) (w' : World) : Prop:=e = .returned (.int .i64 (r.1 : Nat))∧EOp w F b g size base A r.2.1 r.2.2 w'
theorem told3_len {x : Ev} (hp : x.p.length = 7) (hr : rightE x = true) : (told3 x).length≤1231:=by
  unfold told3 putE
  rw [hr,if_pos rfl,List.length_cons]
  have:=encE_len hp hr
  simp only
  omega
theorem told3_write {size : Nat} {bs : List UInt8} {x : Ev} (hp : x.p.length = 7) (hr : rightE x = true) : writeM size bs [] (told3 x) = if bs.length + (frm (told3 x)).length≤size then (0,bs ++ frm (told3 x),[]) else (7,bs,[]):=by
  unfold writeM
  have:=told3_len hp hr
  rw [if_neg (by omega)]
  rfl
set_option maxHeartbeats 8000000 in
theorem keep_any (x : EvV) (S : Sd) (F : Nat→Prop) (b g size base : Nat) (A : Option Addr) (n c : Nat) (xs : List EvV) (ws : World) (h : StoAt ws F b g size S (.slice A n c)) (he : EvsAt ws F b base A n c xs) (hx : ∀ w',Only (fun k=>F k∨k = b) ws w'→EvOk w' w'.heap.size x) (hm : x.m≤100000) (hn : n≤100000) (hB : base≤ws.heap.size) (hs0 : size≤16384) (hl : S.b.length≤16384) :
    Calls Tryz.prog 18 #[.pointer (some ⟨b,0,none⟩),.agg x.cs] ws (KeepEnd ws F b g size base A (keepD size S (xs.map (·.e)) x.e)):=by
  have hlt : b < ws.heap.size:=h.2.1.lt;have hf : ∀ k,F k→k < ws.heap.size:=h.1.lt;obtain ⟨cs,hcs⟩ : ∃ cs,cs = x.cs:=⟨_,rfl⟩;have SZ:=Lib.hid (show cs.size = 14 by rw [hcs];rfl);have X0:=Lib.hid (show cs[0]? = some (.int .i64 x.e.d.1) by rw [hcs];rfl);have X1:=Lib.hid (show cs[1]? = some (.int .i64 x.e.d.2) by rw [hcs];rfl);have HCS:=Lib.hid hcs;rw [← hcs];obtain ⟨w0,hw0⟩ : ∃ w0,w0 = (ws.alloc (.cells cs 47)).alloc (.cells #[.int .i64 0] 27):=⟨_,rfl⟩
  have hbw : Below ws.heap.size ws w0:=by rw [hw0];exact ((Below.refl _ _).alloc (Nat.le_refl _) _).alloc (by simp) _
  have kE : Blk w0 ws.heap.size 47 cs:=by rw [hw0];exact (Blk.new ws _ _).alloc _
  have k0 : Blk w0 (ws.heap.size + 1) 27 #[.int .i64 0]:=by
    have h:=Blk.new (ws.alloc (.cells cs 47)) 27 #[.int .i64 0];rw [hw0]
    simpa using h
  have s0:=SE.start (h.below hbw) (he.below hbw)
  have HX:=Lib.hid fun (w' : World) (hb : Below ws.heap.size ws w')=>hx w' (Only.of_below _ hb)
  have HXO:=Lib.hid hx
  have hnF : ¬ F (ws.heap.size + 1):=fun q=>by have:=hf _ q;omega
  have hnFe : ¬ F ws.heap.size:=fun q=>by have:=hf _ q;omega
  have HXM:=Lib.hid hm;have HP7:=Lib.hid (hx ws (Only.refl _ _)).1;have hsz : ws.heap.size + 1 < w0.heap.size:=k0.lt;have HNX:=Lib.hid he.row.1;have HAL:=Lib.hid he.lt.1;clear h he hx hm hcs
  go_enter_defers Tryz.func18,Tryz.ntmps18
  go_upto_region 4 with fail
  rw [← hw0];have HW0:=Lib.hid hw0;clear hw0
  cases hr : rightE x.e
  case false =>
    have hd : keepD size S (xs.map (·.e)) x.e = (2,S,xs.map (·.e)):=by unfold keepD;rw [hr];rfl
    have HD:=Lib.hid hd;have HT:=Lib.hid (by have:=told3_bad x w0 (HX.out w0 hbw) hr;rw [← HCS.out] at this;exact this);clear hd hr
    go_wp2_with ((with_reducible refine wpList_ld rowE kE SZ.out ?_ ?_);rotate_left;(rfl))
    refine HT.out.mono ?_;rintro e w1 ⟨rfl,b1⟩;have k1:=k0.below b1 k0.lt;have s1:=s0.below b1;go_wp2_with fail;refine leaves_cons (f:=38) (args:=#[.pointer (some ⟨ws.heap.size + 1,0,none⟩)]) (by simp) (by simp [go_sem]) ?_;refine (caught_panic (ws.heap.size + 1) 2 [] (.int .i64 0) _ (k1.cell 0) (k1.free 0)).mono ?_;rintro e u' w'' ⟨rfl,rfl,rfl⟩;have k8:=k1.alloc (.cells #[.int .i64 2] 113);have c9 : World.cell? _ _ = some (.int .i64 2):=(k8.set_ 0 (.int .i64 2)).cell 0;have s9:=(s1.below ((Below.refl _ _).alloc (Nat.le_refl _) (.cells #[.int .i64 2] 113))).fail hbw hlt hf k8 (by omega) hsz 0 (.int .i64 2);refine ⟨.int .i64 2,by simp [results,Tryz.results18,go_sem,c9],?_⟩;rw [HD.out];exact ⟨rfl,s9⟩
  obtain ⟨R,hR⟩ : ∃ R,R = hasE (xs.map (·.e)) x.e.d:=⟨_,rfl⟩;have HR:=Lib.hid (And.intro hr hR);have HT:=Lib.hid (by have:=told3_any x w0 (HX.out w0 hbw) hr;rw [← HCS.out] at this;exact this);clear hr hR
  go_wp2_with ((with_reducible refine wpList_ld rowE kE SZ.out ?_ ?_);rotate_left;(rfl))
  refine HT.out.mono ?_;rintro e w1 ⟨A2,n2,c2',rfl,o2,b2⟩;have k1:=k0.below b2 k0.lt;have kE1:=kE.below b2 kE.lt;have s1:=s0.below b2;have HO2:=Lib.hid o2;have c4 : w1.cell? ⟨b,4,none⟩ = some (.slice A n c):=s1.sw.blk.cell 4;have hlb:=s1.sw.blk.lt;have HS1:=Lib.hid s1
  have HHAS:=Lib.hid fun (w' : World) (hb : Below w1.heap.size w1 w')=>(by
    have hs:=HS1.out.below hb
    have:=shas_any A n c xs x.e.d.1 x.e.d.2 w' (hs.ev.row.row (fun y hy=>(hs.ev.own y hy).ok)) (by omega)
    rw [show ((x.e.d.1,x.e.d.2) : Dt) = x.e.d from rfl,← HR.out.2] at this
    exact this : Calls Tryz.prog 53 #[.slice A n c,.agg #[.int .i64 x.e.d.1,.int .i64 x.e.d.2]] w' fun e w''=>e = .returned (.bool R)∧Below w'.heap.size w' w'')
  have HD2:=Lib.hid (ev_dot (w:=w1) kE1 X0.out X1.out);have hlE:=kE1.lt;clear o2 b2 HT kE k0 s0 s1
  go_upto_region 5 with fail
  refine wp_region_tailF 9 8 (fun L v w=>v 0 = .pointer (some ⟨b,0,none⟩)∧v 3 = .pointer (some ⟨ws.heap.size,0,none⟩)∧Below w1.heap.size w1 w∧(L 0 = true→v 10 = .pointer (some ⟨b,0,none⟩))∧(L 1 = true→v 11 = .pointer (some ⟨b,0,none⟩))∧(L 2 = true→v 12 = .pointer (some ⟨b,4,none⟩))∧(L 3 = true→v 13 = .slice A n c)∧(L 4 = true→v 14 = .pointer (some ⟨ws.heap.size,0,none⟩))∧(L 5 = true→v 15 = .agg #[.int .i64 x.e.d.1,.int .i64 x.e.d.2])∧(L 6 = true→v 16 = .bool R)∧(L 7 = true→v 17 = .bool (!R))) [10,11,12,13,14,15,16,17] (by kernel_rfl) (by kernel_rfl) (by kernel_rfl) (by kernel_rfl) (by kernel_rfl) (by kernel_rfl) ?h0 ?hst ?hend
  case h0 =>
    intro L h0;have h0 : ∀ i,i < 8→L i = false:=h0;exact ⟨rfl,rfl,(Below.refl _ _).drew,offF h0 (i:=0) (by decide),offF h0 (i:=1) (by decide),offF h0 (i:=2) (by decide),offF h0 (i:=3) (by decide),offF h0 (i:=4) (by decide),offF h0 (i:=5) (by decide),offF h0 (i:=6) (by decide),offF h0 (i:=7) (by decide)⟩
  case hst =>
    show FactSteps _ _ _ _ [0,1,2,3,4,5,6,7]
    refine @FactSteps.cons _ _ _ _ 0 _ [] _ rfl (by kernel_rfl) ?s0 ?_;rotate_left;refine @FactSteps.cons _ _ _ _ 1 _ [0] _ rfl (by kernel_rfl) ?s1 ?_;rotate_left;refine @FactSteps.cons _ _ _ _ 2 _ [1] _ rfl (by kernel_rfl) ?s2 ?_;rotate_left;refine @FactSteps.cons _ _ _ _ 3 _ [2] _ rfl (by kernel_rfl) ?s3 ?_;rotate_left;refine @FactSteps.cons _ _ _ _ 4 _ [] _ rfl (by kernel_rfl) ?s4 ?_;rotate_left;refine @FactSteps.cons _ _ _ _ 5 _ [4] _ rfl (by kernel_rfl) ?s5 ?_;rotate_left;refine @FactSteps.cons _ _ _ _ 6 _ [3,5] _ rfl (by kernel_rfl) ?s6 ?_;rotate_left;refine @FactSteps.cons _ _ _ _ 7 _ [6] _ rfl (by kernel_rfl) ?s7 ?_;rotate_left;exact FactSteps.nil
    case s0 =>
      rintro L a v w hv hg hL hd hcl ⟨e0,e3,hb,f0,f1,f2,f3,f4,f5,f6,f7⟩ K hK;refine step_do rfl ?_;clear hv;go_simp;exact hK.out _ _ ⟨e0,e3,hb,fun _=>rfl,f1,f2,f3,f4,f5,f6,f7⟩
    case s1 =>
      rintro L a v w hv hg hL hd hcl ⟨e0,e3,hb,f0,f1,f2,f3,f4,f5,f6,f7⟩ K hK;have g0:=f0 (hd 0 (by decide));have g0:=f0 (hd 0 (by decide));refine step_do rfl ?_;clear hv;go_simp;exact hK.out _ _ ⟨e0,e3,hb,f0,fun _=>rfl,f2,f3,f4,f5,f6,f7⟩
    case s2 =>
      rintro L a v w hv hg hL hd hcl ⟨e0,e3,hb,f0,f1,f2,f3,f4,f5,f6,f7⟩ K hK;have g1:=f1 (hd 1 (by decide));have g1:=f1 (hd 1 (by decide));refine step_do rfl ?_;clear hv;go_simp;exact hK.out _ _ ⟨e0,e3,hb,f0,f1,fun _=>rfl,f3,f4,f5,f6,f7⟩
    case s3 =>
      rintro L a v w hv hg hL hd hcl ⟨e0,e3,hb,f0,f1,f2,f3,f4,f5,f6,f7⟩ K hK;have g2:=f2 (hd 2 (by decide));have g2:=f2 (hd 2 (by decide));have cs4 : w.cell? ⟨b,4,none⟩ = some (.slice A n c):=(hb.cell (p:=⟨b,4,none⟩) hlb).trans c4;refine step_do rfl ?_;clear hv;go_simp;exact hK.out _ _ ⟨e0,e3,hb,f0,f1,f2,fun _=>rfl,f4,f5,f6,f7⟩
    case s4 =>
      rintro L a v w hv hg hL hd hcl ⟨e0,e3,hb,f0,f1,f2,f3,f4,f5,f6,f7⟩ K hK;refine step_do rfl ?_;clear hv;go_simp;exact hK.out _ _ ⟨e0,e3,hb,f0,f1,f2,f3,fun _=>rfl,f5,f6,f7⟩
    case s5 =>
      rintro L a v w hv hg hL hd hcl ⟨e0,e3,hb,f0,f1,f2,f3,f4,f5,f6,f7⟩ K hK;have g4:=f4 (hd 4 (by decide));refine step_do rfl ?_;refine wp_ldr rowDt2 (.tmp 14) rfl ((hv 14).trans g4) (range_keep HD2.out hb hlE) rfl ?_;exact hK.out _ _ ⟨e0,e3,hb,f0,f1,f2,f3,f4,fun _=>rfl,f6,f7⟩
    case s6 =>
      rintro L a v w hv hg hL hd hcl ⟨e0,e3,hb,f0,f1,f2,f3,f4,f5,f6,f7⟩ K hK;have g3:=f3 (hd 3 (by decide));have g5:=f5 (hd 5 (by decide));have hh:=HHAS.out w hb;refine step_do rfl ?_;clear hv;go_simp;refine hh.mono ?_;rintro e wy ⟨rfl,bb⟩;exact hK.out _ _ ⟨e0,e3,(hb.trans (bb.mono hb.size)),f0,f1,f2,f3,f4,f5,fun _=>rfl,f7⟩
    case s7 =>
      rintro L a v w hv hg hL hd hcl ⟨e0,e3,hb,f0,f1,f2,f3,f4,f5,f6,f7⟩ K hK;refine step_do rfl ?_;clear hv;go_simp;exact hK.out _ _ ⟨e0,e3,hb,f0,f1,f2,f3,f4,f5,f6,fun _=>rfl⟩
  case hend =>
  rintro L v w2 hall ⟨e0,e3,hb,f0,f1,f2,f3,f4,f5,f6,f7⟩;have hL : ∀ i,i < 8→L i = true:=hall;have f0:=f0 (hL 0 (by decide));have f1:=f1 (hL 1 (by decide));have f2:=f2 (hL 2 (by decide));have f3:=f3 (hL 3 (by decide));have f4:=f4 (hL 4 (by decide));have f5:=f5 (hL 5 (by decide));have f6:=f6 (hL 6 (by decide));have f7:=f7 (hL 7 (by decide))
  simp only [finA,List.foldl_cons,List.foldl_nil,Act.put,List.setIfInBounds_toArray,List.set_cons_succ,List.set_cons_zero,f0,f1,f2,f3,f4,f7,f5,f6]
  have k2:=k1.below hb k1.lt;have kE2:=kE1.below hb kE1.lt;have s2:=HS1.out.below hb;have HO2:=Lib.hid (HO2.out.below hb (Nat.le_refl _));clear e0 e3 f0 f1 f2 f3 f4 f5 f6 f7 hL hall hb
  show wpList _ _ _ [_] _ _
  have HS2:=Lib.hid s2;clear HHAS c4 hlb HD2 hlE HS1 s2 k1 kE1
  cases R
  case true =>
    have hd : keepD size S (xs.map (·.e)) x.e = (9,S,xs.map (·.e)):=by unfold keepD;rw [if_neg (by rw [HR.out.1];decide),if_pos HR.out.2.symm]
    have HD:=Lib.hid hd;clear hd;go_wp2_with fail;refine (must_bad _ _).mono ?_;rintro e w3 ⟨rfl,rfl⟩;go_wp2_with fail;refine leaves_cons (f:=38) (args:=#[.pointer (some ⟨ws.heap.size + 1,0,none⟩)]) (by simp) (by simp [go_sem]) ?_;refine (caught_panic (ws.heap.size + 1) 9 [] (.int .i64 0) _ (k2.cell 0) (k2.free 0)).mono ?_;rintro e u' w'' ⟨rfl,rfl,rfl⟩;have k8:=k2.alloc (.cells #[.int .i64 9] 113);have c9 : World.cell? _ _ = some (.int .i64 9):=(k8.set_ 0 (.int .i64 9)).cell 0;have s9:=(HS2.out.below ((Below.refl _ _).alloc (Nat.le_refl _) (.cells #[.int .i64 9] 113))).fail hbw hlt hf k8 (by omega) hsz 0 (.int .i64 9);refine ⟨.int .i64 9,by simp [results,Tryz.results18,go_sem,c9],?_⟩;rw [HD.out];exact ⟨rfl,s9⟩
  have hle:=ownsRow_le HO2.out.2;have hwr:=write_any A2 n2 c2' _ (told3 x.e) _ b g size S.used S.upto S.inc S.b (.slice A n c) w2 HS2.out.sw.blk HS2.out.sw.disk hl hs0 HO2.out.rd (Nat.le_refl _) hle.1 hle.2;rw [told3_write HP7.out HR.out.1] at hwr
  by_cases hroom : S.b.length + (frm (told3 x.e)).length≤size
  case neg =>
    have hd : keepD size S (xs.map (·.e)) x.e = (7,S,xs.map (·.e)):=by unfold keepD;rw [if_neg (by rw [HR.out.1];decide),if_neg (by rw [← HR.out.2];decide),if_neg hroom]
    have HD:=Lib.hid hd;rw [if_neg hroom] at hwr;have HWR:=Lib.hid hwr;clear hd hwr hroom hle;go_wp2_with fail;refine (must_ok _ _).mono ?_;rintro e w3 ⟨rfl,rfl⟩;go_wp2_with fail;refine HWR.out.mono ?_;rintro e w3 ⟨he,d3⟩;obtain rfl : e = .panicked [{ v:=flt ((7 : Nat) : Int),recovered:=false }]:=he;have k3:=d3.kept k2 hnF;obtain ⟨F3,s3⟩:=HS2.out.op d3;go_wp2_with fail;refine leaves_cons (f:=38) (args:=#[.pointer (some ⟨ws.heap.size + 1,0,none⟩)]) (by simp) (by simp [go_sem]) ?_;refine (caught_panic (ws.heap.size + 1) 7 [] (.int .i64 0) _ (k3.cell 0) (k3.free 0)).mono ?_;rintro e u' w'' ⟨rfl,rfl,rfl⟩;have k8:=k3.alloc (.cells #[.int .i64 7] 113);have c9 : World.cell? _ _ = some (.int .i64 7):=(k8.set_ 0 (.int .i64 7)).cell 0;have s9:=(s3.below ((Below.refl _ _).alloc (Nat.le_refl _) (.cells #[.int .i64 7] 113))).fail hbw hlt hf k8 (by omega) hsz 0 (.int .i64 7);refine ⟨.int .i64 7,by simp [results,Tryz.results18,go_sem,c9],?_⟩;rw [HD.out];exact ⟨rfl,s9⟩
  have hd : keepD size S (xs.map (·.e)) x.e = (0,{ S with b:=S.b ++ frm (told3 x.e) },xs.map (·.e) ++ [x.e]):=by unfold keepD;rw [if_neg (by rw [HR.out.1];decide),if_neg (by rw [← HR.out.2];decide),if_pos hroom]
  have HD:=Lib.hid hd;rw [if_pos hroom] at hwr;have HWR:=Lib.hid hwr;clear hd hwr hroom hle;go_wp2_with fail;refine (must_ok _ _).mono ?_;rintro e w3 ⟨rfl,rfl⟩;go_wp2_with fail;refine HWR.out.mono ?_;rintro e w3 ⟨he,d3⟩;obtain rfl : e = .returned (.tuple #[]):=he;have k3:=d3.kept k2 hnF;have kE3:=d3.kept kE2 hnFe
  have hbw3 : Only (fun k=>F k∨k = b) ws w3:=by
    obtain ⟨F3,s3⟩:=HS2.out.op d3;exact (Only.of_below _ hbw).trans s3.sw.only (Grows.refl _ _)
  obtain ⟨F3,s3⟩:=HS2.out.op d3;have HS3:=Lib.hid s3;have c4 : w3.cell? ⟨b,4,none⟩ = some (.slice A n c):=s3.sw.blk.cell 4;have kS3:=s3.sw.blk
  have hnEA : ¬ A.map (·.block) = some ws.heap.size:=fun e=>Nat.lt_irrefl _ (HAL.out _ e)
  have hnkA : ¬ A.map (·.block) = some (ws.heap.size + 1):=own_ne s3.ev.row.2 k3 (by decide);have hnbA : ¬ A.map (·.block) = some b:=own_ne s3.ev.row.2 kS3 (by decide);have hbase : base≤w3.heap.size:=Nat.le_trans hB hbw3.size
  have HOW:=Lib.hid fun (w : World) (hb : Below w3.heap.size w3 w)=>(by
    have:=own_any x w (HXO.out w (hbw3.then_below (hb.mono hbw3.size))) HXM.out
    rw [← HCS.out] at this
    exact this : Calls Tryz.prog 54 #[.agg cs] w fun e w'=>∃ z : EvV,e = .returned (.agg z.cs)∧z.e = x.e∧EvOwn w' w.heap.size z∧Below w.heap.size w w')
  clear d3 k2 kE2 HWR HO2 HS2 s3
  go_upto_region 7 with fail
  refine wp_region_tailF 12 9 (fun L v w=>v 3 = .pointer (some ⟨ws.heap.size,0,none⟩)∧v 0 = .pointer (some ⟨b,0,none⟩)∧Only (fun k=>A.map (·.block) = some k) w3 w∧(L 8 = false→Below w3.heap.size w3 w)∧(L 0 = true→v 22 = .pointer (some ⟨b,0,none⟩))∧(L 1 = true→v 23 = .pointer (some ⟨b,0,none⟩))∧(L 2 = true→v 24 = .pointer (some ⟨b,0,none⟩))∧(L 3 = true→v 25 = .pointer (some ⟨b,4,none⟩))∧(L 4 = true→v 26 = .slice A n c)∧(L 5 = true→v 27 = .agg cs)∧(L 6 = true→(L 8 = false→∃ z : EvV,v 28 = .agg z.cs∧z.e = x.e∧EvOwn w w3.heap.size z))∧(L 7 = true→(L 8 = false→∃ (z : EvV) (gB : Nat),v 29 = .slice (some ⟨gB,0,none⟩) 1 1∧z.e = x.e∧EvOwn w w3.heap.size z∧Blk w gB 47 z.cs))∧(L 8 = true→KpRow w3 w base A n xs x.e (v 30))) [22,23,24,25,26,27,28,29,30] (by kernel_rfl) (by kernel_rfl) (by kernel_rfl) (by kernel_rfl) (by kernel_rfl) (by kernel_rfl) ?h0 ?hst ?hend
  case h0 =>
    intro L h0;have h0 : ∀ i,i < 9→L i = false:=h0;exact ⟨rfl,rfl,(Only.of_below _ (Below.refl _ _).drew),(fun _=>(Below.refl _ _).drew),offF h0 (i:=0) (by decide),offF h0 (i:=1) (by decide),offF h0 (i:=2) (by decide),offF h0 (i:=3) (by decide),offF h0 (i:=4) (by decide),offF h0 (i:=5) (by decide),offF h0 (i:=6) (by decide),offF h0 (i:=7) (by decide),offF h0 (i:=8) (by decide)⟩
  case hst =>
    show FactSteps _ _ _ _ [0,1,2,3,4,5,6,7,8]
    refine @FactSteps.cons _ _ _ _ 0 _ [] _ rfl (by kernel_rfl) ?s0 ?_;rotate_left;refine @FactSteps.cons _ _ _ _ 1 _ [] _ rfl (by kernel_rfl) ?s1 ?_;rotate_left;refine @FactSteps.cons _ _ _ _ 2 _ [1] _ rfl (by kernel_rfl) ?s2 ?_;rotate_left;refine @FactSteps.cons _ _ _ _ 3 _ [2] _ rfl (by kernel_rfl) ?s3 ?_;rotate_left;refine @FactSteps.cons _ _ _ _ 4 _ [3] _ rfl (by kernel_rfl) ?s4 ?_;rotate_left;refine @FactSteps.cons _ _ _ _ 5 _ [] _ rfl (by kernel_rfl) ?s5 ?_;rotate_left;refine @FactSteps.cons _ _ _ _ 6 _ [5] _ rfl (by kernel_rfl) ?s6 ?_;rotate_left;refine @FactSteps.cons _ _ _ _ 7 _ [6] _ rfl (by kernel_rfl) ?s7 ?_;rotate_left;refine @FactSteps.cons _ _ _ _ 8 _ [4,7,6] _ rfl (by kernel_rfl) ?s8 ?_;rotate_left;exact FactSteps.nil
    case s0 =>
      rintro L a v w hv hg hL hd hcl ⟨e3,e0,ho,hb8,f0,f1,f2,f3,f4,f5,f6,f7,f8⟩ K hK;refine step_do rfl ?_;clear hv;go_simp;exact hK.out _ _ ⟨e3,e0,ho,hb8,fun _=>rfl,f1,f2,f3,f4,f5,f6,f7,f8⟩
    case s1 =>
      rintro L a v w hv hg hL hd hcl ⟨e3,e0,ho,hb8,f0,f1,f2,f3,f4,f5,f6,f7,f8⟩ K hK;refine step_do rfl ?_;clear hv;go_simp;exact hK.out _ _ ⟨e3,e0,ho,hb8,f0,fun _=>rfl,f2,f3,f4,f5,f6,f7,f8⟩
    case s2 =>
      rintro L a v w hv hg hL hd hcl ⟨e3,e0,ho,hb8,f0,f1,f2,f3,f4,f5,f6,f7,f8⟩ K hK;have g1:=f1 (hd 1 (by decide));have g1:=f1 (hd 1 (by decide));refine step_do rfl ?_;clear hv;go_simp;exact hK.out _ _ ⟨e3,e0,ho,hb8,f0,f1,fun _=>rfl,f3,f4,f5,f6,f7,f8⟩
    case s3 =>
      rintro L a v w hv hg hL hd hcl ⟨e3,e0,ho,hb8,f0,f1,f2,f3,f4,f5,f6,f7,f8⟩ K hK;have g2:=f2 (hd 2 (by decide));have g2:=f2 (hd 2 (by decide));refine step_do rfl ?_;clear hv;go_simp;exact hK.out _ _ ⟨e3,e0,ho,hb8,f0,f1,f2,fun _=>rfl,f4,f5,f6,f7,f8⟩
    case s4 =>
      rintro L a v w hv hg hL hd hcl ⟨e3,e0,ho,hb8,f0,f1,f2,f3,f4,f5,f6,f7,f8⟩ K hK;have g3:=f3 (hd 3 (by decide));have g3:=f3 (hd 3 (by decide));have cs4 : w.cell? ⟨b,4,none⟩ = some (.slice A n c):=(kS3.only ho hnbA).cell 4;refine step_do rfl ?_;clear hv;go_simp;exact hK.out _ _ ⟨e3,e0,ho,hb8,f0,f1,f2,f3,fun _=>rfl,f5,f6,f7,f8⟩
    case s5 =>
      rintro L a v w hv hg hL hd hcl ⟨e3,e0,ho,hb8,f0,f1,f2,f3,f4,f5,f6,f7,f8⟩ K hK;refine step_do rfl ?_;refine wp_ld rowE (.tmp 3) rfl ((hv 3).trans e3) (kE3.only ho hnEA) SZ.out ?_;exact hK.out _ _ ⟨e3,e0,ho,hb8,f0,f1,f2,f3,f4,fun _=>rfl,f6,f7,f8⟩
    case s6 =>
      rintro L a v w hv hg hL hd hcl ⟨e3,e0,ho,hb8,f0,f1,f2,f3,f4,f5,f6,f7,f8⟩ K hK;have g5:=f5 (hd 5 (by decide));have c8 : L 8 = false:=off_of hcl (j:=8) (by kernel_rfl : waitsAt _ 8 = [4,7,6]) (d:=6) (by decide) hL;have how:=HOW.out w (hb8 c8);refine step_do rfl ?_;clear hv;go_simp;refine how.mono ?_;rintro e wy ⟨z,rfl,hz,oz,bb⟩;exact hK.out _ _ ⟨e3,e0,(ho.then_below (bb.mono ho.size)),(fun _=>(hb8 c8).trans (bb.mono (hb8 c8).size)),f0,f1,f2,f3,f4,f5,fun _ _=>⟨z,rfl,hz,oz.1,oz.2.1.mono (hb8 c8).size,oz.2.2⟩,(fun h h8=>(by obtain ⟨z,gB,e,hz,o,k⟩:=f7 h h8;exact ⟨z,gB,e,hz,⟨o.1,o.2.1.below bb (Nat.le_refl _),o.2.2⟩,k.below bb k.lt⟩)),(offC c8)⟩
    case s7 =>
      rintro L a v w hv hg hL hd hcl ⟨e3,e0,ho,hb8,f0,f1,f2,f3,f4,f5,f6,f7,f8⟩ K hK;have c8 : L 8 = false:=off_of hcl (j:=8) (by kernel_rfl : waitsAt _ 8 = [4,7,6]) (d:=7) (by decide) hL;obtain ⟨z,q6,hz,oz⟩:=f6 (hd 6 (by decide)) c8;have q6:=(hv 28).trans q6;have bb : Below w.heap.size w (w.alloc (.cells z.cs 47)):=(Below.refl _ _).alloc (Nat.le_refl _) _;refine step_do rfl ?_;refine step_bs (v:=.slice (some ⟨w.heap.size,0,none⟩) 1 1) (w':=w.alloc (.cells z.cs 47)) 48 1 #[(0,.tmp 28)] rfl (by simp only [List.map_toArray,List.map_cons,List.map_nil,q6];exact buildE1 z w) ?_;exact hK.out _ _ ⟨e3,e0,(ho.then_below (bb.mono ho.size)),(fun _=>(hb8 c8).trans (bb.mono (hb8 c8).size)),f0,f1,f2,f3,f4,f5,(fun h h8=>(by obtain ⟨z,e,hz,o⟩:=f6 h h8;exact ⟨z,e,hz,o.1,o.2.1.below bb (Nat.le_refl _),o.2.2⟩)),fun _ _=>⟨z,w.heap.size,rfl,hz,⟨oz.1,oz.2.1.below bb (Nat.le_refl _),oz.2.2⟩,Blk.new w _ _⟩,(offC c8)⟩
    case s8 =>
      rintro L a v w hv hg hL hd hcl ⟨e3,e0,ho,hb8,f0,f1,f2,f3,f4,f5,f6,f7,f8⟩ K hK;have g4:=f4 (hd 4 (by decide));obtain ⟨z,gB,q7,hz,oz,kB⟩:=f7 (hd 7 (by decide)) hL;have hbx:=hb8 hL;have evx:=HS3.out.ev.below hbx;refine step_do rfl ?_;refine step_appE (.tmp 26) (.tmp 29) rfl ((hv 26).trans g4) evx.row ((hv 29).trans q7) (news:=[z]) (B:=gB + 1) (by rw [show ecsL [z] = z.cs.toList by simp [ecsL]];exact Blk.rdMg kB) rfl (by omega) (Nat.le_trans hbase hbx.size) ?_;intro A9 c9 w9 o9 g9 m9 b9
      have kp : KpRow w3 w9 base A n xs x.e (.slice A9 (n + 1) c9):=⟨A9,c9,z,rfl,o9,hz,fun y hy=>(by
          rcases List.mem_append.1 hy with q | q
          · exact ⟨(evx.own y q).1,(evx.own y q).2.1.grown g9 (own2_ne (evx.own y q).2.1.2 evx.row.2 (by decide)),(evx.own y q).2.2⟩
          · rw [List.mem_singleton.1 q];exact ⟨oz.1,(oz.2.1.mono hbase).grown g9 (own2_ne oz.2.1.2 evx.row.2 (by decide)),oz.2.2⟩),(by
          rcases m9 with q | q
          · exact .inl q
          · exact .inr (fun k hk=>by rw [q] at hk;injection hk with hk;rw [← hk];exact hbx.size)),fun k hk=>(oz.2.1.lt k hk).1⟩
      exact hK.out _ _ ⟨e3,e0,(ho.trans (only_row g9) (Grows.refl _ _)),(fun h=>(by cases h)),f0,f1,f2,f3,f4,f5,(fun _ h=>(by cases h)),(fun _ h=>(by cases h)),fun _=>kp⟩
  case hend =>
  rintro L v we hall ⟨e3,e0,ho,hb8,f0,f1,f2,f3,f4,f5,f6,f7,f8⟩;have hL : ∀ i,i < 9→L i = true:=hall;have f0:=f0 (hL 0 (by decide));have f1:=f1 (hL 1 (by decide));have f2:=f2 (hL 2 (by decide));have f3:=f3 (hL 3 (by decide));have f4:=f4 (hL 4 (by decide));have f5:=f5 (hL 5 (by decide));have f6:=f6 (hL 6 (by decide));have f7:=f7 (hL 7 (by decide));have f8:=f8 (hL 8 (by decide));obtain ⟨A9,c9,z,q8,o9,hz,hown,hmv,hzb⟩:=f8
  simp only [finA,List.foldl_cons,List.foldl_nil,Act.put,List.setIfInBounds_toArray,List.set_cons_succ,List.set_cons_zero,f0,f1,f2,f3,f4,f5,q8]
  have kS:=kS3.only ho hnbA;have ke:=k3.only ho hnkA;have HO:=Lib.hid ho;clear e3 e0 f0 f1 f2 f3 f4 f5 f6 f7 hL hall ho hb8 q8
  show wpList _ _ _ [_,_,_] _ _
  have c4e : we.cell? ⟨b,4,none⟩ = some (.slice A n c):=kS.cell 4;have u4e:=kS.free 4;have hlb:=kS.lt
  have hEb : ws.heap.size + 1 ≠ b:=by omega
  have k10:=kS.set_ 4 (.slice A9 (n + 1) c9);have ke10:=ke.far (p:=⟨b,4,none⟩) hEb (.slice A9 (n + 1) c9);have c0e : World.cell? _ ⟨ws.heap.size + 1,0,none⟩ = some (.int .i64 0):=ke10.cell 0;have u0e:=ke10.free 0;have ce0 : we.cell? ⟨ws.heap.size + 1,0,none⟩ = some (.int .i64 0):=ke.cell 0;have ue0:=ke.free 0;have hle0:=ke.lt
  have hnF3e : ¬ F3 (ws.heap.size + 1):=fun q=>by
    rcases HS3.out.sw.grows _ q with y | y
    · exact hnF y
    · omega
  have hfin : EOp ws F b g size base A { S with b:=S.b ++ frm (told3 x.e) } (xs.map (·.e) ++ [x.e]) ((we.setCell ⟨b,4,none⟩ (.slice A9 (n + 1) c9)).setCell ⟨ws.heap.size + 1,0,none⟩ (.int .i64 0)):=by
    have s3:=HS3.out;have hl3:=s3.ev.lt;have hd3 : Keeps F3 w3 we:=HO.out.keeps (fun k hk q=>(s3.ev.nf k q).1 hk) s3.sw.disk.lt
    have hev : EvsAt we F3 b base A9 (n + 1) c9 (xs ++ [z]):=⟨o9,hown,fun k hk=>by
      rcases hmv with q | q
      · exact s3.ev.nf k (by rw [← q];exact hk)
      · have h9:=q k hk
        exact ⟨fun y=>by have:=s3.sw.disk.lt k y;omega,by have:=kS3.lt;omega⟩,fun y hy k hk=>by
      rcases List.mem_append.1 hy with q | q
      · exact s3.ev.nfx y q k hk
      · rw [List.mem_singleton.1 q] at hk
        have h9:=hzb k hk
        exact ⟨fun y=>by have:=s3.sw.disk.lt k y;omega,by have:=kS3.lt;omega⟩⟩
    have hbF : ∀ k,F3 k→k ≠ b:=fun k hk e=>s3.sw.nb (by rw [← e];exact hk)
    refine ⟨F3,A9,n + 1,c9,xs ++ [z],⟨((s3.sw.disk.keep hd3).keep ⟨by simp [World.setCell],fun k hk=>Below.heap_setCell we _ _ k (hbF k hk)⟩).keep ⟨by simp [World.setCell],fun k hk=>Below.heap_setCell _ _ _ k (fun e=>hnF3e (by have e : k = ws.heap.size + 1:=e;rw [← e];exact hk))⟩,k10.far (p:=⟨ws.heap.size + 1,0,none⟩) (fun e=>hEb e.symm) _,s3.sw.nb⟩,(hev.setT kS (by decide) (by decide) 4 _).setT ke10 (by decide) (by decide) 0 _,by rw [List.map_append,List.map_cons,List.map_nil,hz],?_,fun k hk=>(s3.sw.grows k hk).imp id fun q=>by have:=hbw.size;omega⟩;refine Only.setCell (Only.setCell ?_ (.inl (.inr (.inl rfl))) _) (.inr (by show ws.heap.size≤ws.heap.size + 1;omega)) _;exact (hbw3.mono (G:=fun k=>F k∨k = b∨A.map (·.block) = some k) fun k hk=>.inl (by rcases hk with q | q;exact .inl q;exact .inr (.inl q))).trans (HO.out.mono (G:=fun k=>F k∨k = b∨A.map (·.block) = some k) fun k hk=>.inl (.inr (.inr hk))) (Grows.refl _ _)
  have HFIN:=Lib.hid hfin;have HKE:=Lib.hid ke10;clear hfin k10 ke10 o9 hz hown hmv hzb HOW c4 hnF3e kS ke;go_wp2_with fail;have c9 : World.cell? _ _ = some (.int .i64 0):=(HKE.out.set_ 0 (.int .i64 0)).cell 0;refine leaves_cons (f:=38) (args:=#[.pointer (some ⟨ws.heap.size + 1,0,none⟩)]) (by simp) (by simp [go_sem]) ?_;refine (caught_none _ _).mono ?_;rintro e u' w'' ⟨rfl,rfl,rfl⟩;refine ⟨.int .i64 0,by simp [results,Tryz.results18,go_sem,c9],?_⟩;rw [HD.out];exact ⟨rfl,HFIN.out⟩
end Sto
end Go.Proofs.YtfpenfgmpbdakaaGreat

namespace Go.Proofs.YtfpenfgmpbdakaaGreat
set_option linter.unusedVariables false
set_option linter.unusedSimpArgs false
set_option maxRecDepth 100000
open Go.RowKit
open Dot Evt
open Disk
namespace Sto
open _root_.Go.Proofs.YtfpenfgmpbdakaaGreat.Log (writeM LogEnd lwrite_any rewriteM lrewrite_any)
open _root_.Go.Proofs.YtfpenfgmpbdakaaGreat.Frame (frm frms frms_nil frms_cons frms_snoc frms_append frm_length frm_pos Parts AllF)
def goodTo (l : List Ev) (k : Nat) : Prop:=∀ i x,i < k→l[i]? = some x→rightE x = true∧hasE (l.take i) x.d = false
def recsC (S : Sd) (l : List Ev) : List (List UInt8):=told 1 S.upto :: told 2 S.inc :: l.map told3
open Classical in
noncomputable def compactD (size : Nat) (S : Sd) (evs l : List Ev) : Nat × Sd × List Ev :=
  if goodTo l l.length then (if (frms (recsC S l)).length≤size then (0,{ S with b:=frms (recsC S l) },l) else (7,S,evs)) else (2,S,evs)
theorem rowTake {w : World} {B : Nat} {A : Option Addr} {n : Nat} {xs : List EvV} (h : RowEv w B A n xs) {k : Nat} (hk : k≤n) : RowEv w B A k (xs.take k):=⟨by rw [List.length_take,← h.1];omega,fun i x hi=>by
  rw [List.getElem?_take] at hi
  split at hi
  · exact h.2 i x hi
  · cases hi⟩
theorem goodTo.succ {l : List Ev} {k : Nat} (h : goodTo l k) {x : Ev} (hx : l[k]? = some x) (h1 : rightE x = true) (h2 : hasE (l.take k) x.d = false) : goodTo l (k + 1):=fun i y hi hy=>by
  by_cases e : i = k
  · subst e
    rw [hx] at hy
    injection hy with hy
    rw [← hy];exact ⟨h1,h2⟩
  · exact h i y (by omega) hy
theorem compact_bad {size : Nat} {S : Sd} {evs l : List Ev} {k : Nat} {x : Ev} (hx : l[k]? = some x) (h : rightE x = false∨hasE (l.take k) x.d = true) : compactD size S evs l = (2,S,evs):=by
  unfold compactD
  rw [if_neg];intro hg;have h9:=hg k x (List.getElem?_eq_some_iff.1 hx).1 hx
  rcases h with h | h
  · rw [h] at h9;cases h9.1
  · rw [h] at h9;cases h9.2
theorem Bods.two {w : World} {base g : Nat} {e1 e2 : Sl} {x1 x2 : List UInt8} (hk : Blk w g 22 #[sv e1,sv e2]) (hg : base≤g) (h1 : OwnB w base e1.1 e1.2.1 e1.2.2 x1) (h2 : OwnB w base e2.1 e2.2.1 e2.2.2 x2) : Bods w base (some ⟨g,0,none⟩) 2 2 [x1,x2] :=
  ⟨[e1,e2],rfl,rfl,⟨rfl,.inr ⟨g,2,_,rfl,hg,hk,Nat.le_refl _,by unfold maxLen;omega,rfl,rfl⟩⟩,fun j e x q1 q2=>by
    match j,q1,q2 with
    | 0,q1,q2=>injection q1 with q1;injection q2 with q2;rw [← q1,← q2];exact h1
    | 1,q1,q2=>injection q1 with q1;injection q2 with q2;rw [← q1,← q2];exact h2
    | j + 2,q1,q2=>simp at q1⟩
theorem build2B (e1 e2 : Sl) (w : World) : (Instr.buildSlice 89 2 #[(0,sv e1),(1,sv e2)]).run Tryz.prog w = .ok (.slice (some ⟨w.heap.size,0,none⟩) 2 2) (w.alloc (.cells #[sv e1,sv e2] 22)):=by
  obtain ⟨A,n,c⟩:=e1;obtain ⟨A',n',c'⟩:=e2
  unfold sv
  kernel_rfl
set_option maxHeartbeats 8000000 in
theorem compact_any (S : Sd) (F : Nat→Prop) (b g size base : Nat) (A : Option Addr) (n c : Nat) (xs : List EvV) (A2 : Option Addr) (n2 c2 : Nat) (l2 : List EvV) (ws : World) (h : StoAt ws F b g size S (.slice A n c)) (he : EvsAt ws F b base A n c xs)
    (hx : ∀ w',Only (fun k=>F k∨k = b) ws w'→RowEv w' w'.heap.size A2 n2 l2) (hm : ∀ y ∈ l2,y.m≤100000) (hn2 : n2≤100000) (hnc : n2≤c2) (hcm : c2≤maxLen) (hB : base≤ws.heap.size) (hs0 : size≤16384) (hl : S.b.length≤16384) (hu : S.upto≤96) (hi : S.inc≤1099511627776) :
    Calls Tryz.prog 21 #[.pointer (some ⟨b,0,none⟩),.slice A2 n2 c2] ws (KeepEnd ws F b g size base A (compactD size S (xs.map (·.e)) (l2.map (·.e)))):=by
  have hlt : b < ws.heap.size:=h.2.1.lt;have hf : ∀ k,F k→k < ws.heap.size:=h.1.lt;obtain ⟨w0,hw0⟩ : ∃ w0,w0 = ws.alloc (.cells #[.int .i64 0] 27):=⟨_,rfl⟩
  have hbw : Below ws.heap.size ws w0:=by rw [hw0];exact (Below.refl _ _).alloc (Nat.le_refl _) _
  have k0 : Blk w0 ws.heap.size 27 #[.int .i64 0]:=by rw [hw0];exact Blk.new ws _ _
  have s0:=SE.start (h.below hbw) (he.below hbw)
  have hnF : ¬ F ws.heap.size:=fun q=>by have:=hf _ q;omega
  have HXO:=Lib.hid hx;have HM:=Lib.hid hm;have hsz : ws.heap.size < w0.heap.size:=k0.lt;have HN2:=Lib.hid (hx ws (Only.refl _ _)).1;have c2' : w0.cell? ⟨b,2,none⟩ = some (.int .i64 (S.upto : Nat)):=s0.sw.blk.cell 2;have c3' : w0.cell? ⟨b,3,none⟩ = some (.int .i64 (S.inc : Nat)):=s0.sw.blk.cell 3;have hlb:=s0.sw.blk.lt
  have HU:=Lib.hid fun (w : World)=>told_lit 1 1 (S.upto : Nat) S.upto rfl rfl (by omega) w
  have HI:=Lib.hid fun (w : World)=>told_lit 2 2 (S.inc : Nat) S.inc rfl rfl hi w
  clear h he hx hm
  go_enter_defers Tryz.func21,Tryz.ntmps21
  go_upto_region 4 with fail
  rw [← hw0];clear hw0;refine wp_region_tailF 9 11 (fun L v w=>v 0 = .pointer (some ⟨b,0,none⟩)∧Below w0.heap.size w0 w∧(L 0 = true→v 11 = .pointer (some ⟨b,0,none⟩))∧(L 1 = true→v 12 = .pointer (some ⟨b,0,none⟩))∧(L 2 = true→v 13 = .pointer (some ⟨b,2,none⟩))∧(L 3 = true→v 14 = .int .i64 (S.upto : Nat))∧(L 4 = true→(∃ A1 n1 c1,v 15 = sv (A1,n1,c1)∧OwnB w w0.heap.size A1 n1 c1 (told 1 S.upto)))∧(L 5 = true→v 16 = .pointer (some ⟨b,0,none⟩))∧(L 6 = true→v 17 = .pointer (some ⟨b,0,none⟩))∧(L 7 = true→v 18 = .pointer (some ⟨b,3,none⟩))∧(L 8 = true→v 19 = .int .i64 (S.inc : Nat))∧(L 9 = true→(∃ A1 n1 c1,v 20 = sv (A1,n1,c1)∧OwnB w w0.heap.size A1 n1 c1 (told 2 S.inc)))∧(L 10 = true→(∃ gB : Nat,v 21 = .slice (some ⟨gB,0,none⟩) 2 2∧Bods w w0.heap.size (some ⟨gB,0,none⟩) 2 2 [told 1 S.upto,told 2 S.inc]))) [11,12,13,14,15,16,17,18,19,20,21] (by kernel_rfl) (by kernel_rfl) (by kernel_rfl) (by kernel_rfl) (by kernel_rfl) (by kernel_rfl) ?h0 ?hst ?hend
  case h0 =>
    intro L h0;have h0 : ∀ i,i < 11→L i = false:=h0;exact ⟨rfl,(Below.refl _ _).drew,offF h0 (i:=0) (by decide),offF h0 (i:=1) (by decide),offF h0 (i:=2) (by decide),offF h0 (i:=3) (by decide),offF h0 (i:=4) (by decide),offF h0 (i:=5) (by decide),offF h0 (i:=6) (by decide),offF h0 (i:=7) (by decide),offF h0 (i:=8) (by decide),offF h0 (i:=9) (by decide),offF h0 (i:=10) (by decide)⟩
  case hst =>
    show FactSteps _ _ _ _ [0,1,2,3,4,5,6,7,8,9,10]
    refine @FactSteps.cons _ _ _ _ 0 _ [] _ rfl (by kernel_rfl) ?s0 ?_;rotate_left;refine @FactSteps.cons _ _ _ _ 1 _ [0] _ rfl (by kernel_rfl) ?s1 ?_;rotate_left;refine @FactSteps.cons _ _ _ _ 2 _ [1] _ rfl (by kernel_rfl) ?s2 ?_;rotate_left;refine @FactSteps.cons _ _ _ _ 3 _ [2] _ rfl (by kernel_rfl) ?s3 ?_;rotate_left;refine @FactSteps.cons _ _ _ _ 4 _ [3] _ rfl (by kernel_rfl) ?s4 ?_;rotate_left;refine @FactSteps.cons _ _ _ _ 5 _ [] _ rfl (by kernel_rfl) ?s5 ?_;rotate_left;refine @FactSteps.cons _ _ _ _ 6 _ [5] _ rfl (by kernel_rfl) ?s6 ?_;rotate_left;refine @FactSteps.cons _ _ _ _ 7 _ [6] _ rfl (by kernel_rfl) ?s7 ?_;rotate_left;refine @FactSteps.cons _ _ _ _ 8 _ [7] _ rfl (by kernel_rfl) ?s8 ?_;rotate_left;refine @FactSteps.cons _ _ _ _ 9 _ [8,4] _ rfl (by kernel_rfl) ?s9 ?_;rotate_left;refine @FactSteps.cons _ _ _ _ 10 _ [4,9] _ rfl (by kernel_rfl) ?s10 ?_;rotate_left;exact FactSteps.nil
    case s0 =>
      rintro L a v w hv hg hL hd hcl ⟨e0,hb,f0,f1,f2,f3,f4,f5,f6,f7,f8,f9,f10⟩ K hK;refine step_do rfl ?_;clear hv;go_simp;exact hK.out _ _ ⟨e0,hb,fun _=>rfl,f1,f2,f3,f4,f5,f6,f7,f8,f9,f10⟩
    case s1 =>
      rintro L a v w hv hg hL hd hcl ⟨e0,hb,f0,f1,f2,f3,f4,f5,f6,f7,f8,f9,f10⟩ K hK;have g0:=f0 (hd 0 (by decide));have g0:=f0 (hd 0 (by decide));refine step_do rfl ?_;clear hv;go_simp;exact hK.out _ _ ⟨e0,hb,f0,fun _=>rfl,f2,f3,f4,f5,f6,f7,f8,f9,f10⟩
    case s2 =>
      rintro L a v w hv hg hL hd hcl ⟨e0,hb,f0,f1,f2,f3,f4,f5,f6,f7,f8,f9,f10⟩ K hK;have g1:=f1 (hd 1 (by decide));have g1:=f1 (hd 1 (by decide));refine step_do rfl ?_;clear hv;go_simp;exact hK.out _ _ ⟨e0,hb,f0,f1,fun _=>rfl,f3,f4,f5,f6,f7,f8,f9,f10⟩
    case s3 =>
      rintro L a v w hv hg hL hd hcl ⟨e0,hb,f0,f1,f2,f3,f4,f5,f6,f7,f8,f9,f10⟩ K hK;have g2:=f2 (hd 2 (by decide));have g2:=f2 (hd 2 (by decide));have cs4 : w.cell? ⟨b,2,none⟩ = some (.int .i64 (S.upto : Nat)):=(hb.cell (p:=⟨b,2,none⟩) hlb).trans c2';refine step_do rfl ?_;clear hv;go_simp;exact hK.out _ _ ⟨e0,hb,f0,f1,f2,fun _=>rfl,f4,f5,f6,f7,f8,f9,f10⟩
    case s4 =>
      rintro L a v w hv hg hL hd hcl ⟨e0,hb,f0,f1,f2,f3,f4,f5,f6,f7,f8,f9,f10⟩ K hK;have g3:=f3 (hd 3 (by decide));have hh:=HU.out w;refine step_do rfl ?_;clear hv;go_simp;refine hh.mono ?_;rintro e wy ⟨A1,n1,c1,rfl,o1,bb⟩;exact hK.out _ _ ⟨e0,(hb.trans (bb.mono hb.size)),f0,f1,f2,f3,fun _=>⟨A1,n1,c1,rfl,o1.mono hb.size⟩,f5,f6,f7,f8,(fun h=>(by obtain ⟨A1,n1,c1,e,o⟩:=f9 h;exact ⟨A1,n1,c1,e,o.below bb (Nat.le_refl _)⟩)),(fun h=>(by obtain ⟨gB,e,o⟩:=f10 h;exact ⟨gB,e,o.below bb (Nat.le_refl _)⟩))⟩
    case s5 =>
      rintro L a v w hv hg hL hd hcl ⟨e0,hb,f0,f1,f2,f3,f4,f5,f6,f7,f8,f9,f10⟩ K hK;refine step_do rfl ?_;clear hv;go_simp;exact hK.out _ _ ⟨e0,hb,f0,f1,f2,f3,f4,fun _=>rfl,f6,f7,f8,f9,f10⟩
    case s6 =>
      rintro L a v w hv hg hL hd hcl ⟨e0,hb,f0,f1,f2,f3,f4,f5,f6,f7,f8,f9,f10⟩ K hK;have g5:=f5 (hd 5 (by decide));have g5:=f5 (hd 5 (by decide));refine step_do rfl ?_;clear hv;go_simp;exact hK.out _ _ ⟨e0,hb,f0,f1,f2,f3,f4,f5,fun _=>rfl,f7,f8,f9,f10⟩
    case s7 =>
      rintro L a v w hv hg hL hd hcl ⟨e0,hb,f0,f1,f2,f3,f4,f5,f6,f7,f8,f9,f10⟩ K hK;have g6:=f6 (hd 6 (by decide));have g6:=f6 (hd 6 (by decide));refine step_do rfl ?_;clear hv;go_simp;exact hK.out _ _ ⟨e0,hb,f0,f1,f2,f3,f4,f5,f6,fun _=>rfl,f8,f9,f10⟩
    case s8 =>
      rintro L a v w hv hg hL hd hcl ⟨e0,hb,f0,f1,f2,f3,f4,f5,f6,f7,f8,f9,f10⟩ K hK;have g7:=f7 (hd 7 (by decide));have g7:=f7 (hd 7 (by decide));have cs4 : w.cell? ⟨b,3,none⟩ = some (.int .i64 (S.inc : Nat)):=(hb.cell (p:=⟨b,3,none⟩) hlb).trans c3';refine step_do rfl ?_;clear hv;go_simp;exact hK.out _ _ ⟨e0,hb,f0,f1,f2,f3,f4,f5,f6,f7,fun _=>rfl,f9,f10⟩
    case s9 =>
      rintro L a v w hv hg hL hd hcl ⟨e0,hb,f0,f1,f2,f3,f4,f5,f6,f7,f8,f9,f10⟩ K hK;have g8:=f8 (hd 8 (by decide));have hh:=HI.out w;refine step_do rfl ?_;clear hv;go_simp;refine hh.mono ?_;rintro e wy ⟨A1,n1,c1,rfl,o1,bb⟩;exact hK.out _ _ ⟨e0,(hb.trans (bb.mono hb.size)),f0,f1,f2,f3,(fun h=>(by obtain ⟨A1,n1,c1,e,o⟩:=f4 h;exact ⟨A1,n1,c1,e,o.below bb (Nat.le_refl _)⟩)),f5,f6,f7,f8,fun _=>⟨A1,n1,c1,rfl,o1.mono hb.size⟩,(fun h=>(by obtain ⟨gB,e,o⟩:=f10 h;exact ⟨gB,e,o.below bb (Nat.le_refl _)⟩))⟩
    case s10 =>
      rintro L a v w hv hg hL hd hcl ⟨e0,hb,f0,f1,f2,f3,f4,f5,f6,f7,f8,f9,f10⟩ K hK;obtain ⟨A1,n1,c1,q4,o1⟩:=f4 (hd 4 (by decide));obtain ⟨A2',n2',c2'',q9,o2⟩:=f9 (hd 9 (by decide));have q4:=(hv 15).trans q4;have q9:=(hv 20).trans q9;have bb : Below w.heap.size w (w.alloc (.cells #[sv (A1,n1,c1),sv (A2',n2',c2'')] 22)):=(Below.refl _ _).alloc (Nat.le_refl _) _;refine step_do rfl ?_;refine step_bs (v:=.slice (some ⟨w.heap.size,0,none⟩) 2 2) (w':=w.alloc (.cells #[sv (A1,n1,c1),sv (A2',n2',c2'')] 22)) 89 2 #[(0,.tmp 15),(1,.tmp 20)] rfl (by simp only [List.map_toArray,List.map_cons,List.map_nil,q4,q9];exact build2B _ _ w) ?_;exact hK.out _ _ ⟨e0,(hb.trans (bb.mono hb.size)),f0,f1,f2,f3,(fun h=>(by obtain ⟨A1,n1,c1,e,o⟩:=f4 h;exact ⟨A1,n1,c1,e,o.below bb (Nat.le_refl _)⟩)),f5,f6,f7,f8,(fun h=>(by obtain ⟨A1,n1,c1,e,o⟩:=f9 h;exact ⟨A1,n1,c1,e,o.below bb (Nat.le_refl _)⟩)),fun _=>⟨w.heap.size,rfl,Bods.two (Blk.new w _ _) hb.size (o1.below bb (Nat.le_refl _)) (o2.below bb (Nat.le_refl _))⟩⟩
  case hend =>
  rintro L v w1 hall ⟨e0,hb,f0,f1,f2,f3,f4,f5,f6,f7,f8,f9,f10⟩;have hL : ∀ i,i < 11→L i = true:=hall;have f0:=f0 (hL 0 (by decide));have f1:=f1 (hL 1 (by decide));have f2:=f2 (hL 2 (by decide));have f3:=f3 (hL 3 (by decide));have f4:=f4 (hL 4 (by decide));have f5:=f5 (hL 5 (by decide));have f6:=f6 (hL 6 (by decide));have f7:=f7 (hL 7 (by decide));have f8:=f8 (hL 8 (by decide));have f9:=f9 (hL 9 (by decide));have f10:=f10 (hL 10 (by decide));obtain ⟨A1x,n1x,c1x,q4,_⟩:=f4;obtain ⟨A2x,n2x,c2x,q9,_⟩:=f9;obtain ⟨gB,q10,ob⟩:=f10
  simp only [finA,List.foldl_cons,List.foldl_nil,Act.put,List.setIfInBounds_toArray,List.set_cons_succ,List.set_cons_zero,f0,f1,f2,f3,f5,f6,f7,f8,q4,q9,q10]
  have HB1:=Lib.hid hb;clear e0 f0 f1 f2 f3 f5 f6 f7 f8 hL hall hb q4 q9 q10
  show wpList _ _ _ [_] _ _
  have HS0:=Lib.hid s0;have HOB:=Lib.hid ob;clear ob s0 c2' c3' hlb HU HI
  unfold sv
  go_wp2_with fail
  go_loopw [5,6,24] (fun s _ i wr=>∃ (k : Nat) (A' : Option Addr) (c' : Nat),k≤n2∧i = .int .i64 (k : Nat)∧s = .slice A' (2 + k) c'∧Bods wr w0.heap.size A' (2 + k) c' (recsC S ((l2.map (·.e)).take k))∧goodTo (l2.map (·.e)) k∧Below w0.heap.size w0 wr) (fun _ _ i _=>n2 - (intOf i).toNat)
  case atStart=>exact ⟨0,_,_,by omega,rfl,rfl,HOB.out,fun i x hi=>by omega,HB1.out⟩
  case round =>
  obtain ⟨k,A',c',hk,rfl,rfl,hob,hgd,bw⟩:=hrel;have HOBk:=Lib.hid hob;have HGD:=Lib.hid hgd;have sr:=HS0.out.below bw;have kr:=k0.below bw k0.lt;have hwr : Below ws.heap.size ws wr:=hbw.trans (bw.mono hbw.size);have HSR:=Lib.hid sr;have HBW:=Lib.hid bw;clear hob hgd sr
  by_cases hlt2 : k < n2
  · have hkl : k < l2.length:=by rw [← HN2.out];exact hlt2
    obtain ⟨hok,ad,hA,hab,hcs⟩:=(HXO.out wr (Only.of_below _ hwr)).2 k _ (List.getElem?_eq_getElem hkl);have hmk:=HM.out _ (List.getElem_mem hkl)
    have e1 : (l2.map (·.e))[k]? = some l2[k].e:=by rw [List.getElem?_map,List.getElem?_eq_getElem hkl];rfl
    have htk : (l2.map (·.e)).take (k + 1) = (l2.map (·.e)).take k ++ [l2[k].e]:=by rw [← List.map_take,take_snoc l2 hkl,List.map_append,List.map_take];rfl
    generalize l2[k] = x at *
    subst hA;obtain ⟨cs,hcx⟩ : ∃ cs,cs = x.cs:=⟨_,rfl⟩;rw [← hcx] at hcs;have SZ:=Lib.hid (show cs.size = 14 by rw [hcx];rfl);have OZ:=Lib.hid (show cs.all (·.oneCell') = true by rw [hcx];exact x.one);have X0:=Lib.hid (show cs[0]? = some (.int .i64 x.e.d.1) by rw [hcx];rfl);have X1:=Lib.hid (show cs[1]? = some (.int .i64 x.e.d.2) by rw [hcx];rfl);have HCS:=Lib.hid hcs;have HCX:=Lib.hid hcx;have HOK:=Lib.hid hok;have HE1:=Lib.hid (And.intro e1 htk);have HMK:=Lib.hid hmk
    have hk0 : (0 : Int)≤(k : Int):=by omega
    have hkm : (k : Int) < (n2 : Int):=by omega
    clear hok hcs hcx e1 htk hmk bw
    go_upto_region 8 with first
      | ((with_reducible refine wpList_lda rowE HCS.out SZ.out ?_ ?_);rotate_left;(rfl))
      | ((with_reducible refine wpList_st rowE (Blk.new _ _ _) SZ.out ?_ OZ.out ?_ ?_ ?_);(rfl);rotate_left;(rfl);(rfl);intro w6 k6 g6 z6)
    have bA : Below wr.heap.size wr w6:=new_below g6;obtain ⟨gr,hgr⟩ : ∃ gr,gr = wr.heap.size:=⟨_,rfl⟩;rw [← hgr] at k6 ⊢;have b06:=HBW.out.trans (bA.mono HBW.out.size);have HB6:=Lib.hid b06;have HD6:=Lib.hid (ev_dot k6 X0.out X1.out);have hl6:=k6.lt;have h06 : Below ws.heap.size ws w6:=hwr.trans (bA.mono hwr.size);obtain ⟨R,hR⟩ : ∃ R,R = hasE ((l2.map (·.e)).take k) x.e.d:=⟨_,rfl⟩;have HR:=Lib.hid hR
    have HHAS:=Lib.hid fun (w : World) (hb : Below w6.heap.size w6 w)=>(by
      have hrow:=HXO.out w (Only.of_below _ (h06.trans (hb.mono h06.size)))
      have:=shas_any (some ad) k c2 (l2.take k) x.e.d.1 x.e.d.2 w (rowTake hrow (by omega)) (by omega)
      rw [List.map_take,show ((x.e.d.1,x.e.d.2) : Dt) = x.e.d from rfl,← HR.out] at this
      exact this : Calls Tryz.prog 53 #[.slice (some ad) k c2,.agg #[.int .i64 x.e.d.1,.int .i64 x.e.d.2]] w fun e w''=>e = .returned (.bool R)∧Below w.heap.size w w'')
    have H06:=Lib.hid h06
    unfold maxLen at hcm
    have HBA:=Lib.hid bA;clear hR g6 z6 hgr bA b06 h06 HSR HCS kr;refine wp_region_tailF 9 7 (fun L v w=>v 1 = .slice (some ad) n2 c2∧v 6 = .int .i64 (k : Nat)∧v 7 = .pointer (some ⟨gr,0,none⟩)∧Below w6.heap.size w6 w∧(L 0 = true→v 29 = .slice (some ad) n2 c2)∧(L 1 = true→v 30 = .int .i64 (k : Nat))∧(L 2 = true→v 31 = .slice (some ad) k c2)∧(L 3 = true→v 32 = .pointer (some ⟨gr,0,none⟩))∧(L 4 = true→v 33 = .agg #[.int .i64 x.e.d.1,.int .i64 x.e.d.2])∧(L 5 = true→v 34 = .bool R)∧(L 6 = true→v 35 = .bool (!R))) [29,30,31,32,33,34,35] (by kernel_rfl) (by kernel_rfl) (by kernel_rfl) (by kernel_rfl) (by kernel_rfl) (by kernel_rfl) ?h0 ?hst ?hend
    case h0 =>
      intro L h0;have h0 : ∀ i,i < 7→L i = false:=h0;exact ⟨rfl,rfl,rfl,(Below.refl _ _).drew,offF h0 (i:=0) (by decide),offF h0 (i:=1) (by decide),offF h0 (i:=2) (by decide),offF h0 (i:=3) (by decide),offF h0 (i:=4) (by decide),offF h0 (i:=5) (by decide),offF h0 (i:=6) (by decide)⟩
    case hst =>
      show FactSteps _ _ _ _ [0,1,2,3,4,5,6]
      refine @FactSteps.cons _ _ _ _ 0 _ [] _ rfl (by kernel_rfl) ?s0 ?_;rotate_left;refine @FactSteps.cons _ _ _ _ 1 _ [] _ rfl (by kernel_rfl) ?s1 ?_;rotate_left;refine @FactSteps.cons _ _ _ _ 2 _ [0,1] _ rfl (by kernel_rfl) ?s2 ?_;rotate_left;refine @FactSteps.cons _ _ _ _ 3 _ [] _ rfl (by kernel_rfl) ?s3 ?_;rotate_left;refine @FactSteps.cons _ _ _ _ 4 _ [3] _ rfl (by kernel_rfl) ?s4 ?_;rotate_left;refine @FactSteps.cons _ _ _ _ 5 _ [2,4] _ rfl (by kernel_rfl) ?s5 ?_;rotate_left;refine @FactSteps.cons _ _ _ _ 6 _ [5] _ rfl (by kernel_rfl) ?s6 ?_;rotate_left;exact FactSteps.nil
      case s0 =>
        rintro L a v w hv hg hL hd hcl ⟨e1,e6,e7,hb,f0,f1,f2,f3,f4,f5,f6⟩ K hK;refine step_do rfl ?_;clear hv;go_simp;exact hK.out _ _ ⟨e1,e6,e7,hb,fun _=>rfl,f1,f2,f3,f4,f5,f6⟩
      case s1 =>
        rintro L a v w hv hg hL hd hcl ⟨e1,e6,e7,hb,f0,f1,f2,f3,f4,f5,f6⟩ K hK;refine step_do rfl ?_;clear hv;go_simp;exact hK.out _ _ ⟨e1,e6,e7,hb,f0,fun _=>rfl,f2,f3,f4,f5,f6⟩
      case s2 =>
        rintro L a v w hv hg hL hd hcl ⟨e1,e6,e7,hb,f0,f1,f2,f3,f4,f5,f6⟩ K hK;have g0:=f0 (hd 0 (by decide));have g1:=f1 (hd 1 (by decide));have g0:=f0 (hd 0 (by decide));have g1:=f1 (hd 1 (by decide))
        have p0 : (0 : Int)≤(k : Int):=by omega
        have p3 : (k : Int)≤(c2 : Int):=by omega
        have p4 : k≤c2:=by omega
        refine step_do rfl ?_;clear hv;go_simp;exact hK.out _ _ ⟨e1,e6,e7,hb,f0,f1,fun _=>rfl,f3,f4,f5,f6⟩
      case s3 =>
        rintro L a v w hv hg hL hd hcl ⟨e1,e6,e7,hb,f0,f1,f2,f3,f4,f5,f6⟩ K hK;refine step_do rfl ?_;clear hv;go_simp;exact hK.out _ _ ⟨e1,e6,e7,hb,f0,f1,f2,fun _=>rfl,f4,f5,f6⟩
      case s4 =>
        rintro L a v w hv hg hL hd hcl ⟨e1,e6,e7,hb,f0,f1,f2,f3,f4,f5,f6⟩ K hK;have g3:=f3 (hd 3 (by decide));refine step_do rfl ?_;refine wp_ldr rowDt2 (.tmp 32) rfl ((hv 32).trans g3) (range_keep HD6.out hb hl6) rfl ?_;exact hK.out _ _ ⟨e1,e6,e7,hb,f0,f1,f2,f3,fun _=>rfl,f5,f6⟩
      case s5 =>
        rintro L a v w hv hg hL hd hcl ⟨e1,e6,e7,hb,f0,f1,f2,f3,f4,f5,f6⟩ K hK;have g2:=f2 (hd 2 (by decide));have g4:=f4 (hd 4 (by decide));have hh:=HHAS.out w hb;refine step_do rfl ?_;clear hv;go_simp;refine hh.mono ?_;rintro e wy ⟨rfl,bb⟩;exact hK.out _ _ ⟨e1,e6,e7,(hb.trans (bb.mono hb.size)),f0,f1,f2,f3,f4,fun _=>rfl,f6⟩
      case s6 =>
        rintro L a v w hv hg hL hd hcl ⟨e1,e6,e7,hb,f0,f1,f2,f3,f4,f5,f6⟩ K hK;refine step_do rfl ?_;clear hv;go_simp;exact hK.out _ _ ⟨e1,e6,e7,hb,f0,f1,f2,f3,f4,f5,fun _=>rfl⟩
    case hend =>
    rintro L v w7 hall ⟨e1,e6,e7,hb,f0,f1,f2,f3,f4,f5,f6⟩;have hL : ∀ i,i < 7→L i = true:=hall;have f0:=f0 (hL 0 (by decide));have f1:=f1 (hL 1 (by decide));have f2:=f2 (hL 2 (by decide));have f3:=f3 (hL 3 (by decide));have f4:=f4 (hL 4 (by decide));have f5:=f5 (hL 5 (by decide));have f6:=f6 (hL 6 (by decide))
    simp only [finA,List.foldl_cons,List.foldl_nil,Act.put,List.setIfInBounds_toArray,List.set_cons_succ,List.set_cons_zero,f0,f1,f2,f3,f6,f4,f5]
    have b7:=HB6.out.trans (hb.mono HB6.out.size);have h07 : Below ws.heap.size ws w7:=H06.out.trans (hb.mono H06.out.size);have k7:=k6.below hb k6.lt;have hr7:=HBA.out.trans (hb.mono HBA.out.size);clear e1 e6 e7 f0 f1 f2 f3 f4 f5 f6 hL hall hb
    show wpList _ _ _ [_] _ _
    have HB7:=Lib.hid b7;have H07:=Lib.hid h07;have HS7:=Lib.hid (HS0.out.below b7);have kr7:=k0.below b7 k0.lt;clear HHAS HD6 hl6 b7 h07 k6 HB6 H06;have HOK7:=Lib.hid ((HOK.out.below hr7).more hr7.size);have HOB7:=Lib.hid (HOBk.out.below hr7 (Nat.le_refl _));clear hr7 HBA HOK HOBk
    cases R
    case true =>
      have HD:=Lib.hid (compact_bad (size:=size) (S:=S) (evs:=xs.map (·.e)) HE1.out.1 (.inr HR.out.symm));go_wp2_with fail;refine (must_bad _ _).mono ?_;rintro e w3 ⟨rfl,rfl⟩;go_wp2_with fail;refine leaves_cons (f:=38) (args:=#[.pointer (some ⟨ws.heap.size,0,none⟩)]) (by simp) (by simp [go_sem]) ?_;refine (caught_panic ws.heap.size 2 [] (.int .i64 0) _ (kr7.cell 0) (kr7.free 0)).mono ?_;rintro e u' w'' ⟨rfl,rfl,rfl⟩;have k8:=kr7.alloc (.cells #[.int .i64 2] 113);have c9 : World.cell? _ _ = some (.int .i64 2):=(k8.set_ 0 (.int .i64 2)).cell 0;have s9:=(HS7.out.below ((Below.refl _ _).alloc (Nat.le_refl _) (.cells #[.int .i64 2] 113))).fail hbw hlt hf k8 (by omega) hsz 0 (.int .i64 2);refine ⟨.int .i64 2,by simp [results,Tryz.results21,go_sem,c9],?_⟩;rw [HD.out];exact ⟨rfl,s9⟩
    cases hrt : rightE x.e
    case false =>
      have HD:=Lib.hid (compact_bad (size:=size) (S:=S) (evs:=xs.map (·.e)) HE1.out.1 (.inl hrt));have HT:=Lib.hid (by have:=told3_bad x w7 HOK7.out hrt;rw [← HCX.out] at this;exact this);clear hrt;go_wp2_with fail;refine (must_ok _ _).mono ?_;rintro e w3 ⟨rfl,rfl⟩
      go_wp2_with ((with_reducible refine wpList_ld rowE k7 SZ.out ?_ ?_);rotate_left;(rfl))
      refine HT.out.mono ?_;rintro e w8 ⟨rfl,b8⟩;have k9:=kr7.below b8 kr7.lt;have s8:=HS7.out.below b8;go_wp2_with fail;refine leaves_cons (f:=38) (args:=#[.pointer (some ⟨ws.heap.size,0,none⟩)]) (by simp) (by simp [go_sem]) ?_;refine (caught_panic ws.heap.size 2 [] (.int .i64 0) _ (k9.cell 0) (k9.free 0)).mono ?_;rintro e u' w'' ⟨rfl,rfl,rfl⟩;have k8:=k9.alloc (.cells #[.int .i64 2] 113);have c9 : World.cell? _ _ = some (.int .i64 2):=(k8.set_ 0 (.int .i64 2)).cell 0;have s9:=(s8.below ((Below.refl _ _).alloc (Nat.le_refl _) (.cells #[.int .i64 2] 113))).fail hbw hlt hf k8 (by omega) hsz 0 (.int .i64 2);refine ⟨.int .i64 2,by simp [results,Tryz.results21,go_sem,c9],?_⟩;rw [HD.out];exact ⟨rfl,s9⟩
    have HRT:=Lib.hid hrt;have HT:=Lib.hid (by have:=told3_any x w7 HOK7.out hrt;rw [← HCX.out] at this;exact this);clear hrt;go_wp2_with fail;refine (must_ok _ _).mono ?_;rintro e w3 ⟨rfl,rfl⟩
    go_wp2_with ((with_reducible refine wpList_ld rowE k7 SZ.out ?_ ?_);rotate_left;(rfl))
    refine HT.out.mono ?_;rintro e w8 ⟨A3,n3,c3,rfl,o3,b8⟩;have bal : Below w8.heap.size w8 (w8.alloc (.cells #[.slice A3 n3 c3] 22)):=(Below.refl _ _).alloc (Nat.le_refl _) _;have h7s : w0.heap.size≤w7.heap.size:=HB7.out.size;have HOB8:=Lib.hid ((HOB7.out.below b8 (Nat.le_refl _)).below bal (Nat.le_refl _));have HO3:=Lib.hid ((o3.mono h7s).below bal (Nat.le_refl _));have HRD:=Lib.hid (Rd.made w8 #[.slice A3 n3 c3] 22 (0,0));have hb8:=(HB7.out.trans (b8.mono h7s)).trans (bal.mono (Nat.le_trans h7s b8.size));have HB8:=Lib.hid hb8;have h8s:=b8.size;clear o3 b8 bal hb8 HOB7 k7 kr7
    go_wp2_with (at_builtin;refine wpList_appS rfl (.tmp 37) (.tmp 40) rfl rfl HOB8.out rfl (e:=(A3,n3,c3)) HRD.out HO3.out ?hd2 ?hd3 ?_)
    case hd2=>omega
    case hd3=>simp;omega
    intro A9 c9 w9 ob9 b9;have HOB9:=Lib.hid ob9;have HB9:=Lib.hid (HB8.out.trans b9);clear ob9 b9 HOB8 HO3 HRD;go_wp2_with fail
    go_roundw
    case rel=>exact ⟨k + 1,A9,c9,by omega,by go_num,rfl,by
      have h:=HOB9.out;rw [show recsC S ((l2.map (·.e)).take (k + 1)) = recsC S ((l2.map (·.e)).take k) ++ [told3 x.e] by rw [HE1.out.2];unfold recsC;rw [List.map_append];rfl]
      exact h,HGD.out.succ HE1.out.1 HRT.out HR.out.symm,HB9.out⟩
    case measure=>simp [intOf];omega
  obtain rfl : k = n2:=by omega
  have hkk : ¬ (k : Int) < (k : Int):=by omega
  have hfull : (l2.map (·.e)).take k = l2.map (·.e):=List.take_of_length_le (by rw [List.length_map,← HN2.out];omega)
  have hgd : goodTo (l2.map (·.e)) (l2.map (·.e)).length:=by rw [List.length_map,← HN2.out];exact HGD.out
  have hob:=HOBk.out;rw [hfull] at hob
  have h4096 : (recsC S (l2.map (·.e))).all (·.length≤4096) = true:=by
    rw [List.all_eq_true];intro y hy
    unfold recsC at hy
    rcases List.mem_cons.1 hy with rfl | hy
    · have:=told_len 1 S.upto;exact decide_eq_true (by omega)
    · rcases List.mem_cons.1 hy with rfl | hy
      · have:=told_len 2 S.inc;exact decide_eq_true (by omega)
      · obtain ⟨e,he,rfl⟩:=List.mem_map.1 hy
        obtain ⟨z,hz,rfl⟩:=List.mem_map.1 he;obtain ⟨i,hi,rfl⟩:=List.getElem_of_mem hz;have hp:=((HXO.out ws (Only.refl _ _)).2 i _ (List.getElem?_eq_getElem hi)).1.1;have hr:=(hgd i l2[i].e (by rw [List.length_map];exact hi) (by rw [List.getElem?_map,List.getElem?_eq_getElem hi];rfl)).1
        have:=told3_len hp hr
        exact decide_eq_true (by omega)
  have hrw:=lrewrite_any A' (2 + k) c' wr.heap.size _ F g size S.b [] wr HSR.out.sw.disk (by simp [mass];omega) (by simp) hs0 hob.rd (Nat.le_refl _) (by omega)
  have hrm : rewriteM size S.b [] (recsC S (l2.map (·.e))) = if (frms (recsC S (l2.map (·.e)))).length≤size then (0,frms (recsC S (l2.map (·.e))),[]) else (7,S.b,[]):=by unfold rewriteM;rw [if_pos h4096]
  rw [hrm] at hrw;have c0d : wr.cell? ⟨b,0,none⟩ = some (.pointer (some ⟨g,0,none⟩)):=HSR.out.sw.blk.cell 0
  have hcd : compactD size S (xs.map (·.e)) (l2.map (·.e)) = if (frms (recsC S (l2.map (·.e)))).length≤size then (0,{ S with b:=frms (recsC S (l2.map (·.e))) },l2.map (·.e)) else (7,S,xs.map (·.e)):=by unfold compactD;rw [if_pos hgd]
  have kS0:=HSR.out.sw.blk
  by_cases hroom : (frms (recsC S (l2.map (·.e)))).length≤size
  case neg =>
    rw [if_neg hroom] at hrw hcd;have HD:=Lib.hid hcd;have HRW:=Lib.hid hrw;clear hrw hcd hrm hroom hob hgd h4096 hfull kS0;go_wp2_with fail;refine HRW.out.mono ?_;rintro e w4 ⟨hee,d4⟩;obtain rfl : e = .returned (.int .i64 ((7 : Nat) : Int)):=hee;have k4:=d4.kept kr hnF;obtain ⟨F4,s4⟩:=HSR.out.op d4;clear d4;go_wp2_with fail;refine (must_no (by first | with_reducible rfl | assumption | (simp;done) | (simp;omega)) _ _).mono ?_;rintro e w5 ⟨rfl,rfl⟩;go_wp2_with fail;refine leaves_cons (f:=38) (args:=#[.pointer (some ⟨ws.heap.size,0,none⟩)]) (by simp) (by simp [go_sem]) ?_;refine (caught_panic ws.heap.size 7 [] (.int .i64 0) _ (k4.cell 0) (k4.free 0)).mono ?_;rintro e u' w'' ⟨rfl,rfl,rfl⟩;have k8:=k4.alloc (.cells #[.int .i64 7] 113);have c9 : World.cell? _ _ = some (.int .i64 7):=(k8.set_ 0 (.int .i64 7)).cell 0;have s9:=(s4.below ((Below.refl _ _).alloc (Nat.le_refl _) (.cells #[.int .i64 7] 113))).fail hbw hlt hf k8 (by omega) hsz 0 (.int .i64 7);refine ⟨.int .i64 7,by simp [results,Tryz.results21,go_sem,c9],?_⟩;rw [HD.out];exact ⟨rfl,s9⟩
  rw [if_pos hroom] at hrw hcd;have HD:=Lib.hid hcd;have HRW:=Lib.hid hrw;clear hrw hcd hrm hroom hob hgd h4096 hfull kS0;go_wp2_with fail;refine HRW.out.mono ?_;rintro e w4 ⟨hee,d4⟩;obtain rfl : e = .returned (.int .i64 ((0 : Nat) : Int)):=hee;have k4:=d4.kept kr hnF;obtain ⟨F4,s4⟩:=HSR.out.op d4;have hbw4 : Only (fun k=>F k∨k = b) ws w4:=(Only.of_below _ hbw).trans s4.sw.only (Grows.refl _ _);have HS4:=Lib.hid s4;have HOW:=Lib.hid (owns_any A2 k c2 l2 w4 hn2 (HXO.out w4 hbw4) HM.out);have hbase : base≤w4.heap.size:=Nat.le_trans hB hbw4.size;clear d4 s4 HRW;go_wp2_with fail;refine (must_yes (by first | with_reducible rfl | assumption | (simp;done) | (simp;omega)) _ _).mono ?_;rintro e w5 ⟨rfl,rfl⟩;go_wp2_with fail;refine HOW.out.mono ?_;rintro e w5 ⟨Ac,cc,ys,rfl,oc,oy,hye,b5⟩;have s5:=HS4.out.below b5;have kS:=s5.sw.blk;have ke:=k4.below b5 k4.lt;have c4e : w5.cell? ⟨b,4,none⟩ = some (.slice A n c):=kS.cell 4;have u4e:=kS.free 4;have hlb:=kS.lt
  have hEb : ws.heap.size ≠ b:=by omega
  have k10:=kS.set_ 4 (.slice Ac k cc);have ke10:=ke.far (p:=⟨b,4,none⟩) hEb (.slice Ac k cc);have c0e : World.cell? _ ⟨ws.heap.size,0,none⟩ = some (.int .i64 0):=ke10.cell 0;have u0e:=ke10.free 0;have ce0 : w5.cell? ⟨ws.heap.size,0,none⟩ = some (.int .i64 0):=ke.cell 0;have ue0:=ke.free 0;have hle0:=ke.lt
  have hnF4e : ¬ F4 ws.heap.size:=fun q=>by
    rcases HS4.out.sw.grows _ q with y | y
    · exact hnF y
    · omega
  have hfin : EOp ws F b g size base A { S with b:=frms (recsC S (l2.map (·.e))) } (l2.map (·.e)) ((w5.setCell ⟨b,4,none⟩ (.slice Ac k cc)).setCell ⟨ws.heap.size,0,none⟩ (.int .i64 0)):=by
    have s4:=HS4.out
    have hev : EvsAt w5 F4 b base Ac k cc ys:=⟨oc.mono hbase,fun y hy=>⟨(oy y hy).1,(oy y hy).2.1.mono hbase,(oy y hy).2.2⟩,fun q hq=>by
      have h9:=(oc.lt q hq).1
      exact ⟨fun y=>by have:=s4.sw.disk.lt q y;omega,by have:=s4.sw.blk.lt;omega⟩,fun y hy q hq=>by
      have h9:=((oy y hy).2.1.lt q hq).1
      exact ⟨fun y=>by have:=s4.sw.disk.lt q y;omega,by have:=s4.sw.blk.lt;omega⟩⟩
    have hbF : ∀ q,F4 q→q ≠ b:=fun q hq e=>s4.sw.nb (by rw [← e];exact hq)
    refine ⟨F4,Ac,k,cc,ys,⟨(s5.sw.disk.keep ⟨by simp [World.setCell],fun q hq=>Below.heap_setCell w5 _ _ q (hbF q hq)⟩).keep ⟨by simp [World.setCell],fun q hq=>Below.heap_setCell _ _ _ q (fun e=>hnF4e (by have e : q = ws.heap.size:=e;rw [← e];exact hq))⟩,k10.far (p:=⟨ws.heap.size,0,none⟩) (fun e=>hEb e.symm) _,s4.sw.nb⟩,(hev.setT kS (by decide) (by decide) 4 _).setT ke10 (by decide) (by decide) 0 _,hye,?_,fun q hq=>(s4.sw.grows q hq).imp id fun y=>by have:=hbw.size;omega⟩;refine Only.setCell (Only.setCell ?_ (.inl (.inr (.inl rfl))) _) (.inr (Nat.le_refl _)) _;exact (hbw4.mono (G:=fun k=>F k∨k = b∨A.map (·.block) = some k) fun k hk=>.inl (by rcases hk with q | q;exact .inl q;exact .inr (.inl q))).then_below (b5.mono hbw4.size)
  have HFIN:=Lib.hid hfin;have HKE:=Lib.hid ke10;clear hfin k10 ke10 oc oy hye b5 s5 hnF4e kS ke HOW;go_wp2_with fail;have c9 : World.cell? _ _ = some (.int .i64 0):=(HKE.out.set_ 0 (.int .i64 0)).cell 0;refine leaves_cons (f:=38) (args:=#[.pointer (some ⟨ws.heap.size,0,none⟩)]) (by simp) (by simp [go_sem]) ?_;refine (caught_none _ _).mono ?_;rintro e u' w'' ⟨rfl,rfl,rfl⟩;refine ⟨.int .i64 0,by simp [results,Tryz.results21,go_sem,c9],?_⟩;rw [HD.out];exact ⟨rfl,HFIN.out⟩
end Sto
end Go.Proofs.YtfpenfgmpbdakaaGreat

namespace Go.Proofs.YtfpenfgmpbdakaaGreat
set_option linter.unusedVariables false
set_option linter.unusedSimpArgs false
set_option maxRecDepth 100000
open Go.ChangeShapes Go.WideShapes Go.ChangeAt Go.RowKit Go.Deep
def Sz {H : Type} (t : TypeId) (d : DataW H) : Prop:=∀ n ∈ d.weights Tryz.prog t,n≤reachBytes
theorem sz_arg {H : Type} {ts : List TypeId} {ds : List (DataW H)} (h : (DataW.weightsEach Tryz.prog ts ds).all (·≤reachBytes) = true) {j : Nat} {t : TypeId} {d : DataW H} (ht : ts[j]? = some t) (hd : ds[j]? = some d) : Sz t d:=fun n hn=>by
  have:=List.all_eq_true.1 h n (DataW.weights_mem_each ht hd n hn)
  simpa using this
theorem weightsAll_mem {H : Type} {P : Program} {e : TypeId} {l : List (DataW H)} {d : DataW H} (hd : d ∈ l) : ∀ n ∈ d.weights P e,n ∈ DataW.weightsAll P e l:=by
  induction l with
  | nil=>cases hd
  | cons a r ih =>
    intro n hn
    simp only [DataW.weightsAll,List.mem_append]
    rcases List.mem_cons.1 hd with h | h
    · subst h;exact .inl hn
    · exact .inr (ih h n hn)
section
variable {H : Type} {enc : TypeId × Value→H} {W : World} {base : Nat} {sp : Nat→Bool} {held : Bool} {fuel : Nat} {cs : List Value} {x : DataW H × List MemPlace}
theorem rdz_field {t : TypeId} {fs : Array Field} (ht : (Tryz.prog).underlying t = some (.struct fs)) (hf : DataW.trod enc Tryz.prog W base sp held fuel t cs = some x) (hs : Sz t x.1) (j T o m : Nat)
    (hj : (fs[j]?).map (fun f=>(f.type,f.offset)) = some (T,o)) (hm : (Tryz.prog).cellsOf T = m) : ∃ n y,DataW.trod enc Tryz.prog W base sp held n T ((cs.drop o).take m) = some y∧Sz T y.1:=by
  obtain ⟨xs,n,_,hx,_,hxl,hg⟩:=DataW.trod_struct ht hf;obtain ⟨f,hf1,hf2⟩:=Option.map_eq_some_iff.1 hj
  injection hf2 with h1 h2
  have hjl : j < xs.length:=by
    rw [hxl];exact (Array.getElem?_eq_some_iff.1 hf1).1
  have h:=hg j f hf1;rw [h1,h2,hm,List.getElem?_eq_getElem hjl] at h;refine ⟨n,_,h,fun k hk=>hs k ?_⟩;rw [hx]
  simp only [DataW.weights,ht]
  refine DataW.weights_mem_each (j:=j) (t:=T) (d:=xs[j].1) ?_ ?_ k hk
  · rw [List.getElem?_map,Array.getElem?_toList,hf1];simp [h1]
  · rw [List.getElem?_map,List.getElem?_eq_getElem hjl];rfl
theorem rdz_slice {t e : TypeId} {m : Nat} (ht : (Tryz.prog).underlying t = some (.slice e)) (hm : (Tryz.prog).cellsOf e = m) (hf : DataW.trod enc Tryz.prog W base sp held fuel t cs = some x) (hs : Sz t x.1) :
    ∃ (a : Option Addr) (n cap : Nat),cs = [.slice a n cap]∧n≤cap∧cap≤maxLen∧n * (Tryz.prog).bytesOf e≤reachBytes∧∀ i,i < n→∃ (ad : Addr) (cs' : List Value) (fuel' : Nat) (x' : DataW H × List MemPlace),a = some ad∧cs'.length = m∧(∀ j,j < m→W.cell? ((ad.add (i * m)).add j) = cs'[j]?)∧DataW.trod enc Tryz.prog W base sp held fuel' e cs' = some x'∧Sz e x'.1:=by
  rcases open_slice ht hf with ⟨h0,_⟩ | ⟨a,len,cap,k,n,D,Pl,hcs,hb,hl,hc,hk,hx,hi⟩
  · exact ⟨none,0,0,h0,Nat.le_refl _,Nat.zero_le _,by simp,fun i h=>absurd h (Nat.not_lt_zero _)⟩
  · refine ⟨some a,len,cap,hcs,hl,hc,?_,fun i h=>?_⟩
    · have:=hs ((len + (k - len)) * (Tryz.prog).bytesOf e) (by rw [hx];simp [DataW.weights,ht])
      refine Nat.le_trans (Nat.mul_le_mul_right _ ?_) this
      omega
    · have hik : i < k:=by rw [hk];split <;> omega
      obtain ⟨cs',hc',ht'⟩:=hi i hik;rw [hm] at hc';obtain ⟨_,hcl,hat⟩:=World.cells?_some hc';refine ⟨a,cs',n,_,rfl,hcl,fun j hj=>hat j hj,ht',fun q hq=>hs q ?_⟩;rw [hx]
      simp only [DataW.weights,ht]
      refine List.mem_cons_of_mem _ (List.mem_append_left _ (weightsAll_mem (List.mem_map.2 ⟨i,by simpa using h,rfl⟩) q hq))
theorem bytesOf8 : (Tryz.prog).bytesOf 5 = 1:=by kernel_rfl
theorem rdz_bytes (hf : DataW.trod enc Tryz.prog W base sp held fuel 22 cs = some x) (hs : Sz 22 x.1) :
    ∃ (a : Option Addr) (n cap : Nat) (bs : List UInt8),cs = [.slice a n cap]∧RdB W W.heap.size a n bs∧n≤cap∧cap≤maxLen∧n≤reachBytes:=by
  obtain ⟨a,n,c,bs,h1,h2,h3,h4⟩:=rd_bytes hf;obtain ⟨a',n',c',k1,k2,k3,k4,_⟩:=rdz_slice Tryz.underlying22 (m:=1) (by kernel_rfl) hf hs;rw [h1] at k1
  injection k1 with k1 _
  injection k1 with _ k1 _
  rw [bytesOf8,Nat.mul_one] at k4;exact ⟨a,n,c,bs,h1,h2,h3,h4,by omega⟩
end
end Go.Proofs.YtfpenfgmpbdakaaGreat

namespace Go.Proofs.YtfpenfgmpbdakaaGreat
set_option linter.unusedVariables false
set_option linter.unusedSimpArgs false
open Go.ChangeShapes Go.WideShapes Go.ChangeAt Go.RowKit Go.Deep
open Dot
set_option maxRecDepth 100000
theorem cellsIq : (Tryz.prog).cellsOf 3 = 1:=by kernel_rfl
theorem cellsD : (Tryz.prog).cellsOf 42 = 2:=by kernel_rfl
theorem cellsDs : (Tryz.prog).cellsOf 45 = 1:=by kernel_rfl
section
variable {H : Type} {enc : TypeId × Value→H} {W : World} {base : Nat} {sp : Nat→Bool} {held : Bool} {fuel : Nat} {cs : List Value} {x : DataW H × List MemPlace}
theorem rd_dot (hf : DataW.trod enc Tryz.prog W base sp held fuel 42 cs = some x) : ∃ d : Dt,cs = [.int .i64 d.1,.int .i64 d.2]:=by
  have hl:=rd_len Tryz.underlying42 cellsD hf;obtain ⟨_,_,g0⟩:=rd_field Tryz.underlying42 hf 0 3 0 1 rfl cellsIq;obtain ⟨_,_,g1⟩:=rd_field Tryz.underlying42 hf 1 3 1 1 rfl cellsIq;obtain ⟨x0,e0,_⟩:=rd_int g0;obtain ⟨x1,e1,_⟩:=rd_int g1
  match cs,hl with
  | [a,b],_ =>
    simp at e0 e1
    exact ⟨(x0,x1),by rw [e0,e1]⟩
theorem rd_dots (hf : DataW.trod enc Tryz.prog W base sp held fuel 45 cs = some x) : ∃ (A : Option Addr) (n c : Nat) (l : List Dt),cs = [.slice A n c]∧RdD W W.heap.size A n l∧n≤maxLen:=by
  obtain ⟨a,n,c,hcs,hnc,hcm,hg⟩:=rd_slice Tryz.underlying45 cellsD hf
  have key : ∀ i,i < n→∃ (ad : Addr) (d : Dt),a = some ad∧DotAt W W.heap.size (ad.add (i * 2)) d:=fun i hi=>by
    obtain ⟨ad,cs',f',x',e,hl,hc,ht⟩:=hg i hi;obtain ⟨d,rfl⟩:=rd_dot ht;have h0:=hc 0 (by omega);have h1:=hc 1 (by omega);rw [add_add] at h0 h1;rw [Nat.add_zero] at h0;rw [add_next] at h1;exact ⟨ad,d,e,World.block_lt_of_cell? W _ h0,h0,h1⟩
  have hex : ∀ i,∃ d : Dt,i < n→∃ ad,a = some ad∧DotAt W W.heap.size (ad.add (i * 2)) d:=fun i=>by
    by_cases hi : i < n
    · obtain ⟨ad,d,h⟩:=key i hi
      exact ⟨d,fun _=>⟨ad,h⟩⟩
    · exact ⟨(0,0),fun h=>absurd h hi⟩
  refine ⟨a,n,c,(List.range n).map fun i=>(hex i).choose,hcs,⟨by simp,fun i d hi=>?_⟩,Nat.le_trans hnc hcm⟩
  have hi' : i < n:=by
    have:=(List.getElem?_eq_some_iff.1 hi).1
    simpa using this
  rw [List.getElem?_map,List.getElem?_range hi'] at hi
  injection hi with hi
  rw [← hi];exact (hex i).choose_spec hi'
end
end Go.Proofs.YtfpenfgmpbdakaaGreat

namespace Go.Proofs.YtfpenfgmpbdakaaGreat
set_option linter.unusedVariables false
set_option linter.unusedSimpArgs false
open Go.ChangeShapes Go.WideShapes Go.ChangeAt Go.RowKit Go.Deep
open Dot Evt
set_option maxRecDepth 100000
theorem cellsI' : (Tryz.prog).cellsOf 3 = 1:=by kernel_rfl
theorem cellsP : (Tryz.prog).cellsOf 44 = 7:=by kernel_rfl
theorem cellsE : (Tryz.prog).cellsOf 47 = 14:=by kernel_rfl
section
variable {H : Type} {enc : TypeId × Value→H} {W : World} {base : Nat} {sp : Nat→Bool} {held : Bool} {fuel : Nat} {cs : List Value} {x : DataW H × List MemPlace}
theorem rd_pol (hf : DataW.trod enc Tryz.prog W base sp held fuel 44 cs = some x) : ∃ p : List Int,p.length = 7∧cs = (pc p).toList:=by
  have hl:=rd_len Tryz.underlying44 cellsP hf;obtain ⟨_,_,g0⟩:=rd_field Tryz.underlying44 hf 0 3 0 1 rfl cellsI';obtain ⟨_,_,g1⟩:=rd_field Tryz.underlying44 hf 1 3 1 1 rfl cellsI';obtain ⟨_,_,g2⟩:=rd_field Tryz.underlying44 hf 2 3 2 1 rfl cellsI';obtain ⟨_,_,g3⟩:=rd_field Tryz.underlying44 hf 3 3 3 1 rfl cellsI';obtain ⟨_,_,g4⟩:=rd_field Tryz.underlying44 hf 4 3 4 1 rfl cellsI';obtain ⟨_,_,g5⟩:=rd_field Tryz.underlying44 hf 5 3 5 1 rfl cellsI';obtain ⟨_,_,g6⟩:=rd_field Tryz.underlying44 hf 6 3 6 1 rfl cellsI';obtain ⟨x0,e0,_⟩:=rd_int g0;obtain ⟨x1,e1,_⟩:=rd_int g1;obtain ⟨x2,e2,_⟩:=rd_int g2;obtain ⟨x3,e3,_⟩:=rd_int g3;obtain ⟨x4,e4,_⟩:=rd_int g4;obtain ⟨x5,e5,_⟩:=rd_int g5;obtain ⟨x6,e6,_⟩:=rd_int g6
  match cs,hl with
  | [a0,a1,a2,a3,a4,a5,a6],_ =>
    simp at e0 e1 e2 e3 e4 e5 e6
    exact ⟨[x0,x1,x2,x3,x4,x5,x6],rfl,by rw [e0,e1,e2,e3,e4,e5,e6];rfl⟩
theorem rd_ev (hf : DataW.trod enc Tryz.prog W base sp held fuel 47 cs = some x) : ∃ (e : Ev) (A : Option Addr) (n c : Nat),e.p.length = 7∧cs = (ec e (.slice A n c)).toList∧RdD W W.heap.size A n e.l∧n≤maxLen:=by
  have hl:=rd_len Tryz.underlying47 cellsE hf;obtain ⟨_,_,g0⟩:=rd_field Tryz.underlying47 hf 0 42 0 2 rfl cellsD;obtain ⟨_,_,g1⟩:=rd_field Tryz.underlying47 hf 1 3 2 1 rfl cellsI';obtain ⟨_,_,g2⟩:=rd_field Tryz.underlying47 hf 2 3 3 1 rfl cellsI';obtain ⟨_,_,g3⟩:=rd_field Tryz.underlying47 hf 3 3 4 1 rfl cellsI';obtain ⟨_,_,g4⟩:=rd_field Tryz.underlying47 hf 4 3 5 1 rfl cellsI';obtain ⟨_,_,g5⟩:=rd_field Tryz.underlying47 hf 5 44 6 7 rfl cellsP;obtain ⟨_,_,g6⟩:=rd_field Tryz.underlying47 hf 6 45 13 1 rfl cellsDs;obtain ⟨d,e0⟩:=rd_dot g0;obtain ⟨x1,e1,_⟩:=rd_int g1;obtain ⟨x2,e2,_⟩:=rd_int g2;obtain ⟨x3,e3,_⟩:=rd_int g3;obtain ⟨x4,e4,_⟩:=rd_int g4;obtain ⟨p,hp,e5⟩:=rd_pol g5;obtain ⟨A,n,c,l,e6,hr,hn⟩:=rd_dots g6;refine ⟨⟨d,x1,x2,x3,x4,p,l⟩,A,n,c,hp,?_,hr,hn⟩
  match cs,hl with
  | [a0,a1,a2,a3,a4,a5,a6,a7,a8,a9,a10,a11,a12,a13],_ =>
    simp [pc] at e0 e1 e2 e3 e4 e5 e6
    obtain ⟨rfl,rfl⟩:=e0;obtain ⟨rfl,rfl,rfl,rfl,rfl,rfl,rfl⟩:=e5;subst e1 e2 e3 e4 e6
    simp [ec]
end
section
variable {H : Type} {enc : TypeId × Value→H} {W : World} {base : Nat} {sp : Nat→Bool} {held : Bool} {r : Reach} {b0 : Nat} {v : Value} {d : DataW H} {p : List MemPlace}
end
end Go.Proofs.YtfpenfgmpbdakaaGreat

namespace Go.Proofs.YtfpenfgmpbdakaaGreat
set_option linter.unusedVariables false
set_option linter.unusedSimpArgs false
open Go.ChangeShapes Go.WideShapes Go.ChangeAt Go.RowKit Go.Deep
open Dot Evt
set_option maxRecDepth 100000
theorem bytesDt : (Tryz.prog).bytesOf 42 = 16:=by kernel_rfl
theorem bytesEv : (Tryz.prog).bytesOf 47 = 128:=by kernel_rfl
section
variable {H : Type} {enc : TypeId × Value→H} {W : World} {base : Nat} {sp : Nat→Bool} {held : Bool} {fuel : Nat} {cs : List Value} {x : DataW H × List MemPlace}
theorem rdz_ev (hf : DataW.trod enc Tryz.prog W base sp held fuel 47 cs = some x) (hs : Sz 47 x.1) : ∃ e : EvV,cs = e.cs.toList∧EvOk W W.heap.size e:=by
  obtain ⟨e,A,n,c,h1,h2,h3,_⟩:=rd_ev hf;obtain ⟨_,_,g6,z6⟩:=rdz_field Tryz.underlying47 hf hs 6 45 13 1 rfl cellsDs;obtain ⟨a3,l3,c3,e1,_,_,e4,_⟩:=rdz_slice Tryz.underlying45 cellsD g6 z6;rw [bytesDt] at e4;have hr : reachBytes = 140737488351232:=rfl;rw [h2] at e1;have e2 : ((ec e (.slice A n c)).toList.drop 13).take 1 = [.slice A n c]:=rfl;rw [e2] at e1
  injection e1 with e1 _
  injection e1 with _ e1 _
  exact ⟨⟨e,A,n,c⟩,h2,h1,h3,by show n≤_;omega⟩
theorem rdz_evs (hf : DataW.trod enc Tryz.prog W base sp held fuel 48 cs = some x) (hs : Sz 48 x.1) : ∃ (A : Option Addr) (n c : Nat) (xs : List EvV),cs = [.slice A n c]∧RowEv W W.heap.size A n xs∧n≤10000000000000:=by
  obtain ⟨a,n,c,h1,_,_,h3,h4⟩:=rdz_slice Tryz.underlying48 cellsE hf hs;rw [bytesEv] at h3;have hr : reachBytes = 140737488351232:=rfl
  have key : ∀ i,i < n→∃ e : EvV,EvOk W W.heap.size e∧∃ ad,a = some ad∧ad.block < W.heap.size∧∀ (j : Nat) v,e.cs[j]? = some v→W.cell? ((ad.add (i * 14)).add j) = some v:=fun i hi=>by
    obtain ⟨ad,cs',f',x',e1,hl,hc,ht,hz⟩:=h4 i hi;obtain ⟨e,h5,h6⟩:=rdz_ev ht hz
    have hlt : ad.block < W.heap.size:=by
      have e6:=hc 0 (by omega);rw [List.getElem?_eq_getElem (by omega)] at e6
      have:=World.block_lt_of_cell? W _ e6
      rwa [block_add,block_add] at this
    refine ⟨e,h6,ad,e1,hlt,fun j v hv=>?_⟩
    have hj : j < 14:=by
      have:=(Array.getElem?_eq_some_iff.1 hv).1
      rwa [e.size] at this
    rw [hc j hj,h5,Array.getElem?_toList,hv]
  have hex : ∀ i,∃ e : EvV,i < n→EvOk W W.heap.size e∧∃ ad,a = some ad∧ad.block < W.heap.size∧∀ (j : Nat) v,e.cs[j]? = some v→W.cell? ((ad.add (i * 14)).add j) = some v:=fun i=>by
    by_cases hi : i < n
    · obtain ⟨e,h⟩:=key i hi
      exact ⟨e,fun _=>h⟩
    · exact ⟨⟨exZ,none,0,0⟩,fun h=>absurd h hi⟩
  refine ⟨a,n,c,(List.range n).map fun i=>(hex i).choose,h1,⟨by simp,fun i d hi=>?_⟩,by omega⟩
  have hi' : i < n:=by
    have:=(List.getElem?_eq_some_iff.1 hi).1
    simpa using this
  rw [List.getElem?_map,List.getElem?_range hi'] at hi
  injection hi with hi
  rw [← hi];exact (hex i).choose_spec hi'
end
section
variable {H : Type} {enc : TypeId × Value→H} {W : World} {base : Nat} {sp : Nat→Bool} {held : Bool} {r : Reach} {b0 : Nat} {v : Value} {d : DataW H} {p : List MemPlace}
end
end Go.Proofs.YtfpenfgmpbdakaaGreat

namespace Go.Proofs.YtfpenfgmpbdakaaGreat
set_option linter.unusedVariables false
set_option linter.unusedSimpArgs false
open Go.ChangeShapes Go.WideShapes Go.ChangeAt Go.RowKit Go.Deep
open Dot Evt
set_option maxRecDepth 100000
namespace Sto
def oc (k n : Int) (x : Ev) (s1 s2 s3 : Value) : Array Value:=#[.int .i64 k,.int .i64 n,.int .i64 x.d.1,.int .i64 x.d.2,.int .i64 x.t,.int .i64 x.k,.int .i64 x.w,.int .i64 x.v,.int .i64 (x.p.getD 0 0),.int .i64 (x.p.getD 1 0),.int .i64 (x.p.getD 2 0),.int .i64 (x.p.getD 3 0),.int .i64 (x.p.getD 4 0),.int .i64 (x.p.getD 5 0),.int .i64 (x.p.getD 6 0),s1,s2,s3]
theorem oc_one (k n : Int) (x : Ev) (A A2 A3 : Option Addr) (n1 c1 n2 c2 n3 c3 : Nat) : (oc k n x (.slice A n1 c1) (.slice A2 n2 c2) (.slice A3 n3 c3)).all (·.oneCell') = true:=by kernel_rfl
theorem rowO : RowT Tryz.prog 50 18:=⟨_,Tryz.underlying50,rfl,by kernel_rfl⟩
structure OpV where
  k : Int
  n : Int
  e : EvV
  AL : Option Addr
  nl : Nat
  cl : Nat
  xs : List EvV
  AB : Option Addr
  nb : Nat
  cb : Nat
  bs : List UInt8
def OpV.cs (o : OpV) : Array Value:=oc o.k o.n o.e.e (.slice o.e.A o.e.m o.e.c) (.slice o.AL o.nl o.cl) (.slice o.AB o.nb o.cb)
theorem OpV.size (o : OpV) : o.cs.size = 18:=rfl
theorem OpV.one (o : OpV) : o.cs.all (·.oneCell') = true:=oc_one ..
structure OpOk (w : World) (B : Nat) (o : OpV) : Prop where
  e : EvOk w B o.e
  l : RowEv w B o.AL o.nl o.xs
  l1 : o.nl≤o.cl
  l2 : o.cl≤maxLen
  l3 : o.nl≤10000000000000
  b : RdB w B o.AB o.nb o.bs
  b1 : o.nb≤o.cb
  b2 : o.cb≤maxLen
  b3 : o.nb≤140737488351232
  n1 : -9223372036854775808≤o.n
  n2 : o.n≤9223372036854775807
def RowOp (w : World) (B : Nat) (A : Option Addr) (n : Nat) (ls : List OpV) : Prop :=
  n = ls.length∧∀ i o,ls[i]? = some o→OpOk w B o∧∃ ad,A = some ad∧ad.block < B∧∀ (j : Nat) v,o.cs[j]? = some v→w.cell? ((ad.add (i * 18)).add j) = some v
theorem OpOk.below {w w' : World} {B : Nat} {o : OpV} (h : OpOk w B o) (hb : Below B w w') : OpOk w' B o:=⟨h.e.below hb,h.l.below hb,h.l1,h.l2,h.l3,h.b.below hb,h.b1,h.b2,h.b3,h.n1,h.n2⟩
theorem RowOp.below {w w' : World} {B n : Nat} {A : Option Addr} {ls : List OpV} (h : RowOp w B A n ls) (hb : Below B w w') : RowOp w' B A n ls:=⟨h.1,fun i x hi=>by
  obtain ⟨h1,ad,e,h2,h3⟩:=h.2 i x hi
  exact ⟨h1.below hb,ad,e,h2,fun j v hv=>(hb.cell (by rw [block_add,block_add];exact h2)).trans (h3 j v hv)⟩⟩
theorem cellsOp15 : (Tryz.prog).cellsOf 50 = 18:=by kernel_rfl
theorem bytesOp15 : (Tryz.prog).bytesOf 50 = 192:=by kernel_rfl
theorem cellsEs15 : (Tryz.prog).cellsOf 48 = 1:=by kernel_rfl
theorem cellsBs15 : (Tryz.prog).cellsOf 22 = 1:=by kernel_rfl
theorem cellsI15 : (Tryz.prog).cellsOf 3 = 1:=by kernel_rfl
section
variable {H : Type} {enc : TypeId × Value→H} {W : World} {base : Nat} {sp : Nat→Bool} {held : Bool} {fuel : Nat} {cs : List Value} {x : DataW H × List MemPlace}
theorem rdz_op (hf : DataW.trod enc Tryz.prog W base sp held fuel 50 cs = some x) (hs : Sz 50 x.1) : ∃ o : OpV,cs = o.cs.toList∧OpOk W W.heap.size o:=by
  have hlen:=rd_len Tryz.underlying50 cellsOp15 hf;obtain ⟨_,_,g0⟩:=rd_field Tryz.underlying50 hf 0 3 0 1 rfl cellsI15;obtain ⟨_,_,g1⟩:=rd_field Tryz.underlying50 hf 1 3 1 1 rfl cellsI15;obtain ⟨_,_,g2,z2⟩:=rdz_field Tryz.underlying50 hf hs 2 47 2 14 rfl cellsE;obtain ⟨_,_,g3,z3⟩:=rdz_field Tryz.underlying50 hf hs 3 48 16 1 rfl cellsEs15;obtain ⟨_,_,g4,z4⟩:=rdz_field Tryz.underlying50 hf hs 4 22 17 1 rfl cellsBs15;obtain ⟨k,e0,_⟩:=rd_int g0;obtain ⟨n,e1,hn⟩:=rd_int g1;obtain ⟨e,e2,he⟩:=rdz_ev g2 z2;obtain ⟨AL,nl,cl,xs,e3,hl,hl3⟩:=rdz_evs g3 z3;obtain ⟨a',n',c',e3',hc1,hc2,_⟩:=rdz_slice Tryz.underlying48 cellsE g3 z3;obtain ⟨AB,nb,cb,bs,e4,hb,hb1,hb2,hb3⟩:=rdz_bytes g4 z4;rw [e3] at e3'
  injection e3' with e3' _
  injection e3' with _ q1 q2
  have hr : reachBytes = 140737488351232:=rfl;refine ⟨⟨k,n,e,AL,nl,cl,xs,AB,nb,cb,bs⟩,?_,he,hl,by show nl≤cl;rw [q1,q2];exact hc1,by show cl≤maxLen;rw [q2];exact hc2,hl3,hb,hb1,hb2,by show nb≤_;omega,hn.1,hn.2⟩
  match cs,hlen with
  | [a0,a1,a2,a3,a4,a5,a6,a7,a8,a9,a10,a11,a12,a13,a14,a15,a16,a17],_ =>
    have e2 : [a2,a3,a4,a5,a6,a7,a8,a9,a10,a11,a12,a13,a14,a15] = e.cs.toList:=e2;have e0 : [a0] = [Value.int .i64 k]:=e0;have e1 : [a1] = [Value.int .i64 n]:=e1;have e3 : [a16] = [Value.slice AL nl cl]:=e3;have e4 : [a17] = [Value.slice AB nb cb]:=e4
    show [a0] ++ ([a1] ++ ([a2,a3,a4,a5,a6,a7,a8,a9,a10,a11,a12,a13,a14,a15] ++ ([a16] ++ [a17]))) = _
    rw [e0,e1,e2,e3,e4]
    rfl
theorem rdz_ops (hf : DataW.trod enc Tryz.prog W base sp held fuel 23 cs = some x) (hs : Sz 23 x.1) : ∃ (A : Option Addr) (n c : Nat) (ls : List OpV),cs = [.slice A n c]∧RowOp W W.heap.size A n ls∧n≤10000000000000:=by
  obtain ⟨a,n,c,h1,h2,h3,h5,h4⟩:=rdz_slice Tryz.underlying23 cellsOp15 hf hs;rw [bytesOp15] at h5;have hr : reachBytes = 140737488351232:=rfl
  obtain ⟨l,q1,q2⟩:=list_of (α:=OpV) (P:=fun i o=>OpOk W W.heap.size o∧∃ ad,a = some ad∧ad.block < W.heap.size∧∀ (j : Nat) v,o.cs[j]? = some v→W.cell? ((ad.add (i * 18)).add j) = some v) n (fun i hi=>by
    obtain ⟨ad,cs',f',x',e1,e2,e3,e4,e5⟩:=h4 i hi;obtain ⟨o,ho,hk⟩:=rdz_op e4 e5
    have hlt : ad.block < W.heap.size:=by
      have e6:=e3 0 (by omega);rw [List.getElem?_eq_getElem (by omega)] at e6
      have:=World.block_lt_of_cell? W _ e6
      rwa [block_add,block_add] at this
    refine ⟨o,hk,ad,e1,hlt,fun j v hv=>?_⟩
    have hj : j < 18:=by
      have:=(Array.getElem?_eq_some_iff.1 hv).1
      rwa [o.size] at this
    rw [e3 j hj,ho,Array.getElem?_toList,hv])
  exact ⟨a,n,c,l,h1,⟨q1.symm,q2⟩,by omega⟩
end
section
variable {H : Type} {enc : TypeId × Value→H} {W : World} {base : Nat} {sp : Nat→Bool} {held : Bool} {r : Reach} {b0 : Nat} {v : Value} {d : DataW H} {p : List MemPlace}
theorem open_ops15 (hv : Value.okWide Tryz.prog W r b0 23 v) (h : DataW.Trod enc Tryz.prog W base sp held 23 v d p) (hs : Sz 23 d) :
    ∃ (A : Option Addr) (n c : Nat) (ls : List OpV),v = .slice A n c∧RowOp W W.heap.size A n ls∧n≤10000000000000:=by
  obtain ⟨a0,len0,cap0,rfl⟩:=okWide_slice Tryz.underlying23 hv;obtain ⟨fuel,hf⟩:=h;obtain ⟨A,n,c,xs,h1,h2⟩:=rdz_ops hf hs
  simp [Value.cells] at h1
  obtain ⟨rfl,rfl,rfl⟩:=h1;exact ⟨_,_,_,xs,rfl,h2⟩
end
end Sto
end Go.Proofs.YtfpenfgmpbdakaaGreat

namespace Go.Proofs.YtfpenfgmpbdakaaGreat
set_option linter.unusedVariables false
set_option linter.unusedSimpArgs false
set_option maxRecDepth 100000
open Go.RowKit
open Dot Evt
namespace Sto
def Great15 (w : World) (n : Nat) (ls : List OpV) (e : Ending) (w' : World) : Prop:=(∃ G,e = .returned (.bool G)∧(G = false→n≤100∧∀ o ∈ ls,o.e.m≤2000∧evSum o.xs≤3000))∧Below w.heap.size w w'
set_option maxHeartbeats 8000000 in
theorem great15_any (A : Option Addr) (n c : Nat) (ls : List OpV) (w : World) (hr : RowOp w w.heap.size A n ls) (hn : n≤10000000000000) :
    Calls Tryz.prog 7 #[.slice A n c] w (Great15 w n ls):=by
  have HN:=Lib.hid hr.1
  have HRK:=Lib.hid fun (w' : World) (hb : Below w.heap.size w w')=>hr.below hb
  clear hr
  by_cases hbig : 100 < n
  · have hd : (100 : Int) < (n : Int):=by omega
    go_enter Tryz.func7,Tryz.ntmps7
    go_wp2_with fail
    go_loopw [3,8] (fun s i wr=>∃ (k : Nat) (z : Int),k≤n∧i = .int .i64 (k : Nat)∧s = .int .i64 z∧Below w.heap.size w wr) (fun _ i _=>n - (intOf i).toNat)
    case atStart=>exact ⟨0,0,by omega,rfl,rfl,Below.refl _ _⟩
    case round =>
    obtain ⟨k,z,hk,rfl,rfl,gb⟩:=hrel
    by_cases hlt : k < n
    case neg =>
      have hkk : ¬ (k : Int) < (n : Int):=by omega
      go_wp2_with fail;go_ret;exact ⟨⟨true,rfl,fun h=>by cases h⟩,gb⟩
    have hkl : k < ls.length:=by rw [← HN.out];exact hlt
    obtain ⟨hok,ad,hA,hab,hcs⟩:=(HRK.out wr gb).2 k _ (List.getElem?_eq_getElem hkl);have e1 : ls[k]? = some ls[k]:=List.getElem?_eq_getElem hkl
    generalize ls[k] = o at *
    subst hA;obtain ⟨cs,hcx⟩ : ∃ cs,cs = o.cs:=⟨_,rfl⟩;rw [← hcx] at hcs;have SZ:=Lib.hid (show cs.size = 18 by rw [hcx];rfl);have OZ:=Lib.hid (show cs.all (·.oneCell') = true by rw [hcx];exact o.one);have X15:=Lib.hid (show cs[15]? = some (.slice o.e.A o.e.m o.e.c) by rw [hcx];rfl);have X16:=Lib.hid (show cs[16]? = some (.slice o.AL o.nl o.cl) by rw [hcx];rfl);have X17:=Lib.hid (show cs[17]? = some (.slice o.AB o.nb o.cb) by rw [hcx];rfl);have HCS:=Lib.hid hcs;have HOK:=Lib.hid hok;have HE1:=Lib.hid e1;have hm13 : o.e.m≤10000000000000:=hok.e.2.2;have hnl13:=hok.l3;have hnb:=hok.b3
    have hk0 : (0 : Int)≤(k : Int):=by omega
    have hkm : (k : Int) < (n : Int):=by omega
    clear hcs hcx hok e1
    go_upto_region 5 with first
      | ((with_reducible refine wpList_lda rowO HCS.out SZ.out ?_ ?_);rotate_left;(rfl))
      | ((with_reducible refine wpList_st rowO (Blk.new _ _ _) SZ.out ?_ OZ.out ?_ ?_ ?_);(rfl);rotate_left;(rfl);(rfl);intro w6 k6 g6 z6)
    have bA : Below wr.heap.size wr w6:=new_below g6;obtain ⟨gr,hgr⟩ : ∃ gr,gr = wr.heap.size:=⟨_,rfl⟩;rw [← hgr] at k6 ⊢;have gb6:=gb.trans (bA.mono gb.size);have t15 : w6.cell? ⟨gr,15,none⟩ = some (.slice o.e.A o.e.m o.e.c):=(k6.cell 15).trans X15.out;have t16 : w6.cell? ⟨gr,16,none⟩ = some (.slice o.AL o.nl o.cl):=(k6.cell 16).trans X16.out;have t17 : w6.cell? ⟨gr,17,none⟩ = some (.slice o.AB o.nb o.cb):=(k6.cell 17).trans X17.out;have HGT:=Lib.hid (egreat_any o.AL o.nl o.cl o.xs w.heap.size w6 (by omega) (HOK.out.l.below (bA.mono gb.size)) gb6.size);have hlg:=k6.lt;obtain ⟨q,hq⟩ : ∃ q,q = o.nb / 20:=⟨_,rfl⟩
    have hqt : ((o.nb : Nat) : Int).tdiv 20 = (q : Int):=by rw [Int.tdiv_eq_ediv_of_nonneg (by omega)];omega
    have hqd : ((o.nb : Nat) : Int) / 20 = (q : Int):=by omega
    have hqb : ¬ 10000 < o.nb→q≤500:=by omega
    obtain ⟨em,hem⟩ : ∃ em,em = o.e.m:=⟨_,rfl⟩;obtain ⟨nl,hnl⟩ : ∃ nl,nl = o.nl:=⟨_,rfl⟩;obtain ⟨nb,hnb'⟩ : ∃ nb,nb = o.nb:=⟨_,rfl⟩;rw [← hem] at t15 hm13;rw [← hnl] at t16 hnl13 HGT;rw [← hnb'] at t17 hnb hqt hqd hqb;have HEM:=Lib.hid hem;have HNL:=Lib.hid hnl;clear g6 z6 hgr bA gb HCS k6 hq hem hnl hnb'
    by_cases hb9 : 10000 < nb
    all_goals
      go_upto_region 6 with fail
      go_wp2_with fail;refine HGT.out.mono ?_;rintro e w7 ⟨⟨G,rfl,hG⟩,b7⟩;have gb7:=gb6.trans (b7.mono gb6.size);have t16 : w7.cell? ⟨gr,16,none⟩ = some (.slice o.AL nl o.cl):=(b7.cell (p:=⟨gr,16,none⟩) hlg).trans t16;clear b7 hG
      cases G
      · go_wp2_with fail
        go_roundw
        case rel=>exact ⟨k + 1,_,by omega,by go_num,rfl,gb7⟩
        case measure=>simp [intOf];omega
      · go_wp2_with fail
        go_ret;exact ⟨⟨true,rfl,fun h=>by cases h⟩,gb7⟩
  have hd : ¬ (100 : Int) < (n : Int):=by omega
  go_enter Tryz.func7,Tryz.ntmps7
  go_wp2_with fail
  go_loopw [3,8] (fun s i wr=>∃ (k z : Nat),k≤n∧i = .int .i64 (k : Nat)∧s = .int .i64 (z : Nat)∧z≤k * 20000000000501∧(∀ j o,j < k→ls[j]? = some o→o.e.m≤z∧evSum o.xs≤3000)∧Below w.heap.size w wr) (fun _ i _=>n - (intOf i).toNat)
  case atStart=>exact ⟨0,0,by omega,rfl,rfl,by omega,fun j o hj=>by omega,Below.refl _ _⟩
  case round =>
  obtain ⟨k,z,hk,rfl,rfl,hz,hol,gb⟩:=hrel;have HOL:=Lib.hid hol
  have hz2 : z≤2000000000050100:=by omega
  clear hol
  by_cases hlt : k < n
  case neg =>
    have hkk : ¬ (k : Int) < (n : Int):=by omega
    have hkn : k = n:=by omega
    have hall : ∀ o ∈ ls,o.e.m≤z∧evSum o.xs≤3000:=fun o ho=>by
      obtain ⟨j,hj,rfl⟩:=List.getElem_of_mem ho;exact HOL.out j _ (by rw [hkn,HN.out];exact hj) (List.getElem?_eq_getElem hj)
    have HALL:=Lib.hid hall;clear hall hkn
    by_cases h2 : 2000 < z
    · have h2i : (2000 : Int) < (z : Int):=by omega
      go_wp2_with fail;go_ret;exact ⟨⟨true,rfl,fun h=>by cases h⟩,gb⟩
    · have h2d : decide ((2000 : Int) < (z : Int)) = false:=decide_eq_false (by omega)
      have h1d : decide ((100 : Int) < (n : Int)) = false:=decide_eq_false (by omega);have H2:=Lib.hid (And.intro h2 hd);clear h2 hd;go_wp2_with fail;go_ret;exact ⟨⟨false,rfl,fun _=>⟨by have:=H2.out.2;omega,fun o ho=>⟨by have:=(HALL.out o ho).1;have:=H2.out.1;omega,(HALL.out o ho).2⟩⟩⟩,gb⟩
  have hkl : k < ls.length:=by rw [← HN.out];exact hlt
  obtain ⟨hok,ad,hA,hab,hcs⟩:=(HRK.out wr gb).2 k _ (List.getElem?_eq_getElem hkl);have e1 : ls[k]? = some ls[k]:=List.getElem?_eq_getElem hkl
  generalize ls[k] = o at *
  subst hA;obtain ⟨cs,hcx⟩ : ∃ cs,cs = o.cs:=⟨_,rfl⟩;rw [← hcx] at hcs;have SZ:=Lib.hid (show cs.size = 18 by rw [hcx];rfl);have OZ:=Lib.hid (show cs.all (·.oneCell') = true by rw [hcx];exact o.one);have X15:=Lib.hid (show cs[15]? = some (.slice o.e.A o.e.m o.e.c) by rw [hcx];rfl);have X16:=Lib.hid (show cs[16]? = some (.slice o.AL o.nl o.cl) by rw [hcx];rfl);have X17:=Lib.hid (show cs[17]? = some (.slice o.AB o.nb o.cb) by rw [hcx];rfl);have HCS:=Lib.hid hcs;have HOK:=Lib.hid hok;have HE1:=Lib.hid e1;have hm13 : o.e.m≤10000000000000:=hok.e.2.2;have hnl13:=hok.l3;have hnb:=hok.b3
  have hk0 : (0 : Int)≤(k : Int):=by omega
  have hkm : (k : Int) < (n : Int):=by omega
  clear hcs hcx hok e1
  go_upto_region 5 with first
    | ((with_reducible refine wpList_lda rowO HCS.out SZ.out ?_ ?_);rotate_left;(rfl))
    | ((with_reducible refine wpList_st rowO (Blk.new _ _ _) SZ.out ?_ OZ.out ?_ ?_ ?_);(rfl);rotate_left;(rfl);(rfl);intro w6 k6 g6 z6)
  have bA : Below wr.heap.size wr w6:=new_below g6;obtain ⟨gr,hgr⟩ : ∃ gr,gr = wr.heap.size:=⟨_,rfl⟩;rw [← hgr] at k6 ⊢;have gb6:=gb.trans (bA.mono gb.size);have t15 : w6.cell? ⟨gr,15,none⟩ = some (.slice o.e.A o.e.m o.e.c):=(k6.cell 15).trans X15.out;have t16 : w6.cell? ⟨gr,16,none⟩ = some (.slice o.AL o.nl o.cl):=(k6.cell 16).trans X16.out;have t17 : w6.cell? ⟨gr,17,none⟩ = some (.slice o.AB o.nb o.cb):=(k6.cell 17).trans X17.out;have HGT:=Lib.hid (egreat_any o.AL o.nl o.cl o.xs w.heap.size w6 (by omega) (HOK.out.l.below (bA.mono gb.size)) gb6.size);have hlg:=k6.lt;obtain ⟨q,hq⟩ : ∃ q,q = o.nb / 20:=⟨_,rfl⟩
  have hqt : ((o.nb : Nat) : Int).tdiv 20 = (q : Int):=by rw [Int.tdiv_eq_ediv_of_nonneg (by omega)];omega
  have hqd : ((o.nb : Nat) : Int) / 20 = (q : Int):=by omega
  have hqb : ¬ 10000 < o.nb→q≤500:=by omega
  obtain ⟨em,hem⟩ : ∃ em,em = o.e.m:=⟨_,rfl⟩;obtain ⟨nl,hnl⟩ : ∃ nl,nl = o.nl:=⟨_,rfl⟩;obtain ⟨nb,hnb'⟩ : ∃ nb,nb = o.nb:=⟨_,rfl⟩;rw [← hem] at t15 hm13;rw [← hnl] at t16 hnl13 HGT;rw [← hnb'] at t17 hnb hqt hqd hqb;have HEM:=Lib.hid hem;have HNL:=Lib.hid hnl;clear g6 z6 hgr bA gb HCS k6 hq hem hnl hnb';have hz9 : z≤k * 20000000000501:=hz;have HZ:=Lib.hid hz;clear hz hz9
  by_cases hb9 : 10000 < nb
  · go_upto_region 6 with fail
    go_wp2_with fail;refine HGT.out.mono ?_;rintro e w7 ⟨⟨G,rfl,hG⟩,b7⟩;have gb7:=gb6.trans (b7.mono gb6.size);have t16 : w7.cell? ⟨gr,16,none⟩ = some (.slice o.AL nl o.cl):=(b7.cell (p:=⟨gr,16,none⟩) hlg).trans t16;have HGG:=Lib.hid hG;clear b7 hG
    cases G
    · have hgs:=HGG.out rfl
      have HGS:=Lib.hid hgs;clear hgs;go_wp2_with fail
      go_roundw
      case rel=>exact ⟨k + 1,z + (1 + em + 500) + nl,by omega,by go_num,by go_num,by have:=HZ.out;omega,fun j y hj hy=>by
        by_cases e : j = k
        · subst e
          rw [HE1.out] at hy
          injection hy with hy
          rw [← hy,← HEM.out];exact ⟨by omega,HGS.out⟩
        · have:=HOL.out j y (by omega) hy
          exact ⟨by omega,this.2⟩,gb7⟩
      case measure=>simp [intOf];omega
    · go_wp2_with fail
      go_ret;exact ⟨⟨true,rfl,fun h=>by cases h⟩,gb7⟩
  · have hq5:=hqb hb9
    go_upto_region 6 with fail
    go_wp2_with fail;refine HGT.out.mono ?_;rintro e w7 ⟨⟨G,rfl,hG⟩,b7⟩;have gb7:=gb6.trans (b7.mono gb6.size);have t16 : w7.cell? ⟨gr,16,none⟩ = some (.slice o.AL nl o.cl):=(b7.cell (p:=⟨gr,16,none⟩) hlg).trans t16;have HGG:=Lib.hid hG;clear b7 hG
    cases G
    · have hgs:=HGG.out rfl
      have HGS:=Lib.hid hgs;clear hgs;go_wp2_with fail
      go_roundw
      case rel=>exact ⟨k + 1,z + (1 + em + q) + nl,by omega,by go_num,by go_num,by have:=HZ.out;omega,fun j y hj hy=>by
        by_cases e : j = k
        · subst e
          rw [HE1.out] at hy
          injection hy with hy
          rw [← hy,← HEM.out];exact ⟨by omega,HGS.out⟩
        · have:=HOL.out j y (by omega) hy
          exact ⟨by omega,this.2⟩,gb7⟩
      case measure=>simp [intOf];omega
    · go_wp2_with fail
      go_ret;exact ⟨⟨true,rfl,fun h=>by cases h⟩,gb7⟩
end Sto
end Go.Proofs.YtfpenfgmpbdakaaGreat

namespace Go.Proofs.YtfpenfgmpbdakaaGreat
set_option linter.unusedVariables false
set_option linter.unusedSimpArgs false
set_option maxRecDepth 100000
open Go.RowKit
open Disk
namespace Sto
theorem SaysEnd.from_ {w0 w1 w2 : World} {b g used : Nat} {E : Value} {o : Option (Nat × Nat)} {e : Ending} (hb : Below w0.heap.size w0 w1) (h : SaysEnd w1 b g used E o e w2) : SaysEnd w0 b g used E o e w2 :=
  ⟨⟨h.1.os.trans hb.os,h.1.tape.trans hb.tape,h.1.output.trans hb.output,Nat.le_trans hb.size h.1.size,fun k hk hne=>(h.1.block k (Nat.lt_of_lt_of_le hk hb.size) hne).trans (hb.block k hk)⟩,h.2⟩
def recM (s : Nat × Nat) : List UInt8→Option (Nat × Nat)
  | []=>none
  | k :: t=>if k = 1 then (numM 96 t).map fun x=>(max s.1 x,s.2) else if k = 2 then (numM 1099511627776 t).map fun x=>(s.1,max s.2 x) else none
theorem read_nil (b g used u i : Nat) (E : Value) (A : Option Addr) (c : Nat) (w : World) (h0 : Blk w b 88 (sc g used u i E)) :
    Calls Tryz.prog 41 #[.pointer (some ⟨b,0,none⟩),.slice A 0 c] w (SaysEnd w b g used E none):=by
  go_enter Tryz.func41,Tryz.ntmps41
  go_upto_region 1 with fail
  refine nameW ?_;intro W hW
  have hbW : Below w.heap.size w W:=by rw [hW];exact (Below.refl _ _).alloc (Nat.le_refl _) _
  clear hW;go_wp2_with fail;refine (must_bad _ _).mono ?_;rintro e w2 ⟨rfl,rfl⟩;go_wp2_with fail;exact ⟨rfl,only_of_below hbW _,rfl⟩
theorem read_bad (b g used u i : Nat) (E : Value) (a : Addr) (n c : Nat) (kd : UInt8) (t : List UInt8) (B : Nat) (w : World) (h0 : Blk w b 88 (sc g used u i E)) (hb : RdB w B (some a) n (kd :: t)) (hB : B≤w.heap.size) (hk : kd.toNat < 1∨3 < kd.toNat) :
    Calls Tryz.prog 41 #[.pointer (some ⟨b,0,none⟩),.slice (some a) n c] w (SaysEnd w b g used E none):=by
  have hn1 : 1≤n:=by have:=hb.1;simp at this;omega
  obtain ⟨ad,hA,hab,hv0⟩:=hb.at_ (k:=0) (by simp)
  obtain rfl : a = ad:=by injection hA
  have hv1 : w.cell? a = some (.int .u8 (kd.toNat : Nat)):=by simpa [go_sem] using hv0
  have hd0 : decide ((0 : Int) < (n : Int)) = true:=decide_eq_true (by omega);have hd1 : decide (0 < n) = true:=decide_eq_true (by omega)
  have hn0 : (0 : Int) < (n : Int):=by omega
  generalize kd.toNat = z at *
  clear hv0 hA hb h0
  rcases hk with hk | hk
  · have hk1 : (z : Int) < 1:=by omega
    have hk2 : ¬ (1 : Int)≤(z : Int):=by omega
    go_enter Tryz.func41,Tryz.ntmps41
    go_upto_region 1 with fail
    refine nameW ?_;intro W hW
    have hbW : Below w.heap.size w W:=by rw [hW];exact (Below.refl _ _).alloc (Nat.le_refl _) _
    have hvW : W.cell? a = some (.int .u8 (z : Nat)):=(hbW.cell (Nat.lt_of_lt_of_le hab hB)).trans hv1;clear hW hv1;go_wp2_with fail;refine (must_no (by first | with_reducible rfl | (simp;done) | (simp;omega)) _ _).mono ?_;rintro e w2 ⟨rfl,rfl⟩;go_wp2_with fail;exact ⟨rfl,only_of_below hbW _,rfl⟩
  · have hk1 : (1 : Int)≤(z : Int):=by omega
    have hk2 : ¬ (z : Int)≤3:=by omega
    have hk3 : (3 : Int) < (z : Int):=by omega
    go_enter Tryz.func41,Tryz.ntmps41
    go_upto_region 1 with fail
    refine nameW ?_;intro W hW
    have hbW : Below w.heap.size w W:=by rw [hW];exact (Below.refl _ _).alloc (Nat.le_refl _) _
    have hvW : W.cell? a = some (.int .u8 (z : Nat)):=(hbW.cell (Nat.lt_of_lt_of_le hab hB)).trans hv1;clear hW hv1;go_wp2_with fail;refine (must_no (by first | with_reducible rfl | (simp;done) | (simp;omega)) _ _).mono ?_;rintro e w2 ⟨rfl,rfl⟩;go_wp2_with fail;exact ⟨rfl,only_of_below hbW _,rfl⟩
set_option maxHeartbeats 1000000 in
theorem read1_any (b g used u i : Nat) (E : Value) (ad : Addr) (n c : Nat) (t : List UInt8) (B : Nat) (w0 : World) (h0 : Blk w0 b 88 (sc g used u i E)) (hb : RdB w0 B (some ad) n (1 :: t)) (hB : B≤w0.heap.size) (hl : n≤140737488355000) (hc : n≤c) (hm : c≤maxLen) :
    Calls Tryz.prog 41 #[.pointer (some ⟨b,0,none⟩),.slice (some ad) n c] w0 (SaysEnd w0 b g used E ((numM 96 t).map fun x=>(max u x,i))):=by
  have n1 : 1≤n:=by have:=hb.1;simp at this;omega
  have hlt:=h0.lt;obtain ⟨a',hA,hab,hv0⟩:=hb.at_ (k:=0) (by simp)
  obtain rfl : ad = a':=by injection hA
  have hv2 : w0.cell? ad = some (bv 1):=by simpa [go_sem] using hv0
  have hv1 : w0.cell? ad = some (.int .u8 1):=hv2;have hbt:=hb.drop 1;rw [List.drop_one,List.tail_cons] at hbt;have hd0 : decide ((0 : Int) < (n : Int)) = true:=decide_eq_true (by omega);have hd1 : decide (0 < n) = true:=decide_eq_true (by omega)
  have hn0 : (0 : Int) < (n : Int):=by omega
  have hnl : n = t.length + 1:=by have:=hb.1;simpa using this
  unfold maxLen at hm
  have hnp : 0 < n:=n1
  have hnz : (1 : Int)≤(n : Int):=by omega
  clear hv0 hv2 hA hb hd0 hd1
  by_cases hc1 : c = 1
  · obtain rfl : n = 1:=by omega
    subst hc1;obtain rfl : t = []:=List.eq_nil_of_length_eq_zero (by omega)
    have HC0:=Lib.hid fun (w' : World) (h : Below w0.heap.size w0 w')=>reserves_any b g used u i E (some ad) 0 0 [] 0 w' (h0.below h hlt) (RdB.nil _ _ _) (by omega) (by omega)
    generalize (numM 96 []).map (fun x=>(max u x,i)) = o at *
    clear hbt h0 hnl
    go_enter Tryz.func41,Tryz.ntmps41
    go_upto_region 1 with fail
    refine nameW ?_;intro W hW;obtain ⟨G,hG⟩ : ∃ G,G = w0.heap.size:=⟨_,rfl⟩;rw [← hG]
    have hbW : Below w0.heap.size w0 W:=by rw [hW];exact (Below.refl _ _).alloc (Nat.le_refl _) _
    have cG : W.cell? ⟨G,1,none⟩ = some (.func (.func 69) #[] #[]):=by rw [hW,hG];exact (Blk.new w0 _ #[.nilFunc,.func (.func 69) #[] #[],.func (.func 70) #[] #[],.func (.func 71) #[] #[]]).cell 1
    have hGW : G < W.heap.size:=by rw [hW,hG];simp
    have hvW : W.cell? ad = some (.int .u8 1):=(hbW.cell (Nat.lt_of_lt_of_le hab hB)).trans hv1
    have habW : ad.block < W.heap.size:=by have:=hbW.size;omega
    have HC:=Lib.hid fun (w' : World) (h : Below W.heap.size W w')=>HC0.out w' (hbW.trans (h.mono hbW.size))
    clear hW hG hv1;go_wp2_with fail;refine (must_ok _ _).mono ?_;rintro e w2 ⟨rfl,rfl⟩
    go_upto_region 2 with fail
    refine wp_region_tailF 6 8 (fun L v w=>v 0 = .pointer (some ⟨b,0,none⟩)∧v 1 = .slice (some ad) 1 1∧v 4 = .pointer (some ⟨G,0,none⟩)∧Below W.heap.size W w∧(L 0 = true→v 22 = .slice (some ad) 1 1)∧(L 1 = true→v 23 = .pointer (some ad))∧(L 2 = true→v 24 = .int .u8 1)∧(L 3 = true→v 25 = .pointer (some ⟨G,1,none⟩))∧(L 4 = true→v 26 = .func (.func 69) #[] #[])∧(L 5 = true→v 27 = .pointer (some ⟨b,0,none⟩))∧(L 6 = true→v 28 = .slice (some ad) 1 1)∧(L 7 = true→v 29 = .slice (some ad) 0 0)) [22,23,24,25,26,27,28,29] (by kernel_rfl) (by kernel_rfl) (by kernel_rfl) (by kernel_rfl) (by kernel_rfl) (by kernel_rfl) ?h0 ?hst ?hend
    case h0 =>
      intro L h0;have h0 : ∀ i,i < 8→L i = false:=h0;exact ⟨rfl,rfl,rfl,(Below.refl _ _).drew,offF h0 (i:=0) (by decide),offF h0 (i:=1) (by decide),offF h0 (i:=2) (by decide),offF h0 (i:=3) (by decide),offF h0 (i:=4) (by decide),offF h0 (i:=5) (by decide),offF h0 (i:=6) (by decide),offF h0 (i:=7) (by decide)⟩
    case hst =>
      show FactSteps _ _ _ _ [0,1,2,3,4,5,6,7]
      refine @FactSteps.cons _ _ _ _ 0 _ [] _ rfl (by kernel_rfl) ?s0 ?_;rotate_left;refine @FactSteps.cons _ _ _ _ 1 _ [0] _ rfl (by kernel_rfl) ?s1 ?_;rotate_left;refine @FactSteps.cons _ _ _ _ 2 _ [1] _ rfl (by kernel_rfl) ?s2 ?_;rotate_left;refine @FactSteps.cons _ _ _ _ 3 _ [2] _ rfl (by kernel_rfl) ?s3 ?_;rotate_left;refine @FactSteps.cons _ _ _ _ 4 _ [3] _ rfl (by kernel_rfl) ?s4 ?_;rotate_left;refine @FactSteps.cons _ _ _ _ 5 _ [] _ rfl (by kernel_rfl) ?s5 ?_;rotate_left;refine @FactSteps.cons _ _ _ _ 6 _ [] _ rfl (by kernel_rfl) ?s6 ?_;rotate_left;refine @FactSteps.cons _ _ _ _ 7 _ [6] _ rfl (by kernel_rfl) ?s7 ?_;rotate_left;exact FactSteps.nil
      case s0 =>
        rintro L a v w hv hg hL hd hcl ⟨e0,e1,e4,hb,f0,f1,f2,f3,f4,f5,f6,f7⟩ K hK;refine step_do rfl ?_;clear hv;go_simp;exact hK.out _ _ ⟨e0,e1,e4,hb,fun _=>rfl,f1,f2,f3,f4,f5,f6,f7⟩
      case s1 =>
        rintro L a v w hv hg hL hd hcl ⟨e0,e1,e4,hb,f0,f1,f2,f3,f4,f5,f6,f7⟩ K hK;have g0:=f0 (hd 0 (by decide));refine step_do rfl ?_;clear hv;go_simp;exact hK.out _ _ ⟨e0,e1,e4,hb,f0,fun _=>rfl,f2,f3,f4,f5,f6,f7⟩
      case s2 =>
        rintro L a v w hv hg hL hd hcl ⟨e0,e1,e4,hb,f0,f1,f2,f3,f4,f5,f6,f7⟩ K hK;have g1:=f1 (hd 1 (by decide));have hc2:=(hb.cell habW).trans hvW;refine step_do rfl ?_;clear hv;go_simp;exact hK.out _ _ ⟨e0,e1,e4,hb,f0,f1,fun _=>rfl,f3,f4,f5,f6,f7⟩
      case s3 =>
        rintro L a v w hv hg hL hd hcl ⟨e0,e1,e4,hb,f0,f1,f2,f3,f4,f5,f6,f7⟩ K hK;have g2:=f2 (hd 2 (by decide));refine step_do rfl ?_;clear hv;go_simp;exact hK.out _ _ ⟨e0,e1,e4,hb,f0,f1,f2,fun _=>rfl,f4,f5,f6,f7⟩
      case s4 =>
        rintro L a v w hv hg hL hd hcl ⟨e0,e1,e4,hb,f0,f1,f2,f3,f4,f5,f6,f7⟩ K hK;have g3:=f3 (hd 3 (by decide));have hc4:=(hb.cell (p:=⟨G,1,none⟩) hGW).trans cG;refine step_do rfl ?_;clear hv;go_simp;exact hK.out _ _ ⟨e0,e1,e4,hb,f0,f1,f2,f3,fun _=>rfl,f5,f6,f7⟩
      case s5 =>
        rintro L a v w hv hg hL hd hcl ⟨e0,e1,e4,hb,f0,f1,f2,f3,f4,f5,f6,f7⟩ K hK;refine step_do rfl ?_;clear hv;go_simp;exact hK.out _ _ ⟨e0,e1,e4,hb,f0,f1,f2,f3,f4,fun _=>rfl,f6,f7⟩
      case s6 =>
        rintro L a v w hv hg hL hd hcl ⟨e0,e1,e4,hb,f0,f1,f2,f3,f4,f5,f6,f7⟩ K hK;refine step_do rfl ?_;clear hv;go_simp;exact hK.out _ _ ⟨e0,e1,e4,hb,f0,f1,f2,f3,f4,f5,fun _=>rfl,f7⟩
      case s7 =>
        rintro L a v w hv hg hL hd hcl ⟨e0,e1,e4,hb,f0,f1,f2,f3,f4,f5,f6,f7⟩ K hK;have g6:=f6 (hd 6 (by decide));refine step_do rfl ?_;clear hv;go_simp;exact hK.out _ _ ⟨e0,e1,e4,hb,f0,f1,f2,f3,f4,f5,f6,fun _=>rfl⟩
    case hend =>
    rintro L v wx hall ⟨e0,e1,e4,hb,f0,f1,f2,f3,f4,f5,f6,f7⟩;have hL : ∀ i,i < 8→L i = true:=hall;have f0:=f0 (hL 0 (by decide));have f1:=f1 (hL 1 (by decide));have f2:=f2 (hL 2 (by decide));have f3:=f3 (hL 3 (by decide));have f4:=f4 (hL 4 (by decide));have f5:=f5 (hL 5 (by decide));have f6:=f6 (hL 6 (by decide));have f7:=f7 (hL 7 (by decide))
    simp only [finA,List.foldl_cons,List.foldl_nil,Act.put,List.setIfInBounds_toArray,List.set_cons_succ,List.set_cons_zero,f0,f1,f2,f3,f4,f5,f6,f7]
    clear e0 e1 e4 f0 f1 f2 f3 f4 f5 f6 f7 hL hall
    show wpList _ _ _ [_] _ _
    go_wp2_with fail;refine (HC.out wx hb).mono ?_;rintro e w3 h;have h:=SaysEnd.from_ (hbW.trans (hb.mono hbW.size)) h
    rcases o with _ | ⟨u',i'⟩
    · obtain ⟨h1,rfl⟩:=h
      exact ⟨rfl,h1,rfl⟩
    · obtain ⟨h1,rfl,h2⟩:=h
      go_wp2_with fail
      go_end0
      exact ⟨h1,rfl,h2⟩
  · have HC0:=Lib.hid fun (w' : World) (h : Below w0.heap.size w0 w')=>reserves_any b g used u i E (some ⟨ad.block,ad.off + 1,none⟩) (n - 1) (c - 1) t B w' (h0.below h hlt) (hbt.below (h.mono hB)) (Nat.le_trans hB h.size) (by omega)
    generalize (numM 96 t).map (fun x=>(max u x,i)) = o at *
    have hc2' : 1≤c:=by omega
    clear hbt h0 hnl
    go_enter Tryz.func41,Tryz.ntmps41
    go_upto_region 1 with fail
    refine nameW ?_;intro W hW;obtain ⟨G,hG⟩ : ∃ G,G = w0.heap.size:=⟨_,rfl⟩;rw [← hG]
    have hbW : Below w0.heap.size w0 W:=by rw [hW];exact (Below.refl _ _).alloc (Nat.le_refl _) _
    have cG : W.cell? ⟨G,1,none⟩ = some (.func (.func 69) #[] #[]):=by rw [hW,hG];exact (Blk.new w0 _ #[.nilFunc,.func (.func 69) #[] #[],.func (.func 70) #[] #[],.func (.func 71) #[] #[]]).cell 1
    have hGW : G < W.heap.size:=by rw [hW,hG];simp
    have hvW : W.cell? ad = some (.int .u8 1):=(hbW.cell (Nat.lt_of_lt_of_le hab hB)).trans hv1
    have habW : ad.block < W.heap.size:=by have:=hbW.size;omega
    have HC:=Lib.hid fun (w' : World) (h : Below W.heap.size W w')=>HC0.out w' (hbW.trans (h.mono hbW.size))
    clear hW hG hv1;go_wp2_with fail;refine (must_ok _ _).mono ?_;rintro e w2 ⟨rfl,rfl⟩
    go_upto_region 2 with fail
    refine wp_region_tailF 6 8 (fun L v w=>v 0 = .pointer (some ⟨b,0,none⟩)∧v 1 = .slice (some ad) n c∧v 4 = .pointer (some ⟨G,0,none⟩)∧Below W.heap.size W w∧(L 0 = true→v 22 = .slice (some ad) n c)∧(L 1 = true→v 23 = .pointer (some ad))∧(L 2 = true→v 24 = .int .u8 1)∧(L 3 = true→v 25 = .pointer (some ⟨G,1,none⟩))∧(L 4 = true→v 26 = .func (.func 69) #[] #[])∧(L 5 = true→v 27 = .pointer (some ⟨b,0,none⟩))∧(L 6 = true→v 28 = .slice (some ad) n c)∧(L 7 = true→v 29 = .slice (some ⟨ad.block,ad.off + 1,none⟩) (n - 1) (c - 1))) [22,23,24,25,26,27,28,29] (by kernel_rfl) (by kernel_rfl) (by kernel_rfl) (by kernel_rfl) (by kernel_rfl) (by kernel_rfl) ?h0 ?hst ?hend
    case h0 =>
      intro L h0;have h0 : ∀ i,i < 8→L i = false:=h0;exact ⟨rfl,rfl,rfl,(Below.refl _ _).drew,offF h0 (i:=0) (by decide),offF h0 (i:=1) (by decide),offF h0 (i:=2) (by decide),offF h0 (i:=3) (by decide),offF h0 (i:=4) (by decide),offF h0 (i:=5) (by decide),offF h0 (i:=6) (by decide),offF h0 (i:=7) (by decide)⟩
    case hst =>
      show FactSteps _ _ _ _ [0,1,2,3,4,5,6,7]
      refine @FactSteps.cons _ _ _ _ 0 _ [] _ rfl (by kernel_rfl) ?s0 ?_;rotate_left;refine @FactSteps.cons _ _ _ _ 1 _ [0] _ rfl (by kernel_rfl) ?s1 ?_;rotate_left;refine @FactSteps.cons _ _ _ _ 2 _ [1] _ rfl (by kernel_rfl) ?s2 ?_;rotate_left;refine @FactSteps.cons _ _ _ _ 3 _ [2] _ rfl (by kernel_rfl) ?s3 ?_;rotate_left;refine @FactSteps.cons _ _ _ _ 4 _ [3] _ rfl (by kernel_rfl) ?s4 ?_;rotate_left;refine @FactSteps.cons _ _ _ _ 5 _ [] _ rfl (by kernel_rfl) ?s5 ?_;rotate_left;refine @FactSteps.cons _ _ _ _ 6 _ [] _ rfl (by kernel_rfl) ?s6 ?_;rotate_left;refine @FactSteps.cons _ _ _ _ 7 _ [6] _ rfl (by kernel_rfl) ?s7 ?_;rotate_left;exact FactSteps.nil
      case s0 =>
        rintro L a v w hv hg hL hd hcl ⟨e0,e1,e4,hb,f0,f1,f2,f3,f4,f5,f6,f7⟩ K hK;refine step_do rfl ?_;clear hv;go_simp;exact hK.out _ _ ⟨e0,e1,e4,hb,fun _=>rfl,f1,f2,f3,f4,f5,f6,f7⟩
      case s1 =>
        rintro L a v w hv hg hL hd hcl ⟨e0,e1,e4,hb,f0,f1,f2,f3,f4,f5,f6,f7⟩ K hK;have g0:=f0 (hd 0 (by decide));refine step_do rfl ?_;clear hv;go_simp;exact hK.out _ _ ⟨e0,e1,e4,hb,f0,fun _=>rfl,f2,f3,f4,f5,f6,f7⟩
      case s2 =>
        rintro L a v w hv hg hL hd hcl ⟨e0,e1,e4,hb,f0,f1,f2,f3,f4,f5,f6,f7⟩ K hK;have g1:=f1 (hd 1 (by decide));have hc2:=(hb.cell habW).trans hvW;refine step_do rfl ?_;clear hv;go_simp;exact hK.out _ _ ⟨e0,e1,e4,hb,f0,f1,fun _=>rfl,f3,f4,f5,f6,f7⟩
      case s3 =>
        rintro L a v w hv hg hL hd hcl ⟨e0,e1,e4,hb,f0,f1,f2,f3,f4,f5,f6,f7⟩ K hK;have g2:=f2 (hd 2 (by decide));refine step_do rfl ?_;clear hv;go_simp;exact hK.out _ _ ⟨e0,e1,e4,hb,f0,f1,f2,fun _=>rfl,f4,f5,f6,f7⟩
      case s4 =>
        rintro L a v w hv hg hL hd hcl ⟨e0,e1,e4,hb,f0,f1,f2,f3,f4,f5,f6,f7⟩ K hK;have g3:=f3 (hd 3 (by decide));have hc4:=(hb.cell (p:=⟨G,1,none⟩) hGW).trans cG;refine step_do rfl ?_;clear hv;go_simp;exact hK.out _ _ ⟨e0,e1,e4,hb,f0,f1,f2,f3,fun _=>rfl,f5,f6,f7⟩
      case s5 =>
        rintro L a v w hv hg hL hd hcl ⟨e0,e1,e4,hb,f0,f1,f2,f3,f4,f5,f6,f7⟩ K hK;refine step_do rfl ?_;clear hv;go_simp;exact hK.out _ _ ⟨e0,e1,e4,hb,f0,f1,f2,f3,f4,fun _=>rfl,f6,f7⟩
      case s6 =>
        rintro L a v w hv hg hL hd hcl ⟨e0,e1,e4,hb,f0,f1,f2,f3,f4,f5,f6,f7⟩ K hK;refine step_do rfl ?_;clear hv;go_simp;exact hK.out _ _ ⟨e0,e1,e4,hb,f0,f1,f2,f3,f4,f5,fun _=>rfl,f7⟩
      case s7 =>
        rintro L a v w hv hg hL hd hcl ⟨e0,e1,e4,hb,f0,f1,f2,f3,f4,f5,f6,f7⟩ K hK;have g6:=f6 (hd 6 (by decide));refine step_do rfl ?_;clear hv;go_simp;exact hK.out _ _ ⟨e0,e1,e4,hb,f0,f1,f2,f3,f4,f5,f6,fun _=>rfl⟩
    case hend =>
    rintro L v wx hall ⟨e0,e1,e4,hb,f0,f1,f2,f3,f4,f5,f6,f7⟩;have hL : ∀ i,i < 8→L i = true:=hall;have f0:=f0 (hL 0 (by decide));have f1:=f1 (hL 1 (by decide));have f2:=f2 (hL 2 (by decide));have f3:=f3 (hL 3 (by decide));have f4:=f4 (hL 4 (by decide));have f5:=f5 (hL 5 (by decide));have f6:=f6 (hL 6 (by decide));have f7:=f7 (hL 7 (by decide))
    simp only [finA,List.foldl_cons,List.foldl_nil,Act.put,List.setIfInBounds_toArray,List.set_cons_succ,List.set_cons_zero,f0,f1,f2,f3,f4,f5,f6,f7]
    clear e0 e1 e4 f0 f1 f2 f3 f4 f5 f6 f7 hL hall
    show wpList _ _ _ [_] _ _
    go_wp2_with fail;refine (HC.out wx hb).mono ?_;rintro e w3 h;have h:=SaysEnd.from_ (hbW.trans (hb.mono hbW.size)) h
    rcases o with _ | ⟨u',i'⟩
    · obtain ⟨h1,rfl⟩:=h
      exact ⟨rfl,h1,rfl⟩
    · obtain ⟨h1,rfl,h2⟩:=h
      go_wp2_with fail
      go_end0
      exact ⟨h1,rfl,h2⟩
set_option maxHeartbeats 1000000 in
theorem read2_any (b g used u i : Nat) (E : Value) (ad : Addr) (n c : Nat) (t : List UInt8) (B : Nat) (w0 : World) (h0 : Blk w0 b 88 (sc g used u i E)) (hb : RdB w0 B (some ad) n (2 :: t)) (hB : B≤w0.heap.size) (hl : n≤140737488355000) (hc : n≤c) (hm : c≤maxLen) :
    Calls Tryz.prog 41 #[.pointer (some ⟨b,0,none⟩),.slice (some ad) n c] w0 (SaysEnd w0 b g used E ((numM 1099511627776 t).map fun x=>(u,max i x))):=by
  have n1 : 1≤n:=by have:=hb.1;simp at this;omega
  have hlt:=h0.lt;obtain ⟨a',hA,hab,hv0⟩:=hb.at_ (k:=0) (by simp)
  obtain rfl : ad = a':=by injection hA
  have hv2 : w0.cell? ad = some (bv 2):=by simpa [go_sem] using hv0
  have hv1 : w0.cell? ad = some (.int .u8 2):=hv2;have hbt:=hb.drop 1;rw [List.drop_one,List.tail_cons] at hbt;have hd0 : decide ((0 : Int) < (n : Int)) = true:=decide_eq_true (by omega);have hd1 : decide (0 < n) = true:=decide_eq_true (by omega)
  have hn0 : (0 : Int) < (n : Int):=by omega
  have hnl : n = t.length + 1:=by have:=hb.1;simpa using this
  unfold maxLen at hm
  have hnp : 0 < n:=n1
  have hnz : (1 : Int)≤(n : Int):=by omega
  clear hv0 hv2 hA hb hd0 hd1
  by_cases hc1 : c = 1
  · obtain rfl : n = 1:=by omega
    subst hc1;obtain rfl : t = []:=List.eq_nil_of_length_eq_zero (by omega)
    have HC0:=Lib.hid fun (w' : World) (h : Below w0.heap.size w0 w')=>bumps_any b g used u i E (some ad) 0 0 [] 0 w' (h0.below h hlt) (RdB.nil _ _ _) (by omega) (by omega)
    generalize (numM 1099511627776 []).map (fun x=>(u,max i x)) = o at *
    clear hbt h0 hnl
    go_enter Tryz.func41,Tryz.ntmps41
    go_upto_region 1 with fail
    refine nameW ?_;intro W hW;obtain ⟨G,hG⟩ : ∃ G,G = w0.heap.size:=⟨_,rfl⟩;rw [← hG]
    have hbW : Below w0.heap.size w0 W:=by rw [hW];exact (Below.refl _ _).alloc (Nat.le_refl _) _
    have cG : W.cell? ⟨G,2,none⟩ = some (.func (.func 70) #[] #[]):=by rw [hW,hG];exact (Blk.new w0 _ #[.nilFunc,.func (.func 69) #[] #[],.func (.func 70) #[] #[],.func (.func 71) #[] #[]]).cell 2
    have hGW : G < W.heap.size:=by rw [hW,hG];simp
    have hvW : W.cell? ad = some (.int .u8 2):=(hbW.cell (Nat.lt_of_lt_of_le hab hB)).trans hv1
    have habW : ad.block < W.heap.size:=by have:=hbW.size;omega
    have HC:=Lib.hid fun (w' : World) (h : Below W.heap.size W w')=>HC0.out w' (hbW.trans (h.mono hbW.size))
    clear hW hG hv1;go_wp2_with fail;refine (must_ok _ _).mono ?_;rintro e w2 ⟨rfl,rfl⟩
    go_upto_region 2 with fail
    refine wp_region_tailF 6 8 (fun L v w=>v 0 = .pointer (some ⟨b,0,none⟩)∧v 1 = .slice (some ad) 1 1∧v 4 = .pointer (some ⟨G,0,none⟩)∧Below W.heap.size W w∧(L 0 = true→v 22 = .slice (some ad) 1 1)∧(L 1 = true→v 23 = .pointer (some ad))∧(L 2 = true→v 24 = .int .u8 2)∧(L 3 = true→v 25 = .pointer (some ⟨G,2,none⟩))∧(L 4 = true→v 26 = .func (.func 70) #[] #[])∧(L 5 = true→v 27 = .pointer (some ⟨b,0,none⟩))∧(L 6 = true→v 28 = .slice (some ad) 1 1)∧(L 7 = true→v 29 = .slice (some ad) 0 0)) [22,23,24,25,26,27,28,29] (by kernel_rfl) (by kernel_rfl) (by kernel_rfl) (by kernel_rfl) (by kernel_rfl) (by kernel_rfl) ?h0 ?hst ?hend
    case h0 =>
      intro L h0;have h0 : ∀ i,i < 8→L i = false:=h0;exact ⟨rfl,rfl,rfl,(Below.refl _ _).drew,offF h0 (i:=0) (by decide),offF h0 (i:=1) (by decide),offF h0 (i:=2) (by decide),offF h0 (i:=3) (by decide),offF h0 (i:=4) (by decide),offF h0 (i:=5) (by decide),offF h0 (i:=6) (by decide),offF h0 (i:=7) (by decide)⟩
    case hst =>
      show FactSteps _ _ _ _ [0,1,2,3,4,5,6,7]
      refine @FactSteps.cons _ _ _ _ 0 _ [] _ rfl (by kernel_rfl) ?s0 ?_;rotate_left;refine @FactSteps.cons _ _ _ _ 1 _ [0] _ rfl (by kernel_rfl) ?s1 ?_;rotate_left;refine @FactSteps.cons _ _ _ _ 2 _ [1] _ rfl (by kernel_rfl) ?s2 ?_;rotate_left;refine @FactSteps.cons _ _ _ _ 3 _ [2] _ rfl (by kernel_rfl) ?s3 ?_;rotate_left;refine @FactSteps.cons _ _ _ _ 4 _ [3] _ rfl (by kernel_rfl) ?s4 ?_;rotate_left;refine @FactSteps.cons _ _ _ _ 5 _ [] _ rfl (by kernel_rfl) ?s5 ?_;rotate_left;refine @FactSteps.cons _ _ _ _ 6 _ [] _ rfl (by kernel_rfl) ?s6 ?_;rotate_left;refine @FactSteps.cons _ _ _ _ 7 _ [6] _ rfl (by kernel_rfl) ?s7 ?_;rotate_left;exact FactSteps.nil
      case s0 =>
        rintro L a v w hv hg hL hd hcl ⟨e0,e1,e4,hb,f0,f1,f2,f3,f4,f5,f6,f7⟩ K hK;refine step_do rfl ?_;clear hv;go_simp;exact hK.out _ _ ⟨e0,e1,e4,hb,fun _=>rfl,f1,f2,f3,f4,f5,f6,f7⟩
      case s1 =>
        rintro L a v w hv hg hL hd hcl ⟨e0,e1,e4,hb,f0,f1,f2,f3,f4,f5,f6,f7⟩ K hK;have g0:=f0 (hd 0 (by decide));refine step_do rfl ?_;clear hv;go_simp;exact hK.out _ _ ⟨e0,e1,e4,hb,f0,fun _=>rfl,f2,f3,f4,f5,f6,f7⟩
      case s2 =>
        rintro L a v w hv hg hL hd hcl ⟨e0,e1,e4,hb,f0,f1,f2,f3,f4,f5,f6,f7⟩ K hK;have g1:=f1 (hd 1 (by decide));have hc2:=(hb.cell habW).trans hvW;refine step_do rfl ?_;clear hv;go_simp;exact hK.out _ _ ⟨e0,e1,e4,hb,f0,f1,fun _=>rfl,f3,f4,f5,f6,f7⟩
      case s3 =>
        rintro L a v w hv hg hL hd hcl ⟨e0,e1,e4,hb,f0,f1,f2,f3,f4,f5,f6,f7⟩ K hK;have g2:=f2 (hd 2 (by decide));refine step_do rfl ?_;clear hv;go_simp;exact hK.out _ _ ⟨e0,e1,e4,hb,f0,f1,f2,fun _=>rfl,f4,f5,f6,f7⟩
      case s4 =>
        rintro L a v w hv hg hL hd hcl ⟨e0,e1,e4,hb,f0,f1,f2,f3,f4,f5,f6,f7⟩ K hK;have g3:=f3 (hd 3 (by decide));have hc4:=(hb.cell (p:=⟨G,2,none⟩) hGW).trans cG;refine step_do rfl ?_;clear hv;go_simp;exact hK.out _ _ ⟨e0,e1,e4,hb,f0,f1,f2,f3,fun _=>rfl,f5,f6,f7⟩
      case s5 =>
        rintro L a v w hv hg hL hd hcl ⟨e0,e1,e4,hb,f0,f1,f2,f3,f4,f5,f6,f7⟩ K hK;refine step_do rfl ?_;clear hv;go_simp;exact hK.out _ _ ⟨e0,e1,e4,hb,f0,f1,f2,f3,f4,fun _=>rfl,f6,f7⟩
      case s6 =>
        rintro L a v w hv hg hL hd hcl ⟨e0,e1,e4,hb,f0,f1,f2,f3,f4,f5,f6,f7⟩ K hK;refine step_do rfl ?_;clear hv;go_simp;exact hK.out _ _ ⟨e0,e1,e4,hb,f0,f1,f2,f3,f4,f5,fun _=>rfl,f7⟩
      case s7 =>
        rintro L a v w hv hg hL hd hcl ⟨e0,e1,e4,hb,f0,f1,f2,f3,f4,f5,f6,f7⟩ K hK;have g6:=f6 (hd 6 (by decide));refine step_do rfl ?_;clear hv;go_simp;exact hK.out _ _ ⟨e0,e1,e4,hb,f0,f1,f2,f3,f4,f5,f6,fun _=>rfl⟩
    case hend =>
    rintro L v wx hall ⟨e0,e1,e4,hb,f0,f1,f2,f3,f4,f5,f6,f7⟩;have hL : ∀ i,i < 8→L i = true:=hall;have f0:=f0 (hL 0 (by decide));have f1:=f1 (hL 1 (by decide));have f2:=f2 (hL 2 (by decide));have f3:=f3 (hL 3 (by decide));have f4:=f4 (hL 4 (by decide));have f5:=f5 (hL 5 (by decide));have f6:=f6 (hL 6 (by decide));have f7:=f7 (hL 7 (by decide))
    simp only [finA,List.foldl_cons,List.foldl_nil,Act.put,List.setIfInBounds_toArray,List.set_cons_succ,List.set_cons_zero,f0,f1,f2,f3,f4,f5,f6,f7]
    clear e0 e1 e4 f0 f1 f2 f3 f4 f5 f6 f7 hL hall
    show wpList _ _ _ [_] _ _
    go_wp2_with fail;refine (HC.out wx hb).mono ?_;rintro e w3 h;have h:=SaysEnd.from_ (hbW.trans (hb.mono hbW.size)) h
    rcases o with _ | ⟨u',i'⟩
    · obtain ⟨h1,rfl⟩:=h
      exact ⟨rfl,h1,rfl⟩
    · obtain ⟨h1,rfl,h2⟩:=h
      go_wp2_with fail
      go_end0
      exact ⟨h1,rfl,h2⟩
  · have HC0:=Lib.hid fun (w' : World) (h : Below w0.heap.size w0 w')=>bumps_any b g used u i E (some ⟨ad.block,ad.off + 1,none⟩) (n - 1) (c - 1) t B w' (h0.below h hlt) (hbt.below (h.mono hB)) (Nat.le_trans hB h.size) (by omega)
    generalize (numM 1099511627776 t).map (fun x=>(u,max i x)) = o at *
    have hc2' : 1≤c:=by omega
    clear hbt h0 hnl
    go_enter Tryz.func41,Tryz.ntmps41
    go_upto_region 1 with fail
    refine nameW ?_;intro W hW;obtain ⟨G,hG⟩ : ∃ G,G = w0.heap.size:=⟨_,rfl⟩;rw [← hG]
    have hbW : Below w0.heap.size w0 W:=by rw [hW];exact (Below.refl _ _).alloc (Nat.le_refl _) _
    have cG : W.cell? ⟨G,2,none⟩ = some (.func (.func 70) #[] #[]):=by rw [hW,hG];exact (Blk.new w0 _ #[.nilFunc,.func (.func 69) #[] #[],.func (.func 70) #[] #[],.func (.func 71) #[] #[]]).cell 2
    have hGW : G < W.heap.size:=by rw [hW,hG];simp
    have hvW : W.cell? ad = some (.int .u8 2):=(hbW.cell (Nat.lt_of_lt_of_le hab hB)).trans hv1
    have habW : ad.block < W.heap.size:=by have:=hbW.size;omega
    have HC:=Lib.hid fun (w' : World) (h : Below W.heap.size W w')=>HC0.out w' (hbW.trans (h.mono hbW.size))
    clear hW hG hv1;go_wp2_with fail;refine (must_ok _ _).mono ?_;rintro e w2 ⟨rfl,rfl⟩
    go_upto_region 2 with fail
    refine wp_region_tailF 6 8 (fun L v w=>v 0 = .pointer (some ⟨b,0,none⟩)∧v 1 = .slice (some ad) n c∧v 4 = .pointer (some ⟨G,0,none⟩)∧Below W.heap.size W w∧(L 0 = true→v 22 = .slice (some ad) n c)∧(L 1 = true→v 23 = .pointer (some ad))∧(L 2 = true→v 24 = .int .u8 2)∧(L 3 = true→v 25 = .pointer (some ⟨G,2,none⟩))∧(L 4 = true→v 26 = .func (.func 70) #[] #[])∧(L 5 = true→v 27 = .pointer (some ⟨b,0,none⟩))∧(L 6 = true→v 28 = .slice (some ad) n c)∧(L 7 = true→v 29 = .slice (some ⟨ad.block,ad.off + 1,none⟩) (n - 1) (c - 1))) [22,23,24,25,26,27,28,29] (by kernel_rfl) (by kernel_rfl) (by kernel_rfl) (by kernel_rfl) (by kernel_rfl) (by kernel_rfl) ?h0 ?hst ?hend
    case h0 =>
      intro L h0;have h0 : ∀ i,i < 8→L i = false:=h0;exact ⟨rfl,rfl,rfl,(Below.refl _ _).drew,offF h0 (i:=0) (by decide),offF h0 (i:=1) (by decide),offF h0 (i:=2) (by decide),offF h0 (i:=3) (by decide),offF h0 (i:=4) (by decide),offF h0 (i:=5) (by decide),offF h0 (i:=6) (by decide),offF h0 (i:=7) (by decide)⟩
    case hst =>
      show FactSteps _ _ _ _ [0,1,2,3,4,5,6,7]
      refine @FactSteps.cons _ _ _ _ 0 _ [] _ rfl (by kernel_rfl) ?s0 ?_;rotate_left;refine @FactSteps.cons _ _ _ _ 1 _ [0] _ rfl (by kernel_rfl) ?s1 ?_;rotate_left;refine @FactSteps.cons _ _ _ _ 2 _ [1] _ rfl (by kernel_rfl) ?s2 ?_;rotate_left;refine @FactSteps.cons _ _ _ _ 3 _ [2] _ rfl (by kernel_rfl) ?s3 ?_;rotate_left;refine @FactSteps.cons _ _ _ _ 4 _ [3] _ rfl (by kernel_rfl) ?s4 ?_;rotate_left;refine @FactSteps.cons _ _ _ _ 5 _ [] _ rfl (by kernel_rfl) ?s5 ?_;rotate_left;refine @FactSteps.cons _ _ _ _ 6 _ [] _ rfl (by kernel_rfl) ?s6 ?_;rotate_left;refine @FactSteps.cons _ _ _ _ 7 _ [6] _ rfl (by kernel_rfl) ?s7 ?_;rotate_left;exact FactSteps.nil
      case s0 =>
        rintro L a v w hv hg hL hd hcl ⟨e0,e1,e4,hb,f0,f1,f2,f3,f4,f5,f6,f7⟩ K hK;refine step_do rfl ?_;clear hv;go_simp;exact hK.out _ _ ⟨e0,e1,e4,hb,fun _=>rfl,f1,f2,f3,f4,f5,f6,f7⟩
      case s1 =>
        rintro L a v w hv hg hL hd hcl ⟨e0,e1,e4,hb,f0,f1,f2,f3,f4,f5,f6,f7⟩ K hK;have g0:=f0 (hd 0 (by decide));refine step_do rfl ?_;clear hv;go_simp;exact hK.out _ _ ⟨e0,e1,e4,hb,f0,fun _=>rfl,f2,f3,f4,f5,f6,f7⟩
      case s2 =>
        rintro L a v w hv hg hL hd hcl ⟨e0,e1,e4,hb,f0,f1,f2,f3,f4,f5,f6,f7⟩ K hK;have g1:=f1 (hd 1 (by decide));have hc2:=(hb.cell habW).trans hvW;refine step_do rfl ?_;clear hv;go_simp;exact hK.out _ _ ⟨e0,e1,e4,hb,f0,f1,fun _=>rfl,f3,f4,f5,f6,f7⟩
      case s3 =>
        rintro L a v w hv hg hL hd hcl ⟨e0,e1,e4,hb,f0,f1,f2,f3,f4,f5,f6,f7⟩ K hK;have g2:=f2 (hd 2 (by decide));refine step_do rfl ?_;clear hv;go_simp;exact hK.out _ _ ⟨e0,e1,e4,hb,f0,f1,f2,fun _=>rfl,f4,f5,f6,f7⟩
      case s4 =>
        rintro L a v w hv hg hL hd hcl ⟨e0,e1,e4,hb,f0,f1,f2,f3,f4,f5,f6,f7⟩ K hK;have g3:=f3 (hd 3 (by decide));have hc4:=(hb.cell (p:=⟨G,2,none⟩) hGW).trans cG;refine step_do rfl ?_;clear hv;go_simp;exact hK.out _ _ ⟨e0,e1,e4,hb,f0,f1,f2,f3,fun _=>rfl,f5,f6,f7⟩
      case s5 =>
        rintro L a v w hv hg hL hd hcl ⟨e0,e1,e4,hb,f0,f1,f2,f3,f4,f5,f6,f7⟩ K hK;refine step_do rfl ?_;clear hv;go_simp;exact hK.out _ _ ⟨e0,e1,e4,hb,f0,f1,f2,f3,f4,fun _=>rfl,f6,f7⟩
      case s6 =>
        rintro L a v w hv hg hL hd hcl ⟨e0,e1,e4,hb,f0,f1,f2,f3,f4,f5,f6,f7⟩ K hK;refine step_do rfl ?_;clear hv;go_simp;exact hK.out _ _ ⟨e0,e1,e4,hb,f0,f1,f2,f3,f4,f5,fun _=>rfl,f7⟩
      case s7 =>
        rintro L a v w hv hg hL hd hcl ⟨e0,e1,e4,hb,f0,f1,f2,f3,f4,f5,f6,f7⟩ K hK;have g6:=f6 (hd 6 (by decide));refine step_do rfl ?_;clear hv;go_simp;exact hK.out _ _ ⟨e0,e1,e4,hb,f0,f1,f2,f3,f4,f5,f6,fun _=>rfl⟩
    case hend =>
    rintro L v wx hall ⟨e0,e1,e4,hb,f0,f1,f2,f3,f4,f5,f6,f7⟩;have hL : ∀ i,i < 8→L i = true:=hall;have f0:=f0 (hL 0 (by decide));have f1:=f1 (hL 1 (by decide));have f2:=f2 (hL 2 (by decide));have f3:=f3 (hL 3 (by decide));have f4:=f4 (hL 4 (by decide));have f5:=f5 (hL 5 (by decide));have f6:=f6 (hL 6 (by decide));have f7:=f7 (hL 7 (by decide))
    simp only [finA,List.foldl_cons,List.foldl_nil,Act.put,List.setIfInBounds_toArray,List.set_cons_succ,List.set_cons_zero,f0,f1,f2,f3,f4,f5,f6,f7]
    clear e0 e1 e4 f0 f1 f2 f3 f4 f5 f6 f7 hL hall
    show wpList _ _ _ [_] _ _
    go_wp2_with fail;refine (HC.out wx hb).mono ?_;rintro e w3 h;have h:=SaysEnd.from_ (hbW.trans (hb.mono hbW.size)) h
    rcases o with _ | ⟨u',i'⟩
    · obtain ⟨h1,rfl⟩:=h
      exact ⟨rfl,h1,rfl⟩
    · obtain ⟨h1,rfl,h2⟩:=h
      go_wp2_with fail
      go_end0
      exact ⟨h1,rfl,h2⟩
theorem recM_cons (s : Nat × Nat) (k : UInt8) (t : List UInt8) : recM s (k :: t) = if k = 1 then (numM 96 t).map fun x=>(max s.1 x,s.2) else if k = 2 then (numM 1099511627776 t).map fun x=>(s.1,max s.2 x) else none:=rfl
theorem read_any (b g used u i : Nat) (E : Value) (A : Option Addr) (n c : Nat) (bs : List UInt8) (B : Nat) (w : World) (h0 : Blk w b 88 (sc g used u i E)) (hb : RdB w B A n bs) (hB : B≤w.heap.size) (hl : n≤140737488355000) (hc : n≤c) (hm : c≤maxLen) (h3 : bs.head? ≠ some 3) :
    Calls Tryz.prog 41 #[.pointer (some ⟨b,0,none⟩),.slice A n c] w (SaysEnd w b g used E (recM (u,i) bs)):=by
  rcases bs with _ | ⟨kd,t⟩
  · obtain rfl : n = 0:=hb.1
    exact read_nil b g used u i E A c w h0
  · obtain ⟨a,rfl,_,_⟩:=hb.at_ (k:=0) (by simp)
    rw [recM_cons]
    by_cases k1 : kd = 1
    · subst k1
      rw [if_pos rfl];exact read1_any b g used u i E a n c t B w h0 hb hB hl hc hm
    rw [if_neg k1]
    by_cases k2 : kd = 2
    · subst k2
      rw [if_pos rfl];exact read2_any b g used u i E a n c t B w h0 hb hB hl hc hm
    rw [if_neg k2]
    have k3 : kd ≠ 3:=fun e=>h3 (by rw [e];rfl)
    refine read_bad b g used u i E a n c kd t B w h0 hb hB ?_
    have e1 : kd.toNat ≠ 1:=fun e=>k1 (UInt8.toNat_inj.1 e)
    have e2 : kd.toNat ≠ 2:=fun e=>k2 (UInt8.toNat_inj.1 e)
    have e3 : kd.toNat ≠ 3:=fun e=>k3 (UInt8.toNat_inj.1 e)
    omega
end Sto
end Go.Proofs.YtfpenfgmpbdakaaGreat

namespace Go.Proofs.YtfpenfgmpbdakaaGreat
set_option linter.unusedVariables false
set_option linter.unusedSimpArgs false
set_option maxRecDepth 100000
open Go.RowKit
open Disk
namespace Sto
open _root_.Go.Proofs.YtfpenfgmpbdakaaGreat.Log (writeM LogEnd lwrite_any mendM MendEnd lmend_any lread_any ReadL)
open _root_.Go.Proofs.YtfpenfgmpbdakaaGreat.Frame (frm frms frms_nil frms_cons frms_snoc frms_append frm_length frm_pos Parts AllF)
def recsM : Nat × Nat→List (List UInt8)→Option (Nat × Nat)
  | s,[]=>some s
  | s,r :: l=>match recM s r with
    | none=>none
    | some s'=>recsM s' l
theorem recsM_snoc (l : List (List UInt8)) (r : List UInt8) : ∀ s,recsM s (l ++ [r]) = match recsM s l with | none=>none | some s'=>recM s' r:=by
  induction l with
  | nil=>intro s;show (match recM s r with | none=>none | some s'=>some s') = recM s r;cases recM s r <;> rfl
  | cons x l ih =>
    intro s
    show (match recM s x with | none=>none | some s'=>recsM s' (l ++ [r])) = match (match recM s x with | none=>none | some s'=>recsM s' l) with | none=>none | some s'=>recM s' r
    cases h : recM s x with
    | none=>rfl
    | some s'=>exact ih s'
theorem recsM_none (l m : List (List UInt8)) : ∀ s,recsM s l = none→recsM s (l ++ m) = none:=by
  induction l with
  | nil=>intro s h;cases h
  | cons x l ih =>
    intro s h;have h : (match recM s x with | none=>none | some s'=>recsM s' l) = none:=h
    show (match recM s x with | none=>none | some s'=>recsM s' (l ++ m)) = none
    cases e : recM s x with
    | none=>rfl
    | some s'=>rw [e] at h;exact ih s' h
theorem mend_parts {b : List UInt8} {l : List (List UInt8)} {r : List UInt8} (hp : Parts b l r) : mendM b [] l = (0,frms l,[]):=by
  unfold mendM
  have e : readL b [] = b:=rfl;rw [e]
  by_cases h : (frms l).length < b.length
  · rw [if_pos h]
  · rw [if_neg h]
    have h1:=hp.1;have h2:=congrArg List.length h1;rw [List.length_append] at h2;have hr : r = []:=List.eq_nil_of_length_eq_zero (by omega);rw [hr,List.append_nil] at h1;rw [h1]
theorem parts_self {b : List UInt8} {l : List (List UInt8)} {r : List UInt8} (hp : Parts b l r) : Parts (frms l) l []:=⟨by rw [List.append_nil],hp.2.1,3,rfl⟩
theorem parts_le {b : List UInt8} {l : List (List UInt8)} {r : List UInt8} (hp : Parts b l r) : (frms l).length≤b.length∧l.length≤(frms l).length:=by
  obtain ⟨h1,h2,_⟩:=hp;have h3:=congrArg List.length h1;rw [List.length_append] at h3;refine ⟨by omega,?_⟩;clear h1 h2 h3
  induction l with
  | nil=>simp
  | cons x l ih =>
    rw [frms_cons,List.length_append,List.length_cons,frm_length]
    omega
def OpenEnd (w : World) (F : Nat→Prop) (g size : Nat) (lasts : List UInt8) (e : Ending) (w' : World) : Prop :=
  ∃ l r F',Parts lasts l r∧Only F w w'∧Grows F F' w∧match recsM (0,0) l with
    | some (u,i)=>∃ b,e = .returned (.tuple #[.pointer (some ⟨b,0,none⟩),.int .i64 0])∧StoAt w' F' b g size ⟨frms l,u,u,i⟩ (.slice none 0 0)∧w.heap.size≤b
    | none=>e = .returned (.tuple #[.pointer none,.int .i64 4])∧DiskAt w' F' g size (frms l) []
set_option maxHeartbeats 2000000 in
theorem open_any (F : Nat→Prop) (g size : Nat) (lasts : List UInt8) (w : World) (hD : DiskAt w F g size lasts []) (hm : lasts.length≤size) (hs : size≤16384) (h3 : ∀ l r,Parts lasts l r→∀ x ∈ l,x.head? ≠ some 3) :
    Calls Tryz.prog 12 #[.pointer (some ⟨g,0,none⟩)] w (OpenEnd w F g size lasts):=by
  have k0:=Blk.new w 27 #[.int .i64 0];have hbw : Below w.heap.size w (w.alloc (.cells #[.int .i64 0] 27)):=(Below.refl _ _).alloc (Nat.le_refl _) _
  have hsz : w.heap.size < (w.alloc (.cells #[.int .i64 0] 27)).heap.size:=by simp
  have hf : ∀ k,F k→k < w.heap.size:=hD.lt
  have hnF : ¬ F w.heap.size:=fun q=>by have:=hf _ q;omega
  have d0:=hD.below hbw
  go_enter_defers Tryz.func12,Tryz.ntmps12
  go_wp2_with fail
  generalize w.alloc (.cells #[.int .i64 0] 27) = w0 at *
  refine (lmend_any F g size lasts [] _ d0 (by simp [mass];omega) (by simp) hs (by show lasts.length≤_;omega)).mono ?_;rintro e w1 ⟨l,r,hp,q1⟩;have hp : Parts lasts l r:=hp;have h3l:=h3 l r hp;have hpl:=parts_le hp
  unfold LogEnd at q1
  rw [mend_parts hp] at q1;obtain ⟨rfl,q1⟩:=q1;have k1:=q1.kept k0 hnF;obtain ⟨F1,d1,o1,g1⟩:=q1;have HP:=Lib.hid hp;have H3:=Lib.hid h3l
  have hnF1 : ¬ F1 w.heap.size:=fun q=>by
    rcases g1 _ q with x | x
    · exact hnF x
    · omega
  clear hp h3l h3 d0 k0 hD
  go_upto_region 6 with fail
  -- the store's own block
  refine nameW ?_;intro W hW;obtain ⟨b,hb⟩ : ∃ b,b = w1.heap.size:=⟨_,rfl⟩
  have kb : Blk W b 88 (sc g 0 0 0 (.slice none 0 0)):=by rw [hW,hb];exact Blk.new w1 _ _
  have bW : Below w1.heap.size w1 W:=by rw [hW];exact (Below.refl _ _).alloc (Nat.le_refl _) _
  have d2:=d1.below bW;have k2:=k1.below bW k1.lt;have hlb : b < W.heap.size:=kb.lt
  have hbn : b ≠ w.heap.size:=by have:=k1.lt;omega
  have hbF : ¬ F1 b:=fun q=>by have:=d1.lt _ q;omega
  rw [← hb];have HB:=Lib.hid hb;have k1':=k1;clear hW hb d1 k1;go_wp2_with fail;refine (lread_any F1 g size (frms l) [] _ d2 (by simp [mass];omega) (by simp)).mono ?_;rintro e w3 ⟨l',r',A3,c3,hp3,rfl,bo3,b3⟩;have hp3 : Parts (frms l) l' r':=hp3;obtain ⟨rfl,rfl⟩:=(parts_self HP.out).same hp3;have d3:=d2.below b3;have k3:=k2.below b3 k2.lt;have kb3:=kb.below b3 kb.lt;have hl3:=bo3.len
  have hsmall : l.length≤100000:=by have:=hpl;omega
  have hpx:=HP.out.2.1;have oA : Only F w w3:=(((Only.of_below F hbw).trans o1 (Grows.refl _ _)).then_below (bW.mono (by have:=k1'.lt;omega))).then_below (b3.mono (by have:=k1'.lt;have:=bW.size;omega));have hb4 : ∀ x ∈ l,x.length≤4096:=hpx;have HX:=Lib.hid hb4;have HOA:=Lib.hid oA
  have hG1 : Grows F F1 w:=fun k hk=>(g1 k hk).imp id fun q=>Nat.le_trans hbw.size q
  have HG1:=Lib.hid hG1;clear hp3 d2 k2 kb hb4 oA g1 hG1 hl3 hpx o1 hp hpl;obtain ⟨lb,hlb2⟩ : ∃ lb,lb = W.heap.size:=⟨_,rfl⟩;rw [← hlb2] at bo3 hlb
  have hwb : w.heap.size≤b:=by have:=HB.out;have:=k1'.lt;omega
  clear hlb2 bW b3 k1';go_wp2_with fail
  go_loopw [25] (fun i wr=>∃ (k u v : Nat),k≤l.length∧i = .int .i64 (k : Nat)∧recsM (0,0) (l.take k) = some (u,v)∧Blk wr b 88 (sc g 0 u v (.slice none 0 0))∧Only (fun k=>k = b) w3 wr) (fun i _=>l.length - (intOf i).toNat)
  case atStart=>exact ⟨0,0,0,by omega,rfl,rfl,kb3,Only.refl _ _⟩
  case round =>
    clear kb3;obtain ⟨k,u,v,hk,rfl,hr,kb,o⟩:=hrel;have kE:=k3.only o (fun q=>hbn q.symm);have dE:=d3.keep (o.keeps (fun k hk q=>hbF (by rw [← q];exact hk)) d3.lt);have oE : Only F w wr:=HOA.out.trans o (fun k hk=>.inr (by omega))
    by_cases hlt : k < l.length
    · obtain ⟨a,D,m,c,hA,hab,hcell,hrd,hmc,hcm⟩:=(_root_.Go.Proofs.YtfpenfgmpbdakaaGreat.Log.Bods.only bo3 o (fun k hk=>by omega)).rd.at_ hlt
      subst hA
      have hm4 : m≤4096:=by have:=HX.out _ (List.getElem_mem hlt);have:=hrd.1;omega
      have hsn:=take_snoc l hlt
      have hread:=fun (w' : World) (h : Blk w' b 88 (sc g 0 u v (.slice none 0 0))) (h2 : RdB w' wr.heap.size D m l[k]) (h4 : wr.heap.size≤w'.heap.size)=>read_any b g 0 u v (.slice none 0 0) D m c l[k] wr.heap.size w' h h2 h4 (by omega) hmc hcm (H3.out _ (List.getElem_mem hlt))
      have hr2 : recsM (0,0) (l.take (k + 1)) = recM (u,v) l[k]:=by rw [hsn,recsM_snoc,hr]
      have hcut : recsM (0,0) (l.take (k + 1)) = none→recsM (0,0) l = none:=fun h=>by
        have:=recsM_none (l.take (k + 1)) (l.drop (k + 1)) (0,0) h
        rwa [List.take_append_drop] at this
      rw [hr2] at hcut
      generalize l[k] = rk at *
      have HRD:=Lib.hid hread;have HR2:=Lib.hid hr2;have HCU:=Lib.hid hcut;have HE:=Lib.hid (And.intro kE (And.intro dE oE));have HO:=Lib.hid o;have HRB:=Lib.hid hrd;obtain ⟨kk,hkk⟩ : ∃ kk,kk = l.length:=⟨_,rfl⟩;rw [← hkk] at hlt ⊢;have HKK:=Lib.hid hkk;have HKB:=Lib.hid kb
      have hk0 : (0 : Int)≤(k : Int):=by omega
      have hkm : (k : Int) < (kk : Int):=by omega
      have hkx : k≤100000:=by omega
      clear hread hr hr2 hcut kE dE oE o hrd hkk kb hsn d3 k3 bo3;go_wp2_with fail;refine (HRD.out _ (by exact HKB.out) (by exact HRB.out) (by exact Nat.le_refl _)).mono ?_;rintro e w4 ⟨g4,q4⟩;have o4 : Only (fun k=>k = b) w3 w4:=HO.out.trans (Only.of_grown (F:=fun k=>k = b) g4 rfl) (Grows.refl _ _);have o5 : Only (fun k=>k = b) wr w4:=Only.of_grown g4 rfl
      rcases hrc : recM (u,v) rk with _ | ⟨u',v'⟩
      · rw [hrc] at q4
        simp only at q4
        subst q4;have hno:=HCU.out hrc;have HNO:=Lib.hid hno;have kE:=HE.out.1.only o5 (fun q=>hbn q.symm);have dE:=HE.out.2.1.keep (o5.keeps (fun k hk q=>hbF (by rw [← q];exact hk)) HE.out.2.1.lt);have oE : Only F w w4:=HE.out.2.2.trans o5 (fun k hk=>.inr (by omega));clear hno hrc;go_wp2_with fail;refine leaves_cons (f:=38) (args:=#[.pointer (some ⟨w.heap.size,0,none⟩)]) (by simp) (by simp [go_sem]) ?_;refine (caught_panic _ _ _ _ _ (kE.cell 0) (kE.free 0)).mono ?_;rintro e u' w'' ⟨rfl,rfl,rfl⟩;have k9:=(kE.alloc (.cells #[.int .i64 4] 113)).set_ 0 (.int .i64 4);have c9 : World.cell? _ _ = some (.int .i64 4):=k9.cell 0;have o9:=(oE.alloc (.cells #[.int .i64 4] 113)).setCell (p:=⟨w.heap.size,0,none⟩) (.inr (Nat.le_refl _)) (.int .i64 4);have d9:=(dE.below ((Below.refl _ _).alloc (Nat.le_refl _) (.cells #[.int .i64 4] 113))).keep ⟨by simp [World.setCell],fun k hk=>Below.heap_setCell _ ⟨w.heap.size,0,none⟩ (.int .i64 4) k (fun e=>hnF1 (by have e : k = w.heap.size:=e;rw [← e];exact hk))⟩;refine ⟨.tuple #[.pointer none,.int .i64 4],by simp [results,Tryz.results12,go_sem,c9],?_⟩;refine ⟨l,r,F1,HP.out,o9,HG1.out,?_⟩;rw [HNO.out];exact ⟨rfl,d9⟩
      · rw [hrc] at q4
        simp only at q4
        obtain ⟨rfl,kb4⟩:=q4;have HRC:=Lib.hid hrc;clear hrc;go_wp2_with fail
        go_roundw
        case rel=>exact ⟨k + 1,u',v',by omega,by go_num,by rw [HR2.out,HRC.out],kb4,o4⟩
        case measure=>simp [intOf];omega
    · obtain rfl : k = l.length:=by omega
      rw [List.take_length] at hr;have HR:=Lib.hid hr;have hkd : decide ((l.length : Int) < (l.length : Int)) = false:=decide_eq_false (by omega);have c2 : wr.cell? ⟨b,2,none⟩ = some (.int .i64 (u : Nat)):=kb.cell 2;have c1 : wr.cell? ⟨b,1,none⟩ = some (.int .i64 0):=kb.cell 1;have z0 : wr.cell? ⟨w.heap.size,0,none⟩ = some (.int .i64 0):=kE.cell 0;have z1 : wr.frozen? ⟨w.heap.size,0,none⟩ = false:=kE.free 0;have k5:=kb.set_ 1 (.int .i64 (u : Nat));have kE5:=kE.far (p:=⟨b,1,none⟩) (fun q=>hbn q.symm) (.int .i64 (u : Nat));have f0:=kE5.free 0;have f1:=kb.free 1;have HE:=Lib.hid (And.intro kE5 (And.intro dE (And.intro oE k5)));clear kE dE oE k5 kE5 hr kb bo3 d3 k3 o;go_wp2_with fail;have c4 : World.cell? _ _ = some (.int .i64 0):=(HE.out.1.set_ 0 (.int .i64 0)).cell 0;refine leaves_cons (f:=38) (args:=#[.pointer (some ⟨w.heap.size,0,none⟩)]) (by simp) (by simp [go_sem]) ?_;refine (caught_none _ _).mono ?_;rintro e u' w'' ⟨rfl,rfl,rfl⟩;refine ⟨.tuple #[.pointer (some ⟨b,0,none⟩),.int .i64 0],by simp [results,Tryz.results12,go_sem,c4],?_⟩;have o9:=(HE.out.2.2.1.setCell (p:=⟨b,1,none⟩) (.inr hwb) (.int .i64 (u : Nat))).setCell (p:=⟨w.heap.size,0,none⟩) (.inr (Nat.le_refl _)) (.int .i64 0);have d8:=HE.out.2.1.keep ⟨by simp [World.setCell],fun k hk=>Below.heap_setCell wr ⟨b,1,none⟩ (.int .i64 (u : Nat)) k (fun e=>hbF (by have e : k = b:=e;rw [← e];exact hk))⟩;have d9:=d8.keep ⟨by simp [World.setCell],fun k hk=>Below.heap_setCell _ ⟨w.heap.size,0,none⟩ (.int .i64 0) k (fun e=>hnF1 (by have e : k = w.heap.size:=e;rw [← e];exact hk))⟩
      have k9:=HE.out.2.2.2.far (p:=⟨w.heap.size,0,none⟩) (by show b ≠ w.heap.size;exact hbn) (.int .i64 0);refine ⟨l,r,F1,HP.out,o9,HG1.out,?_⟩;rw [HR.out];exact ⟨b,rfl,⟨d9,k9,hbF⟩,hwb⟩
end Sto
end Go.Proofs.YtfpenfgmpbdakaaGreat

namespace Go.Proofs.YtfpenfgmpbdakaaGreat
set_option linter.unusedVariables false
set_option linter.unusedSimpArgs false
set_option maxRecDepth 100000
open Go.RowKit
open Disk
namespace Sto
open _root_.Go.Proofs.YtfpenfgmpbdakaaGreat.Log (writeM LogEnd lwrite_any)
open _root_.Go.Proofs.YtfpenfgmpbdakaaGreat.Frame (frm frms frms_nil frms_cons frms_snoc frms_append frm_length frm_pos Parts AllF)
set_option maxHeartbeats 1000000 in
theorem next_any (S : Sd) (E : Value) (F : Nat→Prop) (b g size : Nat) (w : World) (h : StoAt w F b g size S E) (hu : S.used≤S.upto) (hU : S.upto≤96) (hs : size≤16384) (hl : S.b.length≤16384) :
    Calls Tryz.prog 14 #[.pointer (some ⟨b,0,none⟩)] w (NumOp w F b g size E (nextD size S)):=by
  have k0:=Blk.new w 27 #[.int .i64 0];have hbw : Below w.heap.size w (w.alloc (.cells #[.int .i64 0] 27)):=(Below.refl _ _).alloc (Nat.le_refl _) _
  have hsz : w.heap.size < (w.alloc (.cells #[.int .i64 0] 27)).heap.size:=by simp
  have s0:=(h.below hbw).sw;have hlt : b < w.heap.size:=h.2.1.lt;have hf : ∀ k,F k→k < w.heap.size:=h.1.lt
  have hnF : ¬ F w.heap.size:=fun q=>by have:=hf _ q;omega
  have hne : w.heap.size ≠ b:=by omega
  clear h;obtain ⟨sb,su,sv,si⟩:=S
  simp only at *
  have c1:=s0.blk.cell 1;have c2:=s0.blk.cell 2;have f1:=s0.blk.free 1
  go_enter_defers Tryz.func14,Tryz.ntmps14
  go_wp2_with fail
  generalize w.alloc (.cells #[.int .i64 0] 27) = w0 at *
  by_cases hx : su < sv
  · have hq : ((su : Int) == (sv : Int)) = false:=by rw [beq_eq_false_iff_ne];omega
    have hr : nextD size ⟨sb,su,sv,si⟩ = (su + 1,0,⟨sb,su + 1,sv,si⟩):=by unfold nextD;rw [if_pos hx]
    have HR:=Lib.hid hr;have H0:=Lib.hid s0;have K0:=Lib.hid k0;clear hr s0 k0
    go_quiet (fail)
    have s9:=H0.out.drewN nq;have k9:=K0.out.below (below_drewN (Below.refl _ _) nq) K0.out.lt
    generalize w0.drewN nq = wq at *
    have e1 : wq.cell? ⟨b,1,none⟩ = some (.int .i64 (su : Nat)):=s9.blk.cell 1;have g1:=s9.blk.free 1;have s1 : SW w0 F b g size ⟨sb,su + 1,sv,si⟩ E F (wq.setCell ⟨b,1,none⟩ (.int .i64 ((su : Int) + 1))):=s9.set_ (u':=su + 1) (v':=sv) (i':=si) (s9.blk.set_ 1 (.int .i64 ((su : Int) + 1)));have k1:=k9.far (p:=⟨b,1,none⟩) hne (.int .i64 ((su : Int) + 1));have f0 : wq.frozen? ⟨w.heap.size,0,none⟩ = false:=k9.free 0;have f00 : wq.cell? ⟨w.heap.size,0,none⟩ = some (.int .i64 0):=k9.cell 0;have d1 : World.cell? _ ⟨b,1,none⟩ = some (.int .i64 ((su : Int) + 1)):=s1.blk.cell 1;have H1:=Lib.hid s1;have K1:=Lib.hid k1;clear s1 k1 s9 k9 H0 K0;go_wp2_with fail;have c4 : World.cell? _ _ = some (.int .i64 0):=(K1.out.set_ 0 (.int .i64 0)).cell 0;refine leaves_cons (f:=38) (args:=#[.pointer (some ⟨w.heap.size,0,none⟩)]) (by simp) (by simp [go_sem]) ?_;refine (caught_none _ _).mono ?_;rintro e u' w'' ⟨rfl,rfl,rfl⟩;refine ⟨.tuple #[.int .i64 ((su : Int) + 1),.int .i64 0],by simp [results,Tryz.results14,go_sem,c4],?_⟩;rw [HR.out];exact ⟨rfl,H1.out.err hbw hsz hlt hf 0 (.int .i64 0)⟩
  · obtain rfl : su = sv:=by omega
    have hq : ((su : Int) == (su : Int)) = true:=by simp
    by_cases h9 : 96≤su
    · have hr : nextD size ⟨sb,su,su,si⟩ = (0,7,⟨sb,su,su,si⟩):=by unfold nextD;rw [if_neg hx,if_pos h9]
      have HR:=Lib.hid hr;have hd : decide ((su : Int) < ((min (su + 8) 96 : Nat) : Int)) = false:=decide_eq_false (by omega)
      have hdl : ¬ (su : Int) < ((min (su + 8) 96 : Nat) : Int):=by omega
      have H0:=Lib.hid s0;have K0:=Lib.hid k0;clear hr s0 k0
      go_quiet (fail)
      have H1:=Lib.hid (H0.out.drewN nq);have K1:=Lib.hid (K0.out.below (below_drewN (Below.refl _ _) nq) K0.out.lt)
      generalize w0.drewN nq = wq at *
      have e1 : wq.cell? ⟨b,1,none⟩ = some (.int .i64 (su : Nat)):=H1.out.blk.cell 1;have e2 : wq.cell? ⟨b,2,none⟩ = some (.int .i64 (su : Nat)):=H1.out.blk.cell 2;go_wp2_with fail;refine (must_no (b:=decide ((su : Int) < 96)) (decide_eq_false (by omega)) _ _).mono ?_;rintro e w2 ⟨rfl,rfl⟩;go_wp2_with fail;refine leaves_cons (f:=38) (args:=#[.pointer (some ⟨w.heap.size,0,none⟩)]) (by simp) (by simp [go_sem]) ?_;refine (caught_panic w.heap.size 7 [] (.int .i64 0) _ (K1.out.cell 0) (K1.out.free 0)).mono ?_;rintro e u' w'' ⟨rfl,rfl,rfl⟩;have k9:=(K1.out.alloc (.cells #[.int .i64 7] 113)).set_ 0 (.int .i64 7);have c9 : World.cell? _ _ = some (.int .i64 7):=k9.cell 0;have s9:=(H1.out.below ((Below.refl _ _).alloc (Nat.le_refl _) (.cells #[.int .i64 7] 113))).err hbw hsz hlt hf 0 (.int .i64 7);refine ⟨.tuple #[.int .i64 0,.int .i64 7],by simp [results,Tryz.results14,go_sem,c9],?_⟩;rw [HR.out];exact ⟨rfl,s9⟩
    · obtain ⟨M,hM⟩ : ∃ M,M = min (su + 8) 96:=⟨_,rfl⟩
      have hM9 : M≤96:=by omega
      rcases Nat.lt_or_ge 96 (su + 8) with h8 | h8
      · have hV : (M : Int) = 96:=by omega
        have hv8 : 96 < (su : Int) + 8:=by omega
        by_cases hroom : sb.length + (frm (told 1 M)).length≤size
        · have hr : nextD size ⟨sb,su,su,si⟩ = (su + 1,0,⟨sb ++ frm (told 1 M),su + 1,M,si⟩):=by
            unfold nextD
            rw [if_neg hx,if_neg h9]
            simp only
            rw [← hM,if_pos hroom]
          have hw : writeM size sb [] (told 1 M) = (0,sb ++ frm (told 1 M),[]):=by rw [told_write,if_pos hroom]
          have HR:=Lib.hid hr;have HW:=Lib.hid hw;have H0:=Lib.hid s0;have K0:=Lib.hid k0;clear hr hw s0 k0
          go_quiet (fail)
          have H1:=Lib.hid (H0.out.drewN nq);have K1:=Lib.hid (K0.out.below (below_drewN (Below.refl _ _) nq) K0.out.lt)
          generalize w0.drewN nq = wq at *
          have e1 : wq.cell? ⟨b,1,none⟩ = some (.int .i64 (su : Nat)):=H1.out.blk.cell 1;have e2 : wq.cell? ⟨b,2,none⟩ = some (.int .i64 (su : Nat)):=H1.out.blk.cell 2;go_wp2_with fail;refine (must_yes (b:=decide ((su : Int) < 96)) (decide_eq_true (by omega)) _ _).mono ?_;rintro e w2 ⟨rfl,rfl⟩;go_wp2_with fail;refine (told_lit 1 1 (96) M rfl (by omega) (by omega) _).mono ?_;rintro e w2 ⟨A2,n2,c2',rfl,o2,b2⟩;have s2:=H1.out.below b2;have k2:=K1.out.below b2 K1.out.lt;have hle:=ownsRow_le o2.2;go_wp2_with fail;refine (write_any A2 n2 c2' _ (told 1 M) _ b g size su su si sb E w2 s2.blk s2.disk hl hs o2.rd (Nat.le_refl _) hle.1 hle.2).mono ?_;rw [HW.out];rintro e w3 ⟨he,d3⟩;obtain rfl : e = .returned (.tuple #[]):=he;have k3:=d3.kept k2 (s2.nk hsz hnF);obtain ⟨F3,s3⟩:=s2.op d3;have s4 : SW w0 F b g size ⟨_,su,M,si⟩ E F3 (World.setCell _ ⟨b,2,none⟩ (.int .i64 (96))):=s3.set_ (u':=su) (v':=M) (i':=si) (show Blk _ b _ (sc g su M si E) by rw [← hV];exact s3.blk.set_ 2 (.int .i64 (M : Nat)));have e4 : World.cell? _ ⟨b,1,none⟩ = some (.int .i64 (su : Nat)):=s4.blk.cell 1;have f4:=s4.blk.free 1;have g3:=s3.blk.free 2;have s5 : SW w0 F b g size ⟨_,su + 1,M,si⟩ E F3 (World.setCell _ ⟨b,1,none⟩ (.int .i64 ((su : Int) + 1))):=s4.set_ (u':=su + 1) (v':=M) (i':=si) (s4.blk.set_ 1 (.int .i64 ((su : Int) + 1)));have e5 : World.cell? _ ⟨b,1,none⟩ = some (.int .i64 ((su : Int) + 1)):=s5.blk.cell 1;have e3 : w3.cell? ⟨b,1,none⟩ = some (.int .i64 (su : Nat)):=s3.blk.cell 1;have g1 : w3.frozen? ⟨b,1,none⟩ = false:=s3.blk.free 1
          have e6 : w3.cell? ⟨b,2,none⟩ = some (.int .i64 (su : Nat)):=s3.blk.cell 2;have z0 : w3.cell? ⟨w.heap.size,0,none⟩ = some (.int .i64 0):=k3.cell 0;have z1 : w3.frozen? ⟨w.heap.size,0,none⟩ = false:=k3.free 0;have k4:=(k3.far (p:=⟨b,2,none⟩) hne (.int .i64 (96))).far (p:=⟨b,1,none⟩) hne (.int .i64 ((su : Int) + 1));have f5:=k4.free 0;have H5:=Lib.hid s5;have K4:=Lib.hid k4;clear s2 s3 s4 s5 k2 k3 k4 d3 o2;go_wp2_with fail;have c4 : World.cell? _ _ = some (.int .i64 0):=(K4.out.set_ 0 (.int .i64 0)).cell 0;refine leaves_cons (f:=38) (args:=#[.pointer (some ⟨w.heap.size,0,none⟩)]) (by simp) (by simp [go_sem]) ?_;refine (caught_none _ _).mono ?_;rintro e u' w'' ⟨rfl,rfl,rfl⟩;refine ⟨.tuple #[.int .i64 ((su : Int) + 1),.int .i64 0],by simp [results,Tryz.results14,go_sem,c4],?_⟩;rw [HR.out];exact ⟨rfl,H5.out.err hbw hsz hlt hf 0 (.int .i64 0)⟩
        · have hr : nextD size ⟨sb,su,su,si⟩ = (0,7,⟨sb,su,su,si⟩):=by
            unfold nextD
            rw [if_neg hx,if_neg h9]
            simp only
            rw [← hM,if_neg hroom]
          have hw : writeM size sb [] (told 1 M) = (7,sb,[]):=by rw [told_write,if_neg hroom]
          have HR:=Lib.hid hr;have HW:=Lib.hid hw;have H0:=Lib.hid s0;have K0:=Lib.hid k0;clear hr hw s0 k0
          go_quiet (fail)
          have H1:=Lib.hid (H0.out.drewN nq);have K1:=Lib.hid (K0.out.below (below_drewN (Below.refl _ _) nq) K0.out.lt)
          generalize w0.drewN nq = wq at *
          have e1 : wq.cell? ⟨b,1,none⟩ = some (.int .i64 (su : Nat)):=H1.out.blk.cell 1;have e2 : wq.cell? ⟨b,2,none⟩ = some (.int .i64 (su : Nat)):=H1.out.blk.cell 2;go_wp2_with fail;refine (must_yes (b:=decide ((su : Int) < 96)) (decide_eq_true (by omega)) _ _).mono ?_;rintro e w2 ⟨rfl,rfl⟩;go_wp2_with fail;refine (told_lit 1 1 (96) M rfl (by omega) (by omega) _).mono ?_;rintro e w2 ⟨A2,n2,c2',rfl,o2,b2⟩;have s2:=H1.out.below b2;have k2:=K1.out.below b2 K1.out.lt;have hle:=ownsRow_le o2.2;go_wp2_with fail;refine (write_any A2 n2 c2' _ (told 1 M) _ b g size su su si sb E w2 s2.blk s2.disk hl hs o2.rd (Nat.le_refl _) hle.1 hle.2).mono ?_;rw [HW.out];rintro e w3 ⟨he,d3⟩;obtain rfl : e = .panicked [{ v:=flt ((7 : Nat) : Int),recovered:=false }]:=he;have k3:=d3.kept k2 (s2.nk hsz hnF);obtain ⟨F3,s3⟩:=s2.op d3;go_wp2_with fail;refine leaves_cons (f:=38) (args:=#[.pointer (some ⟨w.heap.size,0,none⟩)]) (by simp) (by simp [go_sem]) ?_;refine (caught_panic w.heap.size 7 [] (.int .i64 0) _ (k3.cell 0) (k3.free 0)).mono ?_;rintro e u' w'' ⟨rfl,rfl,rfl⟩;have k9:=(k3.alloc (.cells #[.int .i64 7] 113)).set_ 0 (.int .i64 7);have c9 : World.cell? _ _ = some (.int .i64 7):=k9.cell 0;have s9:=(s3.below ((Below.refl _ _).alloc (Nat.le_refl _) (.cells #[.int .i64 7] 113))).err hbw hsz hlt hf 0 (.int .i64 7);refine ⟨.tuple #[.int .i64 0,.int .i64 7],by simp [results,Tryz.results14,go_sem,c9],?_⟩;rw [HR.out];exact ⟨rfl,s9⟩
      · have hV : (M : Int) = (su : Int) + 8:=by omega
        have hv8 : ¬ 96 < (su : Int) + 8:=by omega
        by_cases hroom : sb.length + (frm (told 1 M)).length≤size
        · have hr : nextD size ⟨sb,su,su,si⟩ = (su + 1,0,⟨sb ++ frm (told 1 M),su + 1,M,si⟩):=by
            unfold nextD
            rw [if_neg hx,if_neg h9]
            simp only
            rw [← hM,if_pos hroom]
          have hw : writeM size sb [] (told 1 M) = (0,sb ++ frm (told 1 M),[]):=by rw [told_write,if_pos hroom]
          have HR:=Lib.hid hr;have HW:=Lib.hid hw;have H0:=Lib.hid s0;have K0:=Lib.hid k0;clear hr hw s0 k0
          go_quiet (fail)
          have H1:=Lib.hid (H0.out.drewN nq);have K1:=Lib.hid (K0.out.below (below_drewN (Below.refl _ _) nq) K0.out.lt)
          generalize w0.drewN nq = wq at *
          have e1 : wq.cell? ⟨b,1,none⟩ = some (.int .i64 (su : Nat)):=H1.out.blk.cell 1;have e2 : wq.cell? ⟨b,2,none⟩ = some (.int .i64 (su : Nat)):=H1.out.blk.cell 2;go_wp2_with fail;refine (must_yes (b:=decide ((su : Int) < (su : Int) + 8)) (decide_eq_true (by omega)) _ _).mono ?_;rintro e w2 ⟨rfl,rfl⟩;go_wp2_with fail;refine (told_lit 1 1 ((su : Int) + 8) M rfl (by omega) (by omega) _).mono ?_;rintro e w2 ⟨A2,n2,c2',rfl,o2,b2⟩;have s2:=H1.out.below b2;have k2:=K1.out.below b2 K1.out.lt;have hle:=ownsRow_le o2.2;go_wp2_with fail;refine (write_any A2 n2 c2' _ (told 1 M) _ b g size su su si sb E w2 s2.blk s2.disk hl hs o2.rd (Nat.le_refl _) hle.1 hle.2).mono ?_;rw [HW.out];rintro e w3 ⟨he,d3⟩;obtain rfl : e = .returned (.tuple #[]):=he;have k3:=d3.kept k2 (s2.nk hsz hnF);obtain ⟨F3,s3⟩:=s2.op d3;have s4 : SW w0 F b g size ⟨_,su,M,si⟩ E F3 (World.setCell _ ⟨b,2,none⟩ (.int .i64 ((su : Int) + 8))):=s3.set_ (u':=su) (v':=M) (i':=si) (show Blk _ b _ (sc g su M si E) by rw [← hV];exact s3.blk.set_ 2 (.int .i64 (M : Nat)));have e4 : World.cell? _ ⟨b,1,none⟩ = some (.int .i64 (su : Nat)):=s4.blk.cell 1;have f4:=s4.blk.free 1;have g3:=s3.blk.free 2;have s5 : SW w0 F b g size ⟨_,su + 1,M,si⟩ E F3 (World.setCell _ ⟨b,1,none⟩ (.int .i64 ((su : Int) + 1))):=s4.set_ (u':=su + 1) (v':=M) (i':=si) (s4.blk.set_ 1 (.int .i64 ((su : Int) + 1)));have e5 : World.cell? _ ⟨b,1,none⟩ = some (.int .i64 ((su : Int) + 1)):=s5.blk.cell 1;have e3 : w3.cell? ⟨b,1,none⟩ = some (.int .i64 (su : Nat)):=s3.blk.cell 1
          have g1 : w3.frozen? ⟨b,1,none⟩ = false:=s3.blk.free 1;have e6 : w3.cell? ⟨b,2,none⟩ = some (.int .i64 (su : Nat)):=s3.blk.cell 2;have z0 : w3.cell? ⟨w.heap.size,0,none⟩ = some (.int .i64 0):=k3.cell 0;have z1 : w3.frozen? ⟨w.heap.size,0,none⟩ = false:=k3.free 0;have k4:=(k3.far (p:=⟨b,2,none⟩) hne (.int .i64 ((su : Int) + 8))).far (p:=⟨b,1,none⟩) hne (.int .i64 ((su : Int) + 1));have f5:=k4.free 0;have H5:=Lib.hid s5;have K4:=Lib.hid k4;clear s2 s3 s4 s5 k2 k3 k4 d3 o2;go_wp2_with fail;have c4 : World.cell? _ _ = some (.int .i64 0):=(K4.out.set_ 0 (.int .i64 0)).cell 0;refine leaves_cons (f:=38) (args:=#[.pointer (some ⟨w.heap.size,0,none⟩)]) (by simp) (by simp [go_sem]) ?_;refine (caught_none _ _).mono ?_;rintro e u' w'' ⟨rfl,rfl,rfl⟩;refine ⟨.tuple #[.int .i64 ((su : Int) + 1),.int .i64 0],by simp [results,Tryz.results14,go_sem,c4],?_⟩;rw [HR.out];exact ⟨rfl,H5.out.err hbw hsz hlt hf 0 (.int .i64 0)⟩
        · have hr : nextD size ⟨sb,su,su,si⟩ = (0,7,⟨sb,su,su,si⟩):=by
            unfold nextD
            rw [if_neg hx,if_neg h9]
            simp only
            rw [← hM,if_neg hroom]
          have hw : writeM size sb [] (told 1 M) = (7,sb,[]):=by rw [told_write,if_neg hroom]
          have HR:=Lib.hid hr;have HW:=Lib.hid hw;have H0:=Lib.hid s0;have K0:=Lib.hid k0;clear hr hw s0 k0
          go_quiet (fail)
          have H1:=Lib.hid (H0.out.drewN nq);have K1:=Lib.hid (K0.out.below (below_drewN (Below.refl _ _) nq) K0.out.lt)
          generalize w0.drewN nq = wq at *
          have e1 : wq.cell? ⟨b,1,none⟩ = some (.int .i64 (su : Nat)):=H1.out.blk.cell 1;have e2 : wq.cell? ⟨b,2,none⟩ = some (.int .i64 (su : Nat)):=H1.out.blk.cell 2;go_wp2_with fail;refine (must_yes (b:=decide ((su : Int) < (su : Int) + 8)) (decide_eq_true (by omega)) _ _).mono ?_;rintro e w2 ⟨rfl,rfl⟩;go_wp2_with fail;refine (told_lit 1 1 ((su : Int) + 8) M rfl (by omega) (by omega) _).mono ?_;rintro e w2 ⟨A2,n2,c2',rfl,o2,b2⟩;have s2:=H1.out.below b2;have k2:=K1.out.below b2 K1.out.lt;have hle:=ownsRow_le o2.2;go_wp2_with fail;refine (write_any A2 n2 c2' _ (told 1 M) _ b g size su su si sb E w2 s2.blk s2.disk hl hs o2.rd (Nat.le_refl _) hle.1 hle.2).mono ?_;rw [HW.out];rintro e w3 ⟨he,d3⟩;obtain rfl : e = .panicked [{ v:=flt ((7 : Nat) : Int),recovered:=false }]:=he;have k3:=d3.kept k2 (s2.nk hsz hnF);obtain ⟨F3,s3⟩:=s2.op d3;go_wp2_with fail;refine leaves_cons (f:=38) (args:=#[.pointer (some ⟨w.heap.size,0,none⟩)]) (by simp) (by simp [go_sem]) ?_;refine (caught_panic w.heap.size 7 [] (.int .i64 0) _ (k3.cell 0) (k3.free 0)).mono ?_;rintro e u' w'' ⟨rfl,rfl,rfl⟩;have k9:=(k3.alloc (.cells #[.int .i64 7] 113)).set_ 0 (.int .i64 7);have c9 : World.cell? _ _ = some (.int .i64 7):=k9.cell 0;have s9:=(s3.below ((Below.refl _ _).alloc (Nat.le_refl _) (.cells #[.int .i64 7] 113))).err hbw hsz hlt hf 0 (.int .i64 7);refine ⟨.tuple #[.int .i64 0,.int .i64 7],by simp [results,Tryz.results14,go_sem,c9],?_⟩;rw [HR.out];exact ⟨rfl,s9⟩
end Sto
end Go.Proofs.YtfpenfgmpbdakaaGreat

namespace Go.Proofs.YtfpenfgmpbdakaaGreat
set_option linter.unusedVariables false
set_option linter.unusedSimpArgs false
set_option maxRecDepth 100000
open Go.RowKit
open Disk
namespace Sto
open _root_.Go.Proofs.YtfpenfgmpbdakaaGreat.Log (writeM LogEnd lwrite_any)
open _root_.Go.Proofs.YtfpenfgmpbdakaaGreat.Frame (frm frms frms_nil frms_cons frms_snoc frms_append frm_length frm_pos Parts AllF)
set_option maxHeartbeats 2000000 in
theorem bump_any (S : Sd) (E : Value) (F : Nat→Prop) (b g size : Nat) (w : World) (h : StoAt w F b g size S E) (hi : S.inc≤1099511627776) (hs : size≤16384) (hl : S.b.length≤16384) :
    Calls Tryz.prog 16 #[.pointer (some ⟨b,0,none⟩)] w (NumOp w F b g size E (bumpD size S)):=by
  have k0:=Blk.new w 27 #[.int .i64 0];have hbw : Below w.heap.size w (w.alloc (.cells #[.int .i64 0] 27)):=(Below.refl _ _).alloc (Nat.le_refl _) _
  have hsz : w.heap.size < (w.alloc (.cells #[.int .i64 0] 27)).heap.size:=by simp
  have s0:=(h.below hbw).sw;have hlt : b < w.heap.size:=h.2.1.lt;have hf : ∀ k,F k→k < w.heap.size:=h.1.lt
  have hnF : ¬ F w.heap.size:=fun q=>by have:=hf _ q;omega
  have hne : w.heap.size ≠ b:=by omega
  clear h;obtain ⟨sb,su,sv,si⟩:=S
  simp only at *
  have c3:=s0.blk.cell 3;have f3:=s0.blk.free 3
  go_enter_defers Tryz.func16,Tryz.ntmps16
  go_wp2_with fail
  generalize w.alloc (.cells #[.int .i64 0] 27) = w0 at *
  by_cases h9 : 1099511627776≤si
  · have hr : bumpD size ⟨sb,su,sv,si⟩ = (0,7,⟨sb,su,sv,si⟩):=by unfold bumpD;rw [if_pos h9]
    have HR:=Lib.hid hr;have hd : decide ((si : Int) < 1099511627776) = false:=decide_eq_false (by omega)
    have hlt9 : ¬ (si : Int) < 1099511627776:=by omega
    clear hr;go_wp2_with fail;refine (must_bad _ _).mono ?_;rintro e w2 ⟨rfl,rfl⟩;go_wp2_with fail;refine leaves_cons (f:=38) (args:=#[.pointer (some ⟨w.heap.size,0,none⟩)]) (by simp) (by simp [go_sem]) ?_;refine (caught_panic w.heap.size 7 [] (.int .i64 0) _ (k0.cell 0) (k0.free 0)).mono ?_;rintro e u' w'' ⟨rfl,rfl,rfl⟩;have k9:=(k0.alloc (.cells #[.int .i64 7] 113)).set_ 0 (.int .i64 7);have c9 : World.cell? _ _ = some (.int .i64 7):=k9.cell 0;have s9:=(s0.below ((Below.refl _ _).alloc (Nat.le_refl _) (.cells #[.int .i64 7] 113))).err hbw hsz hlt hf 0 (.int .i64 7);refine ⟨.tuple #[.int .i64 0,.int .i64 7],by simp [results,Tryz.results16,go_sem,c9],?_⟩;rw [HR.out];exact ⟨rfl,s9⟩
  · have hd : decide ((si : Int) < 1099511627776) = true:=decide_eq_true (by omega)
    have hlt9 : (si : Int) < 1099511627776:=by omega
    by_cases hroom : sb.length + (frm (told 2 (si + 1))).length≤size
    · have hr : bumpD size ⟨sb,su,sv,si⟩ = (si + 1,0,⟨sb ++ frm (told 2 (si + 1)),su,sv,si + 1⟩):=by
        unfold bumpD
        rw [if_neg h9]
        simp only
        rw [if_pos hroom]
      have hw : writeM size sb [] (told 2 (si + 1)) = (0,sb ++ frm (told 2 (si + 1)),[]):=by rw [told_write,if_pos hroom]
      have HR:=Lib.hid hr;have HW:=Lib.hid hw;clear hr hw;go_wp2_with fail;refine (must_yes (b:=decide ((si : Int) < 1099511627776)) hd _ _).mono ?_;rintro e w2 ⟨rfl,rfl⟩;go_wp2_with fail;refine (told_lit 2 2 _ (si + 1) rfl (by first | rfl | omega) (by omega) _).mono ?_;rintro e w2 ⟨A2,n2,c2',rfl,o2,b2⟩;have s2:=s0.below b2;have k2:=k0.below b2 k0.lt;have hle:=ownsRow_le o2.2;go_wp2_with fail;refine (write_any A2 n2 c2' _ (told 2 (si + 1)) _ b g size su sv si sb E w2 s2.blk s2.disk hl hs o2.rd (Nat.le_refl _) hle.1 hle.2).mono ?_;rw [HW.out];rintro e w3 ⟨he,d3⟩;obtain rfl : e = .returned (.tuple #[]):=he;have k3:=d3.kept k2 (s2.nk hsz hnF);obtain ⟨F3,s3⟩:=s2.op d3;have e3 : w3.cell? ⟨b,3,none⟩ = some (.int .i64 (si : Nat)):=s3.blk.cell 3;have z0 : w3.cell? ⟨w.heap.size,0,none⟩ = some (.int .i64 0):=k3.cell 0;have z1 : w3.frozen? ⟨w.heap.size,0,none⟩ = false:=k3.free 0;have g3:=s3.blk.free 3;have s5 : SW w0 F b g size ⟨_,su,sv,si + 1⟩ E F3 (World.setCell _ ⟨b,3,none⟩ (.int .i64 ((si : Int) + 1))):=s3.set_ (u':=su) (v':=sv) (i':=si + 1) (s3.blk.set_ 3 (.int .i64 ((si : Int) + 1)));have e5 : World.cell? _ ⟨b,3,none⟩ = some (.int .i64 ((si : Int) + 1)):=s5.blk.cell 3;have k4:=k3.far (p:=⟨b,3,none⟩) hne (.int .i64 ((si : Int) + 1));have f5:=k4.free 0;have H5:=Lib.hid s5;have K4:=Lib.hid k4;clear s2 s3 s5 s0 k0 k2 k3 k4 d3 o2 hd hlt9;go_wp2_with fail;have c4 : World.cell? _ _ = some (.int .i64 0):=(K4.out.set_ 0 (.int .i64 0)).cell 0;refine leaves_cons (f:=38) (args:=#[.pointer (some ⟨w.heap.size,0,none⟩)]) (by simp) (by simp [go_sem]) ?_
      refine (caught_none _ _).mono ?_;rintro e u' w'' ⟨rfl,rfl,rfl⟩;refine ⟨.tuple #[.int .i64 ((si : Int) + 1),.int .i64 0],by simp [results,Tryz.results16,go_sem,c4],?_⟩;rw [HR.out];exact ⟨rfl,H5.out.err hbw hsz hlt hf 0 (.int .i64 0)⟩
    · have hr : bumpD size ⟨sb,su,sv,si⟩ = (0,7,⟨sb,su,sv,si⟩):=by
        unfold bumpD
        rw [if_neg h9]
        simp only
        rw [if_neg hroom]
      have hw : writeM size sb [] (told 2 (si + 1)) = (7,sb,[]):=by rw [told_write,if_neg hroom]
      have HR:=Lib.hid hr;have HW:=Lib.hid hw;clear hr hw;go_wp2_with fail;refine (must_yes (b:=decide ((si : Int) < 1099511627776)) hd _ _).mono ?_;rintro e w2 ⟨rfl,rfl⟩;go_wp2_with fail;refine (told_lit 2 2 _ (si + 1) rfl (by first | rfl | omega) (by omega) _).mono ?_;rintro e w2 ⟨A2,n2,c2',rfl,o2,b2⟩;have s2:=s0.below b2;have k2:=k0.below b2 k0.lt;have hle:=ownsRow_le o2.2;go_wp2_with fail;refine (write_any A2 n2 c2' _ (told 2 (si + 1)) _ b g size su sv si sb E w2 s2.blk s2.disk hl hs o2.rd (Nat.le_refl _) hle.1 hle.2).mono ?_;rw [HW.out];rintro e w3 ⟨he,d3⟩;obtain rfl : e = .panicked [{ v:=flt ((7 : Nat) : Int),recovered:=false }]:=he;have k3:=d3.kept k2 (s2.nk hsz hnF);obtain ⟨F3,s3⟩:=s2.op d3;go_wp2_with fail;refine leaves_cons (f:=38) (args:=#[.pointer (some ⟨w.heap.size,0,none⟩)]) (by simp) (by simp [go_sem]) ?_;refine (caught_panic w.heap.size 7 [] (.int .i64 0) _ (k3.cell 0) (k3.free 0)).mono ?_;rintro e u' w'' ⟨rfl,rfl,rfl⟩;have k9:=(k3.alloc (.cells #[.int .i64 7] 113)).set_ 0 (.int .i64 7);have c9 : World.cell? _ _ = some (.int .i64 7):=k9.cell 0;have s9:=(s3.below ((Below.refl _ _).alloc (Nat.le_refl _) (.cells #[.int .i64 7] 113))).err hbw hsz hlt hf 0 (.int .i64 7);refine ⟨.tuple #[.int .i64 0,.int .i64 7],by simp [results,Tryz.results16,go_sem,c9],?_⟩;rw [HR.out];exact ⟨rfl,s9⟩
end Sto
end Go.Proofs.YtfpenfgmpbdakaaGreat

namespace Go.Proofs.YtfpenfgmpbdakaaGreat
set_option linter.unusedVariables false
set_option linter.unusedSimpArgs false
set_option maxRecDepth 100000
open Go.RowKit
open Disk
namespace Sto
open _root_.Go.Proofs.YtfpenfgmpbdakaaGreat.Log (writeM LogEnd lwrite_any)
open _root_.Go.Proofs.YtfpenfgmpbdakaaGreat.Frame (frm frms frms_nil frms_cons frms_snoc frms_append frm_length frm_pos Parts)
structure SL (w : World) (F : Nat→Prop) (b g size : Nat) (S : Sd) (w1 : World) : Prop where
  at_ : StoAt w1 F b g size S (.slice none 0 0)
  fs : ∀ k,F k→w.heap.size≤k
  hb : w.heap.size≤b
  bel : Below w.heap.size w w1
theorem SL.op {w w1 w2 : World} {F : Nat→Prop} {b g size : Nat} {S S' : Sd} (h : SL w F b g size S w1) (ho : StoOp w1 F b g size S' (.slice none 0 0) w2) : ∃ F',SL w F' b g size S' w2:=by
  obtain ⟨F',a,o,gr⟩:=ho;refine ⟨F',a,fun k hk=>?_,h.hb,h.bel.trans (o.to_below (fun k hk=>?_) h.bel.size)⟩
  · rcases gr k hk with q | q
    · exact h.fs k q
    · have:=h.bel.size;omega
  · rcases hk with q | rfl
    · exact h.fs k q
    · exact h.hb
theorem SL.below {w w1 w2 : World} {F : Nat→Prop} {b g size : Nat} {S : Sd} (h : SL w F b g size S w1) (hb : Below w1.heap.size w1 w2) : SL w F b g size S w2:=⟨h.at_.below hb,h.fs,h.hb,h.bel.trans (hb.mono h.bel.size)⟩
theorem SL.dl {w w1 : World} {F : Nat→Prop} {b g size : Nat} {S : Sd} (h : SL w F b g size S w1) : DL w F g size S.b [] w1:=⟨h.at_.1,h.fs,h.bel⟩
theorem open_recs (l : List (List UInt8)) (F : Nat→Prop) (g size u i : Nat) (w w1 : World) (hD : DL w F g size (frms l) [] w1) (hx : ∀ x ∈ l,x.length≤4096∧x.head? ≠ some 3) (hm : (frms l).length≤size) (hs : size≤16384) (hr : recsM (0,0) l = some (u,i)) :
    Calls Tryz.prog 12 #[.pointer (some ⟨g,0,none⟩)] w1 fun e w2=>∃ b F',e = .returned (.tuple #[.pointer (some ⟨b,0,none⟩),.int .i64 0])∧SL w F' b g size ⟨frms l,u,u,i⟩ w2:=by
  have hp : Parts (frms l) l []:=⟨by rw [List.append_nil],fun x h=>(hx x h).1,3,rfl⟩;refine (open_any F g size (frms l) w1 hD.1 hm hs (fun l' r' h x hx'=>?_)).mono ?_
  · obtain ⟨rfl,rfl⟩:=hp.same h
    exact (hx x hx').2
  · rintro e w2 ⟨l',r',F',hp',o,gr,h⟩
    obtain ⟨rfl,rfl⟩:=hp.same hp';rw [hr] at h;obtain ⟨b,he,ha,hb⟩:=h;have hz:=hD.2.2.size;exact ⟨b,F',he,ha,fun k hk=>by rcases gr k hk with q | q;exact hD.2.1 k q;omega,by omega,hD.2.2.trans (o.to_below hD.2.1 hz)⟩
theorem told_frm (k : UInt8) (n : Nat) (hn : n < 128) : (frm (told k n)).length = 8:=by
  rw [frm_length]
  have : Vint.enc n = [UInt8.ofNat n]:=by unfold Vint.enc Vint.encF;rw [if_pos hn]
  unfold told
  rw [this]
  rfl
theorem num_told (most n : Nat) (h : n≤most) (h2 : n≤1099511627776) : numM most (Vint.enc n) = some n:=by
  have:=Vint.dec_enc (n:=n) (by unfold Vint.top;exact h2) []
  rw [List.append_nil] at this
  unfold numM
  rw [this]
  simp [h]
theorem rec_told1 (s : Nat × Nat) (n : Nat) (h : n≤96) : recM s (told 1 n) = some (max s.1 n,s.2):=by
  unfold recM told
  simp only [if_pos,num_told 96 n h (by omega)]
  rfl
theorem rec_told2 (s : Nat × Nat) (n : Nat) (h : n≤1099511627776) : recM s (told 2 n) = some (s.1,max s.2 n):=by
  rw [show told 2 n = 2 :: Vint.enc n from rfl,recM_cons,if_neg (by decide),if_pos rfl,num_told _ n h h]
  rfl
theorem al1 : nextD 100 ⟨[],0,0,0⟩ = (1,0,⟨frms [told 1 8],1,8,0⟩):=by
  unfold nextD
  simp only
  rw [if_neg (by omega),if_neg (by omega),if_pos (by rw [told_frm _ _ (by omega)];simp),frms_cons,frms_nil]
  simp
theorem al2 : nextD 100 ⟨frms [told 1 8],1,8,0⟩ = (2,0,⟨frms [told 1 8],2,8,0⟩):=by
  unfold nextD
  simp only
  rw [if_pos (by omega)]
theorem al3 : bumpD 100 ⟨frms [told 1 8],2,8,0⟩ = (1,0,⟨frms [told 1 8,told 2 1],2,8,1⟩):=by
  unfold bumpD
  simp only
  rw [if_neg (by omega),if_pos (by rw [frms_cons,frms_nil,List.append_nil,told_frm _ _ (by omega),told_frm _ _ (by omega)];omega),show [told 1 8,told 2 1] = [told 1 8] ++ [told 2 1] from rfl,frms_snoc]
theorem al4 : recsM (0,0) [told 1 8,told 2 1] = some (8,1):=by
  show (match recM (0,0) (told 1 8) with | none=>none | some s'=>recsM s' [told 2 1]) = some (8,1)
  rw [rec_told1 _ _ (by omega)]
  show (match recM (8,0) (told 2 1) with | none=>none | some s'=>recsM s' []) = some (8,1)
  rw [rec_told2 _ _ (by omega)]
  rfl
theorem al_len : (frms [told 1 8,told 2 1]).length = 16:=by rw [frms_cons,frms_cons,frms_nil,List.append_nil,List.length_append,told_frm _ _ (by omega),told_frm _ _ (by omega)]
theorem al5 : nextD 100 ⟨frms [told 1 8,told 2 1],8,8,1⟩ = (9,0,⟨frms [told 1 8,told 2 1,told 1 16],9,16,1⟩):=by
  unfold nextD
  simp only
  rw [if_neg (by omega),if_neg (by omega),if_pos (by rw [al_len,told_frm _ _ (by omega)];omega),show [told 1 8,told 2 1,told 1 16] = [told 1 8,told 2 1] ++ [told 1 16] from rfl,frms_snoc]
  rfl
theorem al_len2 : (frms [told 1 8,told 2 1,told 1 16]).length = 24:=by rw [show [told 1 8,told 2 1,told 1 16] = [told 1 8,told 2 1] ++ [told 1 16] from rfl,frms_snoc,List.length_append,al_len,told_frm _ _ (by omega)]
theorem al6 : bumpD 100 ⟨frms [told 1 8,told 2 1,told 1 16],9,16,1⟩ = (2,0,⟨frms [told 1 8,told 2 1,told 1 16] ++ frm (told 2 2),9,16,2⟩):=by
  unfold bumpD
  simp only
  rw [if_neg (by omega),if_pos (by rw [al_len2,told_frm _ _ (by omega)];omega)]
set_option maxRecDepth 100000 in
set_option maxHeartbeats 2000000 in
theorem alive15 (w : World) : Calls Tryz.prog 6 #[] w fun e w'=>e = .returned (.bool true)∧Below w.heap.size w w':=by
  go_enter Tryz.func6,Tryz.ntmps6
  go_wp2_with fail;refine (dnew_any 100 w (by omega) (by omega)).mono ?_;rintro e w1 ⟨g,F1,rfl,hD1,hF1,hb1⟩;have L1:=DL.of_new (Below.refl _ w) hD1 hF1 hb1;clear hD1 hb1 hF1;go_wp2_with fail;refine (open_recs [] F1 g 100 0 0 w w1 L1 (by simp) (by simp [frms_nil]) (by omega) rfl).mono ?_;rintro e w2 ⟨b2,F2,rfl,S2⟩;clear L1;go_wp2_with fail;refine (next_any _ _ F2 b2 g 100 w2 S2.at_ (Nat.le_refl 0) (Nat.zero_le _) (by omega) (by simp [frms_nil])).mono ?_;rw [show frms [] = [] from frms_nil,al1];rintro e w3 ⟨rfl,q3⟩;obtain ⟨F3,S3⟩:=S2.op q3;clear S2 q3;go_wp2_with fail;refine (next_any _ _ F3 b2 g 100 w3 S3.at_ (by simp) (by simp) (by omega) (by simp only;rw [frms_cons,frms_nil,List.append_nil,told_frm _ _ (by omega)];omega)).mono ?_;rw [al2];rintro e w4 ⟨rfl,q4⟩;obtain ⟨F4,S4⟩:=S3.op q4;clear S3 q4;go_wp2_with fail;refine (bump_any _ _ F4 b2 g 100 w4 S4.at_ (by simp) (by omega) (by simp only;rw [frms_cons,frms_nil,List.append_nil,told_frm _ _ (by omega)];omega)).mono ?_;rw [al3];rintro e w5 ⟨rfl,q5⟩;obtain ⟨F5,S5⟩:=S4.op q5;clear S4 q5;go_wp2_with fail;refine (open_recs [told 1 8,told 2 1] F5 g 100 8 1 w w5 S5.dl (by intro x hx;rcases List.mem_cons.1 hx with rfl | hx;exact ⟨by have:=told_len 1 8;omega,by simp [told]⟩;obtain rfl:=List.mem_singleton.1 hx;exact ⟨by have:=told_len 2 1;omega,by simp [told]⟩) (by rw [al_len];omega) (by omega) al4).mono ?_;rintro e w6 ⟨b6,F6,rfl,S6⟩;clear S5;go_wp2_with fail;refine (next_any _ _ F6 b6 g 100 w6 S6.at_ (by simp) (by simp) (by omega) (by simp only;rw [al_len];omega)).mono ?_
  rw [al5];rintro e w7 ⟨rfl,q7⟩;obtain ⟨F7,S7⟩:=S6.op q7;clear S6 q7;go_wp2_with fail;refine (bump_any _ _ F7 b6 g 100 w7 S7.at_ (by simp) (by omega) (by simp only;rw [al_len2];omega)).mono ?_;rw [al6];rintro e w8 ⟨rfl,q8⟩;obtain ⟨F8,S8⟩:=S7.op q8;have b8:=S8.bel;clear S7 q8 S8;go_wp2_with fail;refine (next_nil w8).mono ?_;rintro e w9 ⟨rfl,b9⟩;have b9:=b8.trans (b9.mono b8.size);clear b8;go_wp2_with fail;go_ret;exact ⟨rfl,b9⟩
end Sto
end Go.Proofs.YtfpenfgmpbdakaaGreat

namespace Go.Proofs.YtfpenfgmpbdakaaGreat
set_option linter.unusedVariables false
set_option linter.unusedSimpArgs false
set_option maxRecDepth 100000
open Go.RowKit
open Dot
set_option maxHeartbeats 1000000 in
theorem dots_any (A1 A2 : Option Addr) (n1 c1 n2 c2 B1 B2 : Nat) (l1 l2 : List Dt) (w : World) (h1 : RdD w B1 A1 n1 l1) (h2 : RdD w B2 A2 n2 l2) (hm : n1≤1000000) :
    Calls Tryz.prog 88 #[.slice A1 n1 c1,.slice A2 n2 c2] w fun e w'=>e = .returned (.bool (decide (l1 = l2)))∧∃ m,w' = w.drewN m:=by
  have H1:=Lib.hid h1.1;have H2:=Lib.hid h2.1;obtain ⟨R,hR⟩ : ∃ R,R = decide (l1 = l2):=⟨_,rfl⟩;rw [← hR];have HR:=Lib.hid hR;clear hR
  by_cases hn : n1 = n2
  case neg =>
    have hf : R = false:=by
      rw [HR.out];exact decide_eq_false (fun e=>hn (by rw [H1.out,H2.out,e]))
    subst hf
    have hnd : ¬ (n1 : Int) = (n2 : Int):=by omega
    go_enter Tryz.func88,Tryz.ntmps88
    go_wp2_with fail;go_ret;exact ⟨rfl,0,rfl⟩
  subst hn
  go_enter Tryz.func88,Tryz.ntmps88
  go_wp2_with fail
  go_loopw [13] (fun i wr=>∃ k m : Nat,k≤n1∧i = .int .i64 k∧(∀ j,j < k→l1[j]? = l2[j]?)∧wr = w.drewN m) (fun i _=>n1 - (intOf i).toNat)
  case atStart=>exact ⟨0,0,by omega,rfl,fun j hj=>by omega,rfl⟩
  case round =>
    obtain ⟨k,m,hk,rfl,hall,rfl⟩:=hrel;have HA:=Lib.hid hall;clear hall
    by_cases hlt : k < n1
    · have hkl1 : k < l1.length:=by rw [← H1.out];exact hlt
      have hkl2 : k < l2.length:=by rw [← H2.out];exact hlt
      obtain ⟨ad1,rfl,q5,q0,q1⟩:=h1.2 k _ (List.getElem?_eq_getElem hkl1);obtain ⟨ad2,rfl,p5,p0,p1⟩:=h2.2 k _ (List.getElem?_eq_getElem hkl2);have e1 : l1[k]? = some l1[k]:=List.getElem?_eq_getElem hkl1;have e2 : l2[k]? = some l2[k]:=List.getElem?_eq_getElem hkl2
      generalize l1[k] = d1 at *
      generalize l2[k] = d2 at *
      obtain ⟨x1,y1⟩:=d1;obtain ⟨x2,y2⟩:=d2
      simp only at q0 q1 p0 p1
      have E1:=Lib.hid e1;have E2:=Lib.hid e2
      have hk0 : (0 : Int)≤(k : Int):=by omega
      have hkn : (k : Int) < (n1 : Int):=by omega
      have q0' : (w.drewN m).cell? (ad1.add (k * 2)) = some (.int .i64 x1):=q0;have q1' : (w.drewN m).cell? ⟨(ad1.add (k * 2)).block,(ad1.add (k * 2)).off + 1,none⟩ = some (.int .i64 y1):=q1;have p0' : (w.drewN m).cell? (ad2.add (k * 2)) = some (.int .i64 x2):=p0;have p1' : (w.drewN m).cell? ⟨(ad2.add (k * 2)).block,(ad2.add (k * 2)).off + 1,none⟩ = some (.int .i64 y2):=p1;clear e1 e2
      by_cases ex : x1 = x2
      · by_cases ey : y1 = y2
        · subst ex ey
          go_upto_region 6 with fail
          go_quiet (fail)
          go_wp2_with fail
          go_roundw
          case rel=>exact ⟨k + 1,m + nq,by omega,by go_num,fun j hj=>by
            by_cases e : j = k
            · subst e;rw [E1.out,E2.out]
            · exact HA.out j (by omega),rfl⟩
          case measure=>simp [intOf];omega
        · have hf : R = false:=by
            rw [HR.out];refine decide_eq_false (fun e=>?_);have h3:=E1.out;rw [e,E2.out] at h3
            injection h3 with h3
            injection h3 with h3 h4
            exact ey h4.symm
          subst hf;subst ex
          go_upto_region 6 with fail
          go_quiet (fail)
          go_wp2_with fail;go_ret;exact ⟨rfl,m + nq,by simp⟩
      · have hf : R = false:=by
          rw [HR.out];refine decide_eq_false (fun e=>?_);have h3:=E1.out;rw [e,E2.out] at h3
          injection h3 with h3
          injection h3 with h3 h4
          exact ex h3.symm
        subst hf
        go_upto_region 6 with fail
        go_quiet (fail)
        go_wp2_with fail;go_ret;exact ⟨rfl,m + nq,by simp⟩
    · have hf : R = true:=by
        rw [HR.out];refine decide_eq_true (List.ext_getElem? fun i=>?_)
        by_cases hi : i < n1
        · exact HA.out i (by omega)
        · rw [List.getElem?_eq_none (by have:=H1.out;omega),List.getElem?_eq_none (by have:=H2.out;omega)]
      subst hf;go_wp2_with fail;go_ret;exact ⟨rfl,m,rfl⟩
end Go.Proofs.YtfpenfgmpbdakaaGreat

namespace Go.Proofs.YtfpenfgmpbdakaaGreat
set_option linter.unusedVariables false
set_option linter.unusedSimpArgs false
set_option maxRecDepth 100000
open Go.RowKit
open Dot Evt
set_option maxRecDepth 100000 in
set_option maxHeartbeats 2000000 in
theorem rsame07_eq (x y : EvV) (w : World) (hx : EvOk w w.heap.size x) (hy : EvOk w w.heap.size y) (he : x.e = y.e) (hm : x.m≤1000000) :
    Calls Tryz.prog 63 #[.agg x.cs,.agg y.cs] w fun e w'=>e = .returned (.bool true)∧Below w.heap.size w w':=by
  obtain ⟨ex,A1,m1,c1⟩:=x;obtain ⟨ey,A2,m2,c2⟩:=y
  simp only at he
  subst he
  have hd:=fun (w' : World) (h : Below w.heap.size w w')=>dots_any A1 A2 m1 c1 m2 c2 w.heap.size w.heap.size ex.l ex.l w' (hx.2.1.below h) (hy.2.1.below h) hm
  obtain ⟨⟨n,q⟩,t,k,wk,v,p,l⟩:=ex
  simp only [decide_true] at hd
  have HD:=Lib.hid hd;clear hd hx hy hm
  unfold EvV.cs ec
  simp only
  generalize p.getD 0 0 = p0,p.getD 1 0 = p1,p.getD 2 0 = p2,p.getD 3 0 = p3,p.getD 4 0 = p4,p.getD 5 0 = p5,p.getD 6 0 = p6
  go_enter Tryz.func63,Tryz.ntmps63
  go_upto_region 1 with fail
  refine nameW ?_;intro wv hwv;obtain ⟨b,hb⟩ : ∃ b,b = w.heap.size:=⟨_,rfl⟩;rw [← hb]
  have kb : Blk wv b 47 #[.int .i64 n,.int .i64 q,.int .i64 t,.int .i64 k,.int .i64 wk,.int .i64 v,.int .i64 p0,.int .i64 p1,.int .i64 p2,.int .i64 p3,.int .i64 p4,.int .i64 p5,.int .i64 p6,.slice A1 m1 c1]:=by rw [hwv,hb];exact (Blk.new w _ _).alloc _
  have kz : Blk wv (b + 1) 47 #[.int .i64 n,.int .i64 q,.int .i64 t,.int .i64 k,.int .i64 wk,.int .i64 v,.int .i64 p0,.int .i64 p1,.int .i64 p2,.int .i64 p3,.int .i64 p4,.int .i64 p5,.int .i64 p6,.slice A2 m2 c2]:=by
    have h:=Blk.new (w.alloc (.cells #[.int .i64 n,.int .i64 q,.int .i64 t,.int .i64 k,.int .i64 wk,.int .i64 v,.int .i64 p0,.int .i64 p1,.int .i64 p2,.int .i64 p3,.int .i64 p4,.int .i64 p5,.int .i64 p6,.slice A1 m1 c1] 47)) 47 #[.int .i64 n,.int .i64 q,.int .i64 t,.int .i64 k,.int .i64 wk,.int .i64 v,.int .i64 p0,.int .i64 p1,.int .i64 p2,.int .i64 p3,.int .i64 p4,.int .i64 p5,.int .i64 p6,.slice A2 m2 c2];rw [show (w.alloc (.cells #[.int .i64 n,.int .i64 q,.int .i64 t,.int .i64 k,.int .i64 wk,.int .i64 v,.int .i64 p0,.int .i64 p1,.int .i64 p2,.int .i64 p3,.int .i64 p4,.int .i64 p5,.int .i64 p6,.slice A1 m1 c1] 47)).heap.size = w.heap.size + 1 by simp] at h;rw [hwv,hb];exact h
  have gb : Below w.heap.size w wv:=by rw [hwv];exact ((Below.refl _ _).alloc (Nat.le_refl _) _).alloc (by simp) _
  have hD:=HD.out wv gb;have HD2:=Lib.hid hD;have HG:=Lib.hid gb;clear hwv hb gb hD HD;obtain ⟨c0,c1,c2,c3,c4,c5,c6,c7,c8,c9,c10,c11,c12,c13⟩:=ecells kb;obtain ⟨d0,d1,d2,d3,d4,d5,d6,d7,d8,d9,d10,d11,d12,d13⟩:=ecells kz;go_wp2_with fail;refine HD2.out.mono ?_;rintro e w1 ⟨rfl,mm,rfl⟩;go_wp2_with fail;go_ret;exact ⟨rfl,below_drewN HG.out mm⟩
section
variable {P : Program} {T : TypeId} {n : Nat} {ad : Addr} {cs : Array Value}
theorem quiet_lda {ops : Array Oper} {rest : List Oper} {a : Act} {Q : Act→Prop} {C : World→Prop} {d : Option Tmp} {ty : TypeId} {pos : String} {aft : Array Edge} {gd : Option (Nat × Bool)} {x : Operand} (hR : RowT P T n) (hS : ∀ w,C w→∀ (j : Nat) v,cs[j]? = some v→w.cell? (ad.add j) = some v) (hn : cs.size = n)
    (h : wpQuiet P ops C Q rest (a.put d (.agg cs))) (hx : a.eval x = .pointer (some ad)) (hw : Region.wanted ⟨d,.load T x,ty,pos,aft,gd⟩ (yielded ops a.tmps) = true) : wpQuiet P ops C Q (⟨d,.load T x,ty,pos,aft,gd⟩ :: rest) a:=by
  unfold wpQuiet
  rw [if_pos hw];obtain ⟨e,hu,hd,hi⟩:=hR;rw [← hn,← Array.length_toList] at hi;refine ⟨.agg cs,fun w hw=>?_,h⟩
  have hcl : ∀ (j : Nat) v,cs.toList[j]? = some v→w.cell? (ad.add j) = some v:=fun j v hj=>hS w hw j v (by simpa using hj)
  unfold Oper.quietAt execOp
  simp only [hx,Instr.loadAt,Instr.sureAddr,Sem.run_bind,Sem.run_pure,Result.andThen_ok,run_loadVar_at w ad T cs.toList e hcl hu hd hi,Array.toArray_toList]
  exact ⟨rfl,rfl⟩
end
set_option maxRecDepth 100000 in
set_option maxHeartbeats 2000000 in
theorem rall07_eq (A1 A2 : Option Addr) (n c1 c2 : Nat) (xs ys : List EvV) (w : World) (hx : RowEv w w.heap.size A1 n xs) (hy : RowEv w w.heap.size A2 n ys) (he : xs.map (·.e) = ys.map (·.e)) (hm : ∀ x ∈ xs,x.m≤1000000) (hn : n≤10000000000000) :
    Calls Tryz.prog 29 #[.slice A1 n c1,.slice A2 n c2] w fun e w'=>e = .returned (.bool true)∧Below w.heap.size w w':=by
  have HN:=Lib.hid hx.1;have HN2:=Lib.hid hy.1
  have HX:=Lib.hid fun (w' : World) (h : Below w.heap.size w w')=>(hx.below h)
  have HY:=Lib.hid fun (w' : World) (h : Below w.heap.size w w')=>(hy.below h)
  have HE:=Lib.hid he;have HM:=Lib.hid hm;clear hx hy he hm
  go_enter Tryz.func29,Tryz.ntmps29
  go_wp2_with fail
  go_loopw [13] (fun i wr=>∃ k : Nat,k≤n∧i = .int .i64 k∧Below w.heap.size w wr) (fun i _=>n - (intOf i).toNat)
  case atStart=>exact ⟨0,by omega,rfl,Below.refl _ _⟩
  case round =>
    obtain ⟨k,hk,rfl,gb⟩:=hrel
    by_cases hlt : k < n
    · have hkl : k < xs.length:=by rw [← HN.out];exact hlt
      have hky : k < ys.length:=by rw [← HN2.out];exact hlt
      have hX:=(HX.out wr gb).2 k _ (List.getElem?_eq_getElem hkl);have hY:=(HY.out wr gb).2 k _ (List.getElem?_eq_getElem hky);have hmm:=HM.out _ (List.getElem_mem hkl)
      have hee : xs[k].e = ys[k].e:=by
        have h:=congrArg (fun l=>l[k]?) HE.out
        simp only [List.getElem?_map,List.getElem?_eq_getElem hkl,List.getElem?_eq_getElem hky,Option.map_some] at h
        injection h
      generalize xs[k] = x at *
      generalize ys[k] = y at *
      obtain ⟨okx,ad1,hA1,hb1,hc1⟩:=hX;obtain ⟨oky,ad2,hA2,hb2,hc2⟩:=hY;subst hA1 hA2
      have hcl1:=fun (w' : World) (h : Below wr.heap.size wr w')=>fun (j : Nat) (v : Value) (hv : x.cs[j]? = some v)=>((h.cell (p:=(ad1.add (k * 14)).add j) (by rw [block_add,block_add];have:=gb.size;omega)).trans (hc1 j v hv))
      have hcl2:=fun (w' : World) (h : Below wr.heap.size wr w')=>fun (j : Nat) (v : Value) (hv : y.cs[j]? = some v)=>((h.cell (p:=(ad2.add (k * 14)).add j) (by rw [block_add,block_add];have:=gb.size;omega)).trans (hc2 j v hv))
      have hsm:=fun (w' : World) (h : Below wr.heap.size wr w')=>rsame07_eq x y w' ((okx.below (h.mono gb.size)).more (by have:=gb.size;have:=h.size;omega)) ((oky.below (h.mono gb.size)).more (by have:=gb.size;have:=h.size;omega)) hee hmm
      obtain ⟨cx,hcx⟩ : ∃ cx,cx = x.cs:=⟨_,rfl⟩;obtain ⟨cy,hcy⟩ : ∃ cy,cy = y.cs:=⟨_,rfl⟩;have SX:=Lib.hid (show cx.size = 14 by rw [hcx];rfl);have SY:=Lib.hid (show cy.size = 14 by rw [hcy];rfl);rw [← hcx,← hcy] at hsm;rw [← hcx] at hcl1;rw [← hcy] at hcl2;have HC1:=Lib.hid hcl1;have HC2:=Lib.hid hcl2;have HSM:=Lib.hid hsm
      have hk0 : (0 : Int)≤(k : Int):=by omega
      have hkm : (k : Int) < (n : Int):=by omega
      clear hcl1 hcl2 hsm hcx hcy hee hmm hc1 hc2 okx oky
      go_upto_region 6 with fail
      refine wp_region_below (by kernel_rfl) (by kernel_rfl) ?_;intro T iT F hF hT;have HF:=Lib.hid hF;have HT:=Lib.hid hT;clear hF hT
      iterate 3 (go_big_quiet_step (fail))
      (with_reducible refine quiet_lda rowE (fun w' hw'=>by obtain ⟨qf,rfl⟩:=hw';exact HC1.out _ (HF.out qf)) SX.out ?_ ?_ ?_);rotate_left;(rfl);(rfl);simp only [Act.put,List.setIfInBounds_toArray,List.set_cons_succ,List.set_cons_zero,eq_self,decide_true,Bool.not_true,Bool.not_false,beq_self_eq_true]
      iterate 3 (go_big_quiet_step (fail))
      (with_reducible refine quiet_lda rowE (fun w' hw'=>by obtain ⟨qf,rfl⟩:=hw';exact HC2.out _ (HF.out qf)) SY.out ?_ ?_ ?_);rotate_left;(rfl);(rfl);simp only [Act.put,List.setIfInBounds_toArray,List.set_cons_succ,List.set_cons_zero,eq_self,decide_true,Bool.not_true,Bool.not_false,beq_self_eq_true]
      go_big_quiet_step ((go_at_call 63;exact calls_below HF.out HT.out (HSM.out _ (HF.out _))))
      repeat (go_big_quiet_step (fail))
      refine wpQuiet_nil ?_;intro w' hw';obtain ⟨qf,rfl⟩:=hw';have bF:=HF.out qf;have gbF:=gb.trans (bF.mono gb.size);clear HC1 HC2 HSM HF HT bF;go_wp2_with fail
      go_roundw
      case rel=>exact ⟨k + 1,by omega,by go_num,gbF⟩
      case measure=>simp [intOf];omega
    · have hkd : decide ((k : Int) < (n : Int)) = false:=decide_eq_false (by omega)
      go_wp2_with fail;go_ret;exact ⟨rfl,gb⟩
end Go.Proofs.YtfpenfgmpbdakaaGreat

namespace Go.Proofs.YtfpenfgmpbdakaaGreat.StoreFails
set_option linter.unusedVariables false
set_option linter.unusedSimpArgs false
set_option maxRecDepth 100000
open Go.ChangeShapes Go.WideShapes Go.ChangeAt Go.RowKit Go.Deep
open Dot Evt
open Go.Proofs.YtfpenfgmpbdakaaGreat.Sto Go.Proofs.YtfpenfgmpbdakaaGreat.Disk
open Go.Proofs.YtfpenfgmpbdakaaGreat.Frame (frm frms frms_nil frms_cons frms_snoc frms_append frm_length frm_pos Parts)
set_option linter.unusedVariables false
set_option linter.unusedSimpArgs false
structure GoodS (size : Nat) (S : Sd) : Prop where
  u : S.used≤S.upto
  p : S.upto≤96
  i : S.inc≤1099511627776
  b : S.b.length≤size
structure SF (w0 : World) (F : Nat→Prop) (b g size : Nat) (S : Sd) (A : Option Addr) (n c : Nat) (xs : List EvV) (w : World) : Prop where
  at_ : StoAt w F b g size S (.slice A n c)
  ev : EvsAt w F b w0.heap.size A n c xs
  fs : ∀ k,F k→w0.heap.size≤k
  hb : w0.heap.size≤b
  bel : Below w0.heap.size w0 w
  good : GoodS size S
def GoodE (m : Nat) (l : List Ev) : Prop:=l.length≤m∧∀ e ∈ l,e.l.length≤3000
section
variable {w0 w w1 w2 : World} {F G : Nat→Prop} {b g size n c : Nat} {S S' : Sd} {A : Option Addr} {xs : List EvV} {evs : List Ev}
theorem SF.below (h : SF w0 F b g size S A n c xs w) (hb : Below w.heap.size w w1) : SF w0 F b g size S A n c xs w1:=⟨h.at_.below hb,h.ev.below hb,h.fs,h.hb,h.bel.trans (hb.mono h.bel.size),h.good⟩
theorem SF.foot (h : SF w0 F b g size S A n c xs w) : (∀ k,(F k∨k = b∨A.map (·.block) = some k)→w0.heap.size≤k)∧∀ k,(F k∨k = b∨A.map (·.block) = some k)→k < w.heap.size:=⟨fun k hk=>by
    rcases hk with q | rfl | q
    · exact h.fs k q
    · exact h.hb
    · exact (h.ev.row.lt k q).1,fun k hk=>by
    rcases hk with q | rfl | q
    · exact h.at_.1.lt k q
    · exact h.at_.2.1.lt
    · exact (h.ev.row.lt k q).2⟩
theorem SF.op (h : SF w0 F b g size S A n c xs w) (ho : EOp w F b g size w0.heap.size A S' evs w1) (hg : GoodS size S') : Only (fun k=>F k∨k = b∨A.map (·.block) = some k) w w1∧∃ F' A' n' c' xs',SF w0 F' b g size S' A' n' c' xs' w1∧xs'.map (·.e) = evs:=by
  obtain ⟨F',A',n',c',xs',h1,h2,h3,h4,h5⟩:=ho;refine ⟨h4,F',A',n',c',xs',⟨h1,h2,fun k hk=>?_,h.hb,h.bel.trans (h4.to_below h.foot.1 h.bel.size),hg⟩,h3⟩
  rcases h5 k hk with q | q
  · exact h.fs k q
  · have:=h.bel.size;omega
theorem EvsAt.eop (h : EvsAt w F b w0.heap.size A n c xs) (ho : StoOp w F b g size S' (.slice A n c) w1) : EOp w F b g size w0.heap.size A S' (xs.map (·.e)) w1:=by
  obtain ⟨F',h1,h2,h3⟩:=ho;exact ⟨F',A,n,c,xs,h1,h.only h2 h3 (fun k q=>by rcases q with q | q;exact .inl q;exact .inr (.inl q)),rfl,h2.mono (fun k hk=>.inl (by rcases hk with q | q;exact .inl q;exact .inr (.inl q))),h3⟩
theorem SF.len (h : SF w0 F b g size S A n c xs w) {m : Nat} (hg : GoodE m (xs.map (·.e))) : n≤m∧∀ y ∈ xs,y.m≤3000:=⟨by rw [h.ev.row.1,← List.length_map (f:=(·.e))];exact hg.1,fun y hy=>by rw [(h.ev.own y hy).2.1.1];exact hg.2 _ (List.mem_map_of_mem hy)⟩
theorem OwnEv.onlyG {base n' c' : Nat} {A' : Option Addr} {ys : List EvV} (h : OwnEv w base A' n' c' ys) (ho : Only G w w1) (hG : ∀ k,G k→k < base) : OwnEv w1 base A' n' c' ys :=
  ⟨h.1,ownsRow_keep h.2 fun k hk=>ho.block k (h.lt k hk).2 fun q=>by have:=hG k q;have:=(h.lt k hk).1;omega⟩
theorem EvOwn.onlyG {base : Nat} {y : EvV} (h : EvOwn w base y) (ho : Only G w w1) (hG : ∀ k,G k→k < base) : EvOwn w1 base y :=
  ⟨h.1,⟨h.2.1.1,ownsRow_keep h.2.1.2 fun k hk=>ho.block k (h.2.1.lt k hk).2 fun q=>by have:=hG k q;have:=(h.2.1.lt k hk).1;omega⟩,h.2.2⟩
end
theorem next_out (size : Nat) (S : Sd) (h : GoodS size S) : GoodS size (nextD size S).2.2∧((nextD size S).2.1 ≠ 0→(nextD size S).2.2 = S):=by
  have h1:=h.u;have h2:=h.p
  unfold nextD
  split
  · exact ⟨⟨by simp only;omega,h.p,h.i,h.b⟩,fun q=>absurd rfl q⟩
  · split
    · exact ⟨h,fun _=>rfl⟩
    · split
      · rename_i q
        exact ⟨⟨by simp only;omega,by simp only;omega,h.i,by simp only [List.length_append];omega⟩,fun q=>absurd rfl q⟩
      · exact ⟨h,fun _=>rfl⟩
theorem bump_out (size : Nat) (S : Sd) (h : GoodS size S) : GoodS size (bumpD size S).2.2∧((bumpD size S).2.1 ≠ 0→(bumpD size S).2.2 = S):=by
  unfold bumpD
  split
  · exact ⟨h,fun _=>rfl⟩
  · split
    · exact ⟨⟨h.u,h.p,by simp only;omega,by simp only [List.length_append];omega⟩,fun q=>absurd rfl q⟩
    · exact ⟨h,fun _=>rfl⟩
theorem keep_out (size : Nat) (S : Sd) (evs : List Ev) (x : Ev) (h : GoodS size S) {m : Nat} (he : GoodE m evs) (hx : x.l.length≤3000) : GoodS size (keepD size S evs x).2.1∧GoodE (m + 1) (keepD size S evs x).2.2∧((keepD size S evs x).1 ≠ 0→(keepD size S evs x).2.1 = S∧(keepD size S evs x).2.2 = evs):=by
  have he1 : GoodE (m + 1) evs:=⟨by have:=he.1;omega,he.2⟩
  unfold keepD
  split
  · exact ⟨h,he1,fun _=>⟨rfl,rfl⟩⟩
  · split
    · exact ⟨h,he1,fun _=>⟨rfl,rfl⟩⟩
    · split
      · refine ⟨⟨h.u,h.p,h.i,by simp only [List.length_append];omega⟩,⟨by simp only [List.length_append,List.length_cons,List.length_nil];have:=he.1;omega,fun e hq=>?_⟩,fun q=>absurd rfl q⟩
        rcases List.mem_append.1 hq with q | q
        · exact he.2 e q
        · rw [List.mem_singleton.1 q];exact hx
      · exact ⟨h,he1,fun _=>⟨rfl,rfl⟩⟩
theorem compact_out (size : Nat) (S : Sd) (evs l : List Ev) (h : GoodS size S) {m : Nat} (he : GoodE m evs) (hl : GoodE m l) : GoodS size (compactD size S evs l).2.1∧GoodE (m + 1) (compactD size S evs l).2.2∧((compactD size S evs l).1 ≠ 0→(compactD size S evs l).2.1 = S∧(compactD size S evs l).2.2 = evs):=by
  have he1 : GoodE (m + 1) evs:=⟨by have:=he.1;omega,he.2⟩;have hl1 : GoodE (m + 1) l:=⟨by have:=hl.1;omega,hl.2⟩
  unfold compactD
  split
  · split
    · exact ⟨⟨h.u,h.p,h.i,by assumption⟩,hl1,fun q=>absurd rfl q⟩
    · exact ⟨h,he1,fun _=>⟨rfl,rfl⟩⟩
  · exact ⟨h,he1,fun _=>⟨rfl,rfl⟩⟩
theorem op_ev {w : World} {g : Nat} {T : TypeId} {o : OpV} (k : Blk w g T o.cs) : w.rangeAt g 2 o.e.cs.toList:=fun j v hv=>by
  have hv : o.e.cs[j]? = some v:=by simpa using hv
  have hj : j < 14:=by
    have:=(Array.getElem?_eq_some_iff.1 hv).1
    rwa [o.e.size] at this
  rw [k.cell,← hv]
  match j,hj with
  | 0,_=>rfl
  | 1,_=>rfl
  | 2,_=>rfl
  | 3,_=>rfl
  | 4,_=>rfl
  | 5,_=>rfl
  | 6,_=>rfl
  | 7,_=>rfl
  | 8,_=>rfl
  | 9,_=>rfl
  | 10,_=>rfl
  | 11,_=>rfl
  | 12,_=>rfl
  | 13,_=>rfl
theorem evSum_mem (xs : List EvV) : ∀ x ∈ xs,x.m≤evSum xs:=by
  unfold evSum
  induction xs with
  | nil=>simp
  | cons y l ih =>
    intro x hx
    simp only [List.map_cons,List.sum_cons]
    rcases List.mem_cons.1 hx with rfl | h
    · omega
    · have:=ih x h;omega
theorem evSum_len (xs : List EvV) : xs.length≤evSum xs:=by
  unfold evSum
  induction xs with
  | nil=>simp
  | cons x l ih=>simp at ih ⊢;omega
set_option maxHeartbeats 16000000 in
theorem walk (size0 : Int) (A0 : Option Addr) (n0 c0 : Nat) (ls : List OpV) (w0 : World) (m1 : -9223372036854775808≤size0) (m2 : size0≤9223372036854775807) (hr : RowOp w0 w0.heap.size A0 n0 ls) (hn0 : n0≤10000000000000) :
    Calls Tryz.prog 5 #[.int .i64 size0,.slice A0 n0 c0] w0 fun e w'=>e = .returned (.bool true)∧Below w0.heap.size w0 w':=by
  have HRK:=Lib.hid fun (w' : World) (hb : Below w0.heap.size w0 w')=>hr.below hb
  have HN:=Lib.hid hr.1
  have HGR:=Lib.hid fun (w' : World) (hb : Below w0.heap.size w0 w')=>(great15_any A0 n0 c0 ls w' (by
    have h:=hr.below hb
    exact ⟨h.1,fun i o hi=>by
      obtain ⟨q1,ad,q2,q3,q4⟩:=h.2 i o hi;have hz:=hb.size
      exact ⟨⟨q1.e.more hz,q1.l.more hz,q1.l1,q1.l2,q1.l3,q1.b.more hz,q1.b1,q1.b2,q1.b3,q1.n1,q1.n2⟩,ad,q2,by omega,q4⟩⟩) hn0)
  clear hr m1 m2
  go_enter Tryz.func5,Tryz.ntmps5
  go_wp2_with fail;refine (alive15 w0).mono ?_;rintro e w1 ⟨rfl,b1⟩;go_wp2_with fail;refine (HGR.out w1 b1).mono ?_;rintro e w2 ⟨⟨G,rfl,hG⟩,b2⟩;have gb:=b1.trans (b2.mono b1.size);have HGG:=Lib.hid hG;clear b1 b2 hG HGR
  cases G
  case true =>
    go_wp2_with fail;go_ret;exact ⟨rfl,gb⟩
  have hgg:=HGG.out rfl;have HG:=Lib.hid hgg;have hn100:=hgg.1;clear hgg HGG
  by_cases hsz : 1≤size0∧size0≤16384
  case neg =>
    have HB:=Lib.hid (dnew_bad size0 w2 (by omega));go_wp2_with fail;refine HB.out.mono ?_;rintro e w3 ⟨rfl,rfl⟩;go_wp2_with fail;go_ret;exact ⟨rfl,gb⟩
  obtain ⟨size,rfl⟩ : ∃ size : Nat,size0 = (size : Int):=⟨size0.toNat,by omega⟩
  have hs1 : 1≤size:=by omega
  have hs2 : size≤16384:=by omega
  clear hsz;go_wp2_with fail;refine (dnew_any size w2 hs1 hs2).mono ?_;rintro e w3 ⟨g,F1,rfl,hD1,hF1,hb3⟩;have L1:=DL.of_new gb hD1 hF1 hb3;clear hD1 hb3 hF1 gb;go_wp2_with fail;refine (open_recs [] F1 g size 0 0 w0 w3 L1 (by simp) (by simp [frms_nil]) hs2 rfl).mono ?_;rintro e w4 ⟨b,F2,rfl,S3⟩;have hsf : SF w0 F2 b g size ⟨[],0,0,0⟩ none 0 0 [] w4:=⟨S3.at_,⟨OwnEv.nil _ _,fun x hx=>(by simp at hx),fun k hk=>(by cases hk),fun x hx=>(by simp at hx)⟩,S3.fs,S3.hb,S3.bel,⟨Nat.le_refl _,by decide,by decide,Nat.zero_le _⟩⟩;have HSF:=Lib.hid hsf;clear hsf S3 L1;go_wp2_with fail
  go_loopw [11,12,13,14,15,34] (fun _ _ _ _ _ i wr=>∃ (k : Nat) (F : Nat→Prop) (S : Sd) (A : Option Addr) (n c : Nat) (xs : List EvV),k≤n0∧i = .int .i64 (k : Nat)∧SF w0 F b g size S A n c xs wr∧GoodE (3000 + k) (xs.map (·.e))) (fun _ _ _ _ _ i _=>n0 - (intOf i).toNat)
  case atStart=>exact ⟨0,F2,_,none,0,0,[],by omega,rfl,HSF.out,by simp,fun e he=>by simp at he⟩
  case round =>
  obtain ⟨k,F,S,A,n,c,xs,hk,rfl,sf,hge⟩:=hrel;have HGE:=Lib.hid hge;have HS0:=Lib.hid sf;clear hge
  by_cases hlt : k < n0
  case neg =>
    have hkn : ¬ (k : Int) < (n0 : Int):=by omega
    clear sf;go_wp2_with fail;go_ret;exact ⟨rfl,HS0.out.bel⟩
  have hkl : k < ls.length:=by rw [← HN.out];exact hlt
  obtain ⟨hok,ad,hA,hab,hcs⟩:=(HRK.out wr sf.bel).2 k _ (List.getElem?_eq_getElem hkl);have hgo:=HG.out.2 _ (List.getElem_mem hkl)
  have hokw:=fun (w : World) (hb : Below w0.heap.size w0 w)=>((HRK.out w hb).2 k _ (List.getElem?_eq_getElem hkl)).1
  generalize ls[k] = o at *
  subst hA;obtain ⟨cs,hcx⟩ : ∃ cs,cs = o.cs:=⟨_,rfl⟩;rw [← hcx] at hcs;have SZ:=Lib.hid (show cs.size = 18 by rw [hcx];rfl);have OZ:=Lib.hid (show cs.all (·.oneCell') = true by rw [hcx];exact o.one);have X0:=Lib.hid (show cs[0]? = some (.int .i64 o.k) by rw [hcx];rfl);have X16:=Lib.hid (show cs[16]? = some (.slice o.AL o.nl o.cl) by rw [hcx];rfl);have HCS:=Lib.hid hcs;have HCX:=Lib.hid hcx;have HOK:=Lib.hid hokw;have HGO:=Lib.hid hgo
  have hk0 : (0 : Int)≤(k : Int):=by omega
  have hkm : (k : Int) < (n0 : Int):=by omega
  clear hcs hcx hok hokw hgo
  go_upto_region 12 with first
    | ((with_reducible refine wpList_lda rowO HCS.out SZ.out ?_ ?_);rotate_left;(rfl))
    | ((with_reducible refine wpList_st rowO (Blk.new _ _ _) SZ.out ?_ OZ.out ?_ ?_ ?_);(rfl);rotate_left;(rfl);(rfl);intro w6 k6 g6 z6)
  have bA : Below wr.heap.size wr w6:=new_below g6;obtain ⟨gr,hgr⟩ : ∃ gr,gr = wr.heap.size:=⟨_,rfl⟩;rw [← hgr] at k6 ⊢;have sf6:=sf.below bA;have HFT:=Lib.hid sf.foot;have hwr6:=bA.size;have HS6:=Lib.hid sf6;have HRD:=Lib.hid (_root_.Go.Proofs.YtfpenfgmpbdakaaGreat.read_any F g size S.b [] w6 sf6.at_.1 (by have:=sf.good.b;simp [mass];omega) (by simp));clear g6 z6 hgr bA sf sf6 HCS;go_wp2_with fail;refine HRD.out.mono ?_;rintro e w7 ⟨AR,nR,cR,rfl,oR,b7⟩;have k7:=k6.below b7 k6.lt;have sf7:=HS6.out.below b7;have hle7:=sf7.len HGE.out;have HS7:=Lib.hid sf7;have HOR:=Lib.hid oR;have HEV:=Lib.hid (events_any b g S.used S.upto S.inc A n c xs w7 sf7.at_.2.1 (by omega) (sf7.ev.row.row (fun y hy=>(sf7.ev.own y hy).ok)) (fun y hy=>by have:=hle7.2 y hy;omega));have h67:=b7.size;clear oR b7 HRD sf7 hle7 k6;go_wp2_with fail;refine HEV.out.mono ?_;rintro e w8 ⟨AE,cE,ys,rfl,oE,oy,hye,b8⟩;have k8:=k7.below b8 k7.lt;have sf8:=HS7.out.below b8;have HOR:=Lib.hid (HOR.out.below b8 (Nat.le_refl _));have HOE:=Lib.hid (And.intro oE (And.intro oy hye));have HS8:=Lib.hid sf8;have hkS:=sf8.at_.2.1;clear oE oy hye b8 HEV sf8 k7;go_wp2_with fail;refine (upto_any b g S.used S.upto S.inc _ w8 hkS).mono ?_;rintro e w9 ⟨rfl,rfl⟩;go_wp2_with fail;refine (inc_any b g S.used S.upto S.inc _ w8 hkS).mono ?_;rintro e w9 ⟨rfl,rfl⟩;have t0 : w8.cell? ⟨gr,0,none⟩ = some (.int .i64 o.k):=(k8.cell 0).trans X0.out;have t16 : w8.cell? ⟨gr,16,none⟩ = some (.slice o.AL o.nl o.cl):=(k8.cell 16).trans X16.out
  have hG6 : ∀ q,(F q∨q = b∨A.map (·.block) = some q)→q < w6.heap.size:=fun q hq=>by have:=HFT.out.2 q hq;omega
  have HG6:=Lib.hid hG6;clear hkS hG6
  by_cases h1 : o.k = 1
  · rw [h1] at t0
    have hgd:=next_out size S HS8.out.good;have HGD:=Lib.hid hgd;have HOP:=Lib.hid (next_any S (.slice A n c) F b g size w8 HS8.out.at_ HS8.out.good.u HS8.out.good.p hs2 (by have:=HS8.out.good.b;omega));clear hgd h1;go_wp2_with fail;refine HOP.out.mono ?_;rintro e w9 ⟨rfl,q9⟩;obtain ⟨y,hy⟩ : ∃ y,y = (nextD size S).2.1:=⟨_,rfl⟩;obtain ⟨S',hS'⟩ : ∃ S',S' = (nextD size S).2.2:=⟨_,rfl⟩;have hop:=EvsAt.eop HS8.out.ev q9;rw [← hS'] at hop;have hout : GoodS size S'∧GoodE (3000 + (k + 1)) (xs.map (·.e))∧(y ≠ 0→S' = S∧xs.map (·.e) = xs.map (·.e)):=⟨by rw [hS'];exact HGD.out.1,⟨by have:=HGE.out.1;omega,HGE.out.2⟩,fun h=>⟨by rw [hS'];exact HGD.out.2 (by rw [← hy];exact h),rfl⟩⟩;rw [← hy];clear hy hS' HGD HOP q9;obtain ⟨hon,F',A',n',c',xs',sf9,hxe⟩:=HS8.out.op hop hout.1;have HOUT:=Lib.hid hout.2;have HS9:=Lib.hid sf9;have HXE:=Lib.hid hxe;have HON:=Lib.hid hon;clear hop hout sf9 hxe hon
    by_cases hy0 : y = 0
    · subst hy0
      go_wp2_with fail
      go_roundw
      case rel=>exact ⟨k + 1,F',S',A',n',c',xs',by omega,by go_num,HS9.out,by rw [HXE.out];exact HOUT.out.1⟩
      case measure=>simp [intOf];omega
    obtain ⟨hSS,hEE⟩:=HOUT.out.2 hy0;subst hSS;have hxx : xs'.map (·.e) = xs.map (·.e):=HXE.out.trans hEE
    have hnn : n' = n:=by
      have h9:=congrArg List.length hxx;rw [List.length_map,List.length_map,← HS9.out.ev.row.1,← HS8.out.ev.row.1] at h9;exact h9
    subst hnn;have HXX:=Lib.hid hxx
    have hq : ((y : Int) != 0) = true:=by rw [bne_iff_ne];omega
    have HOR9:=Lib.hid (HOR.out.only HON.out HG6.out);have HOE9:=Lib.hid (And.intro (OwnEv.onlyG HOE.out.1 HON.out (fun q hq=>by have:=HG6.out q hq;omega)) (And.intro (fun z hz=>EvOwn.onlyG (HOE.out.2.1 z hz) HON.out (fun q hq=>by have:=HG6.out q hq;omega)) HOE.out.2.2));have HRD:=Lib.hid (_root_.Go.Proofs.YtfpenfgmpbdakaaGreat.read_any F' g size S'.b [] w9 HS9.out.at_.1 (by have:=HS9.out.good.b;simp [mass];omega) (by simp));clear hxx hEE hy0 HON HOR HOE HG6;go_wp2_with fail;refine HRD.out.mono ?_;rintro e wa ⟨AR2,nR2,cR2,rfl,oR2,ba⟩;have sfa:=HS9.out.below ba;have HORa:=Lib.hid (HOR9.out.below ba (Nat.le_refl _));have HOEa:=Lib.hid (And.intro (HOE9.out.1.below ba (Nat.le_refl _)) (And.intro (fun z hz=>(⟨(HOE9.out.2.1 z hz).1,(HOE9.out.2.1 z hz).2.1.below ba (Nat.le_refl _),(HOE9.out.2.1 z hz).2.2⟩ : EvOwn wa w7.heap.size z)) HOE9.out.2.2))
    have hlen : nR2 = nR:=by rw [oR2.1,HORa.out.1]
    subst hlen;have hlb:=sfa.good.b
    have hRl : nR2≤16384:=by rw [oR2.1];exact Nat.le_trans hlb hs2
    have HSAME:=Lib.hid (same_eq AR2 AR nR2 cR2 nR2 cR S'.b _ _ wa oR2.rd HORa.out.rd (by omega));have HSa:=Lib.hid sfa;clear oR2 ba HRD sfa HOR9 HOE9 hlb;go_wp2_with fail;refine HSAME.out.mono ?_;rintro e wb ⟨rfl,mm,rfl⟩;have bb : Below wa.heap.size wa (wa.drewN mm):=below_drewN (Below.refl _ _) mm;have sfb:=HSa.out.below bb;have HOEb:=Lib.hid (And.intro (HOEa.out.1.below bb (Nat.le_refl _)) (And.intro (fun z hz=>(⟨(HOEa.out.2.1 z hz).1,(HOEa.out.2.1 z hz).2.1.below bb (Nat.le_refl _),(HOEa.out.2.1 z hz).2.2⟩ : EvOwn (wa.drewN mm) w7.heap.size z)) HOEa.out.2.2))
    generalize wa.drewN mm = wb at *
    have hle:=sfb.len (m:=3000 + k) (by rw [HXX.out];exact HGE.out);have HEV:=Lib.hid (events_any b g S'.used S'.upto S'.inc A' n' c' xs' wb sfb.at_.2.1 (by omega) (sfb.ev.row.row (fun y hy=>(sfb.ev.own y hy).ok)) (fun y hy=>by have:=hle.2 y hy;omega));have HSb:=Lib.hid sfb;have HLE:=Lib.hid hle;clear bb sfb HSAME HOEa HSa hle;go_wp2_with fail;refine HEV.out.mono ?_;rintro e wc ⟨AE2,cE2,ys2,rfl,oE2,oy2,hye2,bc⟩;have sfc:=HSb.out.below bc;have HOEc:=Lib.hid (And.intro (HOEb.out.1.below bc (Nat.le_refl _)) (And.intro (fun z hz=>(⟨(HOEb.out.2.1 z hz).1,(HOEb.out.2.1 z hz).2.1.below bc (Nat.le_refl _),(HOEb.out.2.1 z hz).2.2⟩ : EvOwn wc w7.heap.size z)) HOEb.out.2.2));have hyr : RowEv wc wc.heap.size AE n' ys:=HOEc.out.1.row (fun z hz=>EvOwn.ok (base:=w7.heap.size) (HOEc.out.2.1 z hz));have hy2 : RowEv wc wc.heap.size AE2 n' ys2:=oE2.row (fun z hz=>(oy2 z hz).ok)
    have hme : ys2.map (·.e) = ys.map (·.e):=by rw [hye2,HXX.out,HOEc.out.2.2]
    have hm2 : ∀ z ∈ ys2,z.m≤1000000:=fun z hz=>by
      rw [(oy2 z hz).2.1.1]
      have h9 : z.e ∈ xs'.map (·.e):=by rw [← hye2];exact List.mem_map_of_mem hz
      obtain ⟨u,hu,hue⟩:=List.mem_map.1 h9;rw [← hue,← (HSb.out.ev.own u hu).2.1.1]
      have:=HLE.out.2 u hu
      omega
    have HALL:=Lib.hid (rall07_eq AE2 AE n' cE2 cE ys2 ys wc hy2 hyr hme hm2 (by have:=HLE.out.1;omega));have HSc:=Lib.hid sfc;clear oE2 oy2 hye2 bc HEV sfc hyr hy2 hme hm2 HOEb HSb;go_wp2_with fail;refine HALL.out.mono ?_;rintro e wd ⟨rfl,bd⟩;have HSd:=Lib.hid (HSc.out.below bd);have hkd:=HSd.out.at_.2.1;clear bd HALL HSc HOEc;go_wp2_with fail;refine (upto_any b g S'.used S'.upto S'.inc _ wd hkd).mono ?_;rintro e we ⟨rfl,rfl⟩;go_wp2_with fail;refine (inc_any b g S'.used S'.upto S'.inc _ wd hkd).mono ?_;rintro e we ⟨rfl,rfl⟩;clear hkd;go_wp2_with fail
    go_roundw
    case rel=>exact ⟨k + 1,F',S',A',n',c',xs',by omega,by go_num,HSd.out,by rw [HXE.out];exact HOUT.out.1⟩
    case measure=>simp [intOf];omega
  by_cases h2 : o.k = 2
  · rw [h2] at t0
    have hgd:=bump_out size S HS8.out.good;have HGD:=Lib.hid hgd;have HOP:=Lib.hid (bump_any S (.slice A n c) F b g size w8 HS8.out.at_ HS8.out.good.i hs2 (by have:=HS8.out.good.b;omega));clear hgd h1 h2;go_wp2_with fail;refine HOP.out.mono ?_;rintro e w9 ⟨rfl,q9⟩;obtain ⟨y,hy⟩ : ∃ y,y = (bumpD size S).2.1:=⟨_,rfl⟩;obtain ⟨S',hS'⟩ : ∃ S',S' = (bumpD size S).2.2:=⟨_,rfl⟩;have hop:=EvsAt.eop HS8.out.ev q9;rw [← hS'] at hop;have hout : GoodS size S'∧GoodE (3000 + (k + 1)) (xs.map (·.e))∧(y ≠ 0→S' = S∧xs.map (·.e) = xs.map (·.e)):=⟨by rw [hS'];exact HGD.out.1,⟨by have:=HGE.out.1;omega,HGE.out.2⟩,fun h=>⟨by rw [hS'];exact HGD.out.2 (by rw [← hy];exact h),rfl⟩⟩;rw [← hy];clear hy hS' HGD HOP q9;obtain ⟨hon,F',A',n',c',xs',sf9,hxe⟩:=HS8.out.op hop hout.1;have HOUT:=Lib.hid hout.2;have HS9:=Lib.hid sf9;have HXE:=Lib.hid hxe;have HON:=Lib.hid hon;clear hop hout sf9 hxe hon
    by_cases hy0 : y = 0
    · subst hy0
      go_wp2_with fail
      go_roundw
      case rel=>exact ⟨k + 1,F',S',A',n',c',xs',by omega,by go_num,HS9.out,by rw [HXE.out];exact HOUT.out.1⟩
      case measure=>simp [intOf];omega
    obtain ⟨hSS,hEE⟩:=HOUT.out.2 hy0;subst hSS;have hxx : xs'.map (·.e) = xs.map (·.e):=HXE.out.trans hEE
    have hnn : n' = n:=by
      have h9:=congrArg List.length hxx;rw [List.length_map,List.length_map,← HS9.out.ev.row.1,← HS8.out.ev.row.1] at h9;exact h9
    subst hnn;have HXX:=Lib.hid hxx
    have hq : ((y : Int) != 0) = true:=by rw [bne_iff_ne];omega
    have HOR9:=Lib.hid (HOR.out.only HON.out HG6.out);have HOE9:=Lib.hid (And.intro (OwnEv.onlyG HOE.out.1 HON.out (fun q hq=>by have:=HG6.out q hq;omega)) (And.intro (fun z hz=>EvOwn.onlyG (HOE.out.2.1 z hz) HON.out (fun q hq=>by have:=HG6.out q hq;omega)) HOE.out.2.2));have HRD:=Lib.hid (_root_.Go.Proofs.YtfpenfgmpbdakaaGreat.read_any F' g size S'.b [] w9 HS9.out.at_.1 (by have:=HS9.out.good.b;simp [mass];omega) (by simp));clear hxx hEE hy0 HON HOR HOE HG6;go_wp2_with fail;refine HRD.out.mono ?_;rintro e wa ⟨AR2,nR2,cR2,rfl,oR2,ba⟩;have sfa:=HS9.out.below ba;have HORa:=Lib.hid (HOR9.out.below ba (Nat.le_refl _));have HOEa:=Lib.hid (And.intro (HOE9.out.1.below ba (Nat.le_refl _)) (And.intro (fun z hz=>(⟨(HOE9.out.2.1 z hz).1,(HOE9.out.2.1 z hz).2.1.below ba (Nat.le_refl _),(HOE9.out.2.1 z hz).2.2⟩ : EvOwn wa w7.heap.size z)) HOE9.out.2.2))
    have hlen : nR2 = nR:=by rw [oR2.1,HORa.out.1]
    subst hlen;have hlb:=sfa.good.b
    have hRl : nR2≤16384:=by rw [oR2.1];exact Nat.le_trans hlb hs2
    have HSAME:=Lib.hid (same_eq AR2 AR nR2 cR2 nR2 cR S'.b _ _ wa oR2.rd HORa.out.rd (by omega));have HSa:=Lib.hid sfa;clear oR2 ba HRD sfa HOR9 HOE9 hlb;go_wp2_with fail;refine HSAME.out.mono ?_;rintro e wb ⟨rfl,mm,rfl⟩;have bb : Below wa.heap.size wa (wa.drewN mm):=below_drewN (Below.refl _ _) mm;have sfb:=HSa.out.below bb;have HOEb:=Lib.hid (And.intro (HOEa.out.1.below bb (Nat.le_refl _)) (And.intro (fun z hz=>(⟨(HOEa.out.2.1 z hz).1,(HOEa.out.2.1 z hz).2.1.below bb (Nat.le_refl _),(HOEa.out.2.1 z hz).2.2⟩ : EvOwn (wa.drewN mm) w7.heap.size z)) HOEa.out.2.2))
    generalize wa.drewN mm = wb at *
    have hle:=sfb.len (m:=3000 + k) (by rw [HXX.out];exact HGE.out);have HEV:=Lib.hid (events_any b g S'.used S'.upto S'.inc A' n' c' xs' wb sfb.at_.2.1 (by omega) (sfb.ev.row.row (fun y hy=>(sfb.ev.own y hy).ok)) (fun y hy=>by have:=hle.2 y hy;omega));have HSb:=Lib.hid sfb;have HLE:=Lib.hid hle;clear bb sfb HSAME HOEa HSa hle;go_wp2_with fail;refine HEV.out.mono ?_;rintro e wc ⟨AE2,cE2,ys2,rfl,oE2,oy2,hye2,bc⟩;have sfc:=HSb.out.below bc;have HOEc:=Lib.hid (And.intro (HOEb.out.1.below bc (Nat.le_refl _)) (And.intro (fun z hz=>(⟨(HOEb.out.2.1 z hz).1,(HOEb.out.2.1 z hz).2.1.below bc (Nat.le_refl _),(HOEb.out.2.1 z hz).2.2⟩ : EvOwn wc w7.heap.size z)) HOEb.out.2.2));have hyr : RowEv wc wc.heap.size AE n' ys:=HOEc.out.1.row (fun z hz=>EvOwn.ok (base:=w7.heap.size) (HOEc.out.2.1 z hz));have hy2 : RowEv wc wc.heap.size AE2 n' ys2:=oE2.row (fun z hz=>(oy2 z hz).ok)
    have hme : ys2.map (·.e) = ys.map (·.e):=by rw [hye2,HXX.out,HOEc.out.2.2]
    have hm2 : ∀ z ∈ ys2,z.m≤1000000:=fun z hz=>by
      rw [(oy2 z hz).2.1.1]
      have h9 : z.e ∈ xs'.map (·.e):=by rw [← hye2];exact List.mem_map_of_mem hz
      obtain ⟨u,hu,hue⟩:=List.mem_map.1 h9;rw [← hue,← (HSb.out.ev.own u hu).2.1.1]
      have:=HLE.out.2 u hu
      omega
    have HALL:=Lib.hid (rall07_eq AE2 AE n' cE2 cE ys2 ys wc hy2 hyr hme hm2 (by have:=HLE.out.1;omega));have HSc:=Lib.hid sfc;clear oE2 oy2 hye2 bc HEV sfc hyr hy2 hme hm2 HOEb HSb;go_wp2_with fail;refine HALL.out.mono ?_;rintro e wd ⟨rfl,bd⟩;have HSd:=Lib.hid (HSc.out.below bd);have hkd:=HSd.out.at_.2.1;clear bd HALL HSc HOEc;go_wp2_with fail;refine (upto_any b g S'.used S'.upto S'.inc _ wd hkd).mono ?_;rintro e we ⟨rfl,rfl⟩;go_wp2_with fail;refine (inc_any b g S'.used S'.upto S'.inc _ wd hkd).mono ?_;rintro e we ⟨rfl,rfl⟩;clear hkd;go_wp2_with fail
    go_roundw
    case rel=>exact ⟨k + 1,F',S',A',n',c',xs',by omega,by go_num,HSd.out,by rw [HXE.out];exact HOUT.out.1⟩
    case measure=>simp [intOf];omega
  by_cases h3 : o.k = 3
  · rw [h3] at t0
    have hxo:=fun (w' : World) (ho : Only (fun k=>F k∨k = b) w8 w')=>(by
      have hb:=HS8.out.bel.trans (ho.to_below (B:=w0.heap.size) (fun q hq=>by rcases hq with q1 | rfl;exact HS8.out.fs q q1;exact HS8.out.hb) HS8.out.bel.size)
      exact (HOK.out w' hb).e.more hb.size : EvOk w' w'.heap.size o.e)
    have hgd:=keep_out size S (xs.map (·.e)) o.e.e HS8.out.good HGE.out (by have:=(HOK.out w8 HS8.out.bel).e.2.1.1;have:=HGO.out.1;omega);have HGD:=Lib.hid hgd;have HOP:=Lib.hid (keep_any o.e S F b g size w0.heap.size A n c xs w8 HS8.out.at_ HS8.out.ev hxo (by have:=HGO.out.1;omega) (by have:=(HS8.out.len HGE.out).1;omega) HS8.out.bel.size hs2 (by have:=HS8.out.good.b;omega))
    have hrg : w8.rangeAt gr 2 o.e.cs.toList:=by have h:=k8;rw [HCX.out] at h;exact op_ev h
    have SE:=Lib.hid o.e.size
    generalize o.e.cs = CE at *
    clear hgd h1 h2 h3 hxo
    go_wp2_with ((with_reducible refine wpList_ldr rowE hrg SE.out ?_ ?_);rotate_left;(rfl))
    refine HOP.out.mono ?_;rintro e w9 ⟨rfl,hop⟩;obtain ⟨y,hy⟩ : ∃ y,y = (keepD size S (xs.map (·.e)) o.e.e).1:=⟨_,rfl⟩;have hout:=HGD.out;rw [← hy] at hout ⊢
    generalize (keepD size S (xs.map (·.e)) o.e.e).2.1 = S' at *
    generalize (keepD size S (xs.map (·.e)) o.e.e).2.2 = evs' at *
    rw [Nat.add_assoc] at hout;clear hy HGD HOP;obtain ⟨hon,F',A',n',c',xs',sf9,hxe⟩:=HS8.out.op hop hout.1;have HOUT:=Lib.hid hout.2;have HS9:=Lib.hid sf9;have HXE:=Lib.hid hxe;have HON:=Lib.hid hon;clear hop hout sf9 hxe hon
    by_cases hy0 : y = 0
    · subst hy0
      go_wp2_with fail
      go_roundw
      case rel=>exact ⟨k + 1,F',S',A',n',c',xs',by omega,by go_num,HS9.out,by rw [HXE.out];exact HOUT.out.1⟩
      case measure=>simp [intOf];omega
    obtain ⟨hSS,hEE⟩:=HOUT.out.2 hy0;subst hSS;have hxx : xs'.map (·.e) = xs.map (·.e):=HXE.out.trans hEE
    have hnn : n' = n:=by
      have h9:=congrArg List.length hxx;rw [List.length_map,List.length_map,← HS9.out.ev.row.1,← HS8.out.ev.row.1] at h9;exact h9
    subst hnn;have HXX:=Lib.hid hxx
    have hq : ((y : Int) != 0) = true:=by rw [bne_iff_ne];omega
    have HOR9:=Lib.hid (HOR.out.only HON.out HG6.out);have HOE9:=Lib.hid (And.intro (OwnEv.onlyG HOE.out.1 HON.out (fun q hq=>by have:=HG6.out q hq;omega)) (And.intro (fun z hz=>EvOwn.onlyG (HOE.out.2.1 z hz) HON.out (fun q hq=>by have:=HG6.out q hq;omega)) HOE.out.2.2));have HRD:=Lib.hid (_root_.Go.Proofs.YtfpenfgmpbdakaaGreat.read_any F' g size S'.b [] w9 HS9.out.at_.1 (by have:=HS9.out.good.b;simp [mass];omega) (by simp));clear hxx hEE hy0 HON HOR HOE HG6;go_wp2_with fail;refine HRD.out.mono ?_;rintro e wa ⟨AR2,nR2,cR2,rfl,oR2,ba⟩;have sfa:=HS9.out.below ba;have HORa:=Lib.hid (HOR9.out.below ba (Nat.le_refl _));have HOEa:=Lib.hid (And.intro (HOE9.out.1.below ba (Nat.le_refl _)) (And.intro (fun z hz=>(⟨(HOE9.out.2.1 z hz).1,(HOE9.out.2.1 z hz).2.1.below ba (Nat.le_refl _),(HOE9.out.2.1 z hz).2.2⟩ : EvOwn wa w7.heap.size z)) HOE9.out.2.2))
    have hlen : nR2 = nR:=by rw [oR2.1,HORa.out.1]
    subst hlen;have hlb:=sfa.good.b
    have hRl : nR2≤16384:=by rw [oR2.1];exact Nat.le_trans hlb hs2
    have HSAME:=Lib.hid (same_eq AR2 AR nR2 cR2 nR2 cR S'.b _ _ wa oR2.rd HORa.out.rd (by omega));have HSa:=Lib.hid sfa;clear oR2 ba HRD sfa HOR9 HOE9 hlb;go_wp2_with fail;refine HSAME.out.mono ?_;rintro e wb ⟨rfl,mm,rfl⟩;have bb : Below wa.heap.size wa (wa.drewN mm):=below_drewN (Below.refl _ _) mm;have sfb:=HSa.out.below bb;have HOEb:=Lib.hid (And.intro (HOEa.out.1.below bb (Nat.le_refl _)) (And.intro (fun z hz=>(⟨(HOEa.out.2.1 z hz).1,(HOEa.out.2.1 z hz).2.1.below bb (Nat.le_refl _),(HOEa.out.2.1 z hz).2.2⟩ : EvOwn (wa.drewN mm) w7.heap.size z)) HOEa.out.2.2))
    generalize wa.drewN mm = wb at *
    have hle:=sfb.len (m:=3000 + k) (by rw [HXX.out];exact HGE.out);have HEV:=Lib.hid (events_any b g S'.used S'.upto S'.inc A' n' c' xs' wb sfb.at_.2.1 (by omega) (sfb.ev.row.row (fun y hy=>(sfb.ev.own y hy).ok)) (fun y hy=>by have:=hle.2 y hy;omega));have HSb:=Lib.hid sfb;have HLE:=Lib.hid hle;clear bb sfb HSAME HOEa HSa hle;go_wp2_with fail;refine HEV.out.mono ?_;rintro e wc ⟨AE2,cE2,ys2,rfl,oE2,oy2,hye2,bc⟩;have sfc:=HSb.out.below bc;have HOEc:=Lib.hid (And.intro (HOEb.out.1.below bc (Nat.le_refl _)) (And.intro (fun z hz=>(⟨(HOEb.out.2.1 z hz).1,(HOEb.out.2.1 z hz).2.1.below bc (Nat.le_refl _),(HOEb.out.2.1 z hz).2.2⟩ : EvOwn wc w7.heap.size z)) HOEb.out.2.2));have hyr : RowEv wc wc.heap.size AE n' ys:=HOEc.out.1.row (fun z hz=>EvOwn.ok (base:=w7.heap.size) (HOEc.out.2.1 z hz));have hy2 : RowEv wc wc.heap.size AE2 n' ys2:=oE2.row (fun z hz=>(oy2 z hz).ok)
    have hme : ys2.map (·.e) = ys.map (·.e):=by rw [hye2,HXX.out,HOEc.out.2.2]
    have hm2 : ∀ z ∈ ys2,z.m≤1000000:=fun z hz=>by
      rw [(oy2 z hz).2.1.1]
      have h9 : z.e ∈ xs'.map (·.e):=by rw [← hye2];exact List.mem_map_of_mem hz
      obtain ⟨u,hu,hue⟩:=List.mem_map.1 h9;rw [← hue,← (HSb.out.ev.own u hu).2.1.1]
      have:=HLE.out.2 u hu
      omega
    have HALL:=Lib.hid (rall07_eq AE2 AE n' cE2 cE ys2 ys wc hy2 hyr hme hm2 (by have:=HLE.out.1;omega));have HSc:=Lib.hid sfc;clear oE2 oy2 hye2 bc HEV sfc hyr hy2 hme hm2 HOEb HSb;go_wp2_with fail;refine HALL.out.mono ?_;rintro e wd ⟨rfl,bd⟩;have HSd:=Lib.hid (HSc.out.below bd);have hkd:=HSd.out.at_.2.1;clear bd HALL HSc HOEc;go_wp2_with fail;refine (upto_any b g S'.used S'.upto S'.inc _ wd hkd).mono ?_;rintro e we ⟨rfl,rfl⟩;go_wp2_with fail;refine (inc_any b g S'.used S'.upto S'.inc _ wd hkd).mono ?_;rintro e we ⟨rfl,rfl⟩;clear hkd;go_wp2_with fail
    go_roundw
    case rel=>exact ⟨k + 1,F',S',A',n',c',xs',by omega,by go_num,HSd.out,by rw [HXE.out];exact HOUT.out.1⟩
    case measure=>simp [intOf];omega
  by_cases h4 : o.k = 4
  · rw [h4] at t0
    have hxo:=fun (w' : World) (ho : Only (fun k=>F k∨k = b) w8 w')=>(by
      have hb:=HS8.out.bel.trans (ho.to_below (B:=w0.heap.size) (fun q hq=>by rcases hq with q1 | rfl;exact HS8.out.fs q q1;exact HS8.out.hb) HS8.out.bel.size)
      exact (HOK.out w' hb).l.more hb.size : RowEv w' w'.heap.size o.AL o.nl o.xs)
    have hok8:=HOK.out w8 HS8.out.bel
    have hnl : o.nl≤3000:=by have:=hok8.l.1;have:=evSum_len o.xs;have:=HGO.out.2;omega
    have hxm : ∀ y ∈ o.xs,y.m≤3000:=fun y hy=>by have:=evSum_mem o.xs y hy;have:=HGO.out.2;omega
    have hgl : GoodE (3000 + k) (o.xs.map (·.e)):=⟨by rw [List.length_map,← hok8.l.1];omega,fun e he=>by
      obtain ⟨y,hy,rfl⟩:=List.mem_map.1 he;obtain ⟨i,hi,rfl⟩:=List.getElem_of_mem hy;have hq:=(hok8.l.2 i _ (List.getElem?_eq_getElem hi)).1;rw [← hq.2.1.1]
      exact hxm _ hy⟩
    have hgd:=compact_out size S (xs.map (·.e)) (o.xs.map (·.e)) HS8.out.good HGE.out hgl;have HGD:=Lib.hid hgd;have HOP:=Lib.hid (compact_any S F b g size w0.heap.size A n c xs o.AL o.nl o.cl o.xs w8 HS8.out.at_ HS8.out.ev hxo (fun y hy=>by have:=hxm y hy;omega) (by omega) hok8.l1 hok8.l2 HS8.out.bel.size hs2 (by have:=HS8.out.good.b;omega) HS8.out.good.p HS8.out.good.i);clear hgd h1 h2 h3 h4 hxo hok8 hxm hgl hnl;go_wp2_with fail;refine HOP.out.mono ?_;rintro e w9 ⟨rfl,hop⟩;obtain ⟨y,hy⟩ : ∃ y,y = (compactD size S (xs.map (·.e)) (o.xs.map (·.e))).1:=⟨_,rfl⟩;have hout:=HGD.out;rw [← hy] at hout ⊢
    generalize (compactD size S (xs.map (·.e)) (o.xs.map (·.e))).2.1 = S' at *
    generalize (compactD size S (xs.map (·.e)) (o.xs.map (·.e))).2.2 = evs' at *
    rw [Nat.add_assoc] at hout;clear hy HGD HOP;obtain ⟨hon,F',A',n',c',xs',sf9,hxe⟩:=HS8.out.op hop hout.1;have HOUT:=Lib.hid hout.2;have HS9:=Lib.hid sf9;have HXE:=Lib.hid hxe;have HON:=Lib.hid hon;clear hop hout sf9 hxe hon
    by_cases hy0 : y = 0
    · subst hy0
      go_wp2_with fail
      go_roundw
      case rel=>exact ⟨k + 1,F',S',A',n',c',xs',by omega,by go_num,HS9.out,by rw [HXE.out];exact HOUT.out.1⟩
      case measure=>simp [intOf];omega
    obtain ⟨hSS,hEE⟩:=HOUT.out.2 hy0;subst hSS;have hxx : xs'.map (·.e) = xs.map (·.e):=HXE.out.trans hEE
    have hnn : n' = n:=by
      have h9:=congrArg List.length hxx;rw [List.length_map,List.length_map,← HS9.out.ev.row.1,← HS8.out.ev.row.1] at h9;exact h9
    subst hnn;have HXX:=Lib.hid hxx
    have hq : ((y : Int) != 0) = true:=by rw [bne_iff_ne];omega
    have HOR9:=Lib.hid (HOR.out.only HON.out HG6.out);have HOE9:=Lib.hid (And.intro (OwnEv.onlyG HOE.out.1 HON.out (fun q hq=>by have:=HG6.out q hq;omega)) (And.intro (fun z hz=>EvOwn.onlyG (HOE.out.2.1 z hz) HON.out (fun q hq=>by have:=HG6.out q hq;omega)) HOE.out.2.2));have HRD:=Lib.hid (_root_.Go.Proofs.YtfpenfgmpbdakaaGreat.read_any F' g size S'.b [] w9 HS9.out.at_.1 (by have:=HS9.out.good.b;simp [mass];omega) (by simp));clear hxx hEE hy0 HON HOR HOE HG6;go_wp2_with fail;refine HRD.out.mono ?_;rintro e wa ⟨AR2,nR2,cR2,rfl,oR2,ba⟩;have sfa:=HS9.out.below ba;have HORa:=Lib.hid (HOR9.out.below ba (Nat.le_refl _));have HOEa:=Lib.hid (And.intro (HOE9.out.1.below ba (Nat.le_refl _)) (And.intro (fun z hz=>(⟨(HOE9.out.2.1 z hz).1,(HOE9.out.2.1 z hz).2.1.below ba (Nat.le_refl _),(HOE9.out.2.1 z hz).2.2⟩ : EvOwn wa w7.heap.size z)) HOE9.out.2.2))
    have hlen : nR2 = nR:=by rw [oR2.1,HORa.out.1]
    subst hlen;have hlb:=sfa.good.b
    have hRl : nR2≤16384:=by rw [oR2.1];exact Nat.le_trans hlb hs2
    have HSAME:=Lib.hid (same_eq AR2 AR nR2 cR2 nR2 cR S'.b _ _ wa oR2.rd HORa.out.rd (by omega));have HSa:=Lib.hid sfa;clear oR2 ba HRD sfa HOR9 HOE9 hlb;go_wp2_with fail;refine HSAME.out.mono ?_;rintro e wb ⟨rfl,mm,rfl⟩;have bb : Below wa.heap.size wa (wa.drewN mm):=below_drewN (Below.refl _ _) mm;have sfb:=HSa.out.below bb;have HOEb:=Lib.hid (And.intro (HOEa.out.1.below bb (Nat.le_refl _)) (And.intro (fun z hz=>(⟨(HOEa.out.2.1 z hz).1,(HOEa.out.2.1 z hz).2.1.below bb (Nat.le_refl _),(HOEa.out.2.1 z hz).2.2⟩ : EvOwn (wa.drewN mm) w7.heap.size z)) HOEa.out.2.2))
    generalize wa.drewN mm = wb at *
    have hle:=sfb.len (m:=3000 + k) (by rw [HXX.out];exact HGE.out);have HEV:=Lib.hid (events_any b g S'.used S'.upto S'.inc A' n' c' xs' wb sfb.at_.2.1 (by omega) (sfb.ev.row.row (fun y hy=>(sfb.ev.own y hy).ok)) (fun y hy=>by have:=hle.2 y hy;omega));have HSb:=Lib.hid sfb;have HLE:=Lib.hid hle;clear bb sfb HSAME HOEa HSa hle;go_wp2_with fail;refine HEV.out.mono ?_;rintro e wc ⟨AE2,cE2,ys2,rfl,oE2,oy2,hye2,bc⟩;have sfc:=HSb.out.below bc;have HOEc:=Lib.hid (And.intro (HOEb.out.1.below bc (Nat.le_refl _)) (And.intro (fun z hz=>(⟨(HOEb.out.2.1 z hz).1,(HOEb.out.2.1 z hz).2.1.below bc (Nat.le_refl _),(HOEb.out.2.1 z hz).2.2⟩ : EvOwn wc w7.heap.size z)) HOEb.out.2.2));have hyr : RowEv wc wc.heap.size AE n' ys:=HOEc.out.1.row (fun z hz=>EvOwn.ok (base:=w7.heap.size) (HOEc.out.2.1 z hz));have hy2 : RowEv wc wc.heap.size AE2 n' ys2:=oE2.row (fun z hz=>(oy2 z hz).ok)
    have hme : ys2.map (·.e) = ys.map (·.e):=by rw [hye2,HXX.out,HOEc.out.2.2]
    have hm2 : ∀ z ∈ ys2,z.m≤1000000:=fun z hz=>by
      rw [(oy2 z hz).2.1.1]
      have h9 : z.e ∈ xs'.map (·.e):=by rw [← hye2];exact List.mem_map_of_mem hz
      obtain ⟨u,hu,hue⟩:=List.mem_map.1 h9;rw [← hue,← (HSb.out.ev.own u hu).2.1.1]
      have:=HLE.out.2 u hu
      omega
    have HALL:=Lib.hid (rall07_eq AE2 AE n' cE2 cE ys2 ys wc hy2 hyr hme hm2 (by have:=HLE.out.1;omega));have HSc:=Lib.hid sfc;clear oE2 oy2 hye2 bc HEV sfc hyr hy2 hme hm2 HOEb HSb;go_wp2_with fail;refine HALL.out.mono ?_;rintro e wd ⟨rfl,bd⟩;have HSd:=Lib.hid (HSc.out.below bd);have hkd:=HSd.out.at_.2.1;clear bd HALL HSc HOEc;go_wp2_with fail;refine (upto_any b g S'.used S'.upto S'.inc _ wd hkd).mono ?_;rintro e we ⟨rfl,rfl⟩;go_wp2_with fail;refine (inc_any b g S'.used S'.upto S'.inc _ wd hkd).mono ?_;rintro e we ⟨rfl,rfl⟩;clear hkd;go_wp2_with fail
    go_roundw
    case rel=>exact ⟨k + 1,F',S',A',n',c',xs',by omega,by go_num,HSd.out,by rw [HXE.out];exact HOUT.out.1⟩
    case measure=>simp [intOf];omega
  have hb8:=HS8.out.bel;go_wp2_with fail
  go_roundw
  case rel=>exact ⟨k + 1,F,S,A,n,c,xs,by omega,by go_num,HS8.out,by have:=HGE.out.1;omega,HGE.out.2⟩
  case measure=>simp [intOf];omega
set_option maxRecDepth 100000 in
theorem lifted (os : Os) (started : os.Started) (H : Type) (enc : TypeId × Value→H) :
    ReturnsInHanded {} Tryz.checked os 5 .any (Rows.storeFailsSpec.pre6 enc Tryz.prog Tryz.f5 Rows.storeFailsRow.domain false) (Rows.storeFailsSpec.post enc Tryz.prog Tryz.f5 false true false false):=by
  refine returnsInHanded_of_change_sized (C:=Tryz.checked) own started (by kernel_rfl) Tryz.func5
    (ChangeSpec.witness6 (enc:=enc) (C:=Tryz.checked) false ⟨#[],#[.int .i64 0,.slice none 0 0],[]⟩ 8 (by kernel_rfl) (by kernel_rfl) (by kernel_rfl) (by kernel_rfl)) ?_
  intro W base args ds gs before hval0 hW hcnd hsz0 _;have hsz : (DataW.weightsEach Tryz.prog (Tryz.f5.params.toList ++ []) (ds ++ gs)).all (·≤reachBytes) = true:=hsz0;have hval : ∀ (j : Nat) t v,Tryz.f5.params[j]? = some t→args[j]? = some v→Value.okWide Tryz.prog W .any base t v:=hval0;have hW':=hW;obtain ⟨p,q,hA0,hV,rfl,hfz,hnd⟩:=hW;have hA : DataW.TrodAll enc Tryz.prog W 0 (fun _=>true) true Tryz.f5.params.toList args.toList ds p:=hA0;rw [Tryz.params5] at hA hval hsz;obtain ⟨v0,vs0,d0,ds0,p0,q0,hargs,rfl,rfl,h0,r0⟩:=trodAll_cons hA;obtain ⟨v1,vs1,d1,ds1,p1,q1,rfl,rfl,rfl,h1,r1⟩:=trodAll_cons r0;obtain ⟨rfl,rfl,rfl⟩:=trodAll_nil r1
  obtain rfl : args = #[v0,v1]:=by cases args;simp_all
  obtain ⟨rfl,rfl⟩:=trodVars_none hV
  have lt0 : ∀ x ∈ p0,x.block < W.heap.size:=by obtain ⟨m,hm⟩:=h0;exact DataW.trod_lt m _ _ _ hm
  have k0:=h0
  have lt1 : ∀ x ∈ p1,x.block < W.heap.size:=by obtain ⟨m,hm⟩:=h1;exact DataW.trod_lt m _ _ _ hm
  have k1:=h1;obtain ⟨x0,rfl,rfl,rfl,wf0⟩:=open_int Tryz.underlying3 (hval 0 3 v0 rfl rfl) h0
  have hb0 : -9223372036854775808≤x0∧x0≤9223372036854775807:=by
    have hmin : IntKind.i64.min = -9223372036854775808:=rfl;have hmax : IntKind.i64.max = 9223372036854775807:=rfl
    simp only [Lit.wf,Bool.and_eq_true,decide_eq_true_eq] at wf0
    omega
  have sz1 : Sz 23 d1:=sz_arg (j:=1) hsz rfl rfl;obtain ⟨A1,n1,c1,l1,rfl,hk1,p11⟩:=open_ops15 (hval 1 23 v1 rfl rfl) h1 sz1;clear hA0 hval0
  refine (walk x0 A1 n1 c1 l1 W hb0.1 hb0.2 hk1 p11).mono fun e W' ⟨he,bel⟩=>?_
  subst he;exact ⟨_,rfl,_,_,_,[],_,[],hW',trodAll_mk1 (shut_bool Tryz.underlying4 _),(trodAll_cons_mk (Below.trod laidOut (by kernel_rfl) (of_decide_eq_true (by kernel_rfl)) k0 bel lt0) (trodAll_cons_mk (Below.trod laidOut (by kernel_rfl) (of_decide_eq_true (by kernel_rfl)) k1 bel lt1) trodAll_mk0)),rfl,bel.frame _,fun h=>by cases h⟩
theorem proved : Rows.StoreFailsSaid :=
  OpenClaim.holds_of_wide 5 Tryz.f5 rfl rfl rfl rfl rfl rfl rfl ⟨rfl,rfl,rfl,rfl,rfl⟩ rfl rfl rfl rfl rfl (by kernel_rfl) Tryz.func5 (by kernel_rfl)
    (of_decide_eq_true (by kernel_rfl)) (by unfold Func.isWrapper;first | (rw [if_pos (by decide +kernel)];kernel_rfl) | (rw [if_neg (by decide +kernel)];exact ⟨rfl,rfl⟩))
    (fun os started H enc _=>lifted os started H enc)
#print axioms proved
