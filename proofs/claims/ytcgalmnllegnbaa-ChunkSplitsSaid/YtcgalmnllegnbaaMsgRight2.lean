import Derived.Test.YtcgalmnllegnbaaEvRow
import Derived.Test.YtcgalmnllegnbaaDotHas
import Derived.Test.YtcgalmnllegnbaaEvAlive
import Derived.Test.YtcgalmnllegnbaaMem
import Derived.RegionTactic
import Derived.Deep.RegionHeld
import Derived.Test.YtcgalmnllegnbaaQuiet
import Derived.Test.YtcgalmnllegnbaaMsgMath
import Derived.Test.YtcgalmnllegnbaaBytes
import Derived.Test.YtcgalmnllegnbaaCrcMath
import Derived.Test.YtcgalmnllegnbaaChecked
import Derived.WalkKit
import Derived.Lib.SlBytesConst
import Derived.Test.YtcgalmnllegnbaaFrameMath
import Derived.Test.YtcgalmnllegnbaaVintPut
import Derived.Test.YtcgalmnllegnbaaStop
import Derived.Test.YtcgalmnllegnbaaVintWalks
import Derived.WideLaws
import Derived.Test.YtcgalmnllegnbaaDotEq
import Derived.Test.YtcgalmnllegnbaaEvRight
namespace Go.Proofs.Ytcgalmnllegnbaa
set_option linter.unusedVariables false
set_option linter.unusedSimpArgs false
set_option maxRecDepth 100000
open Go.RowKit
open Dot Evt
theorem own_emptyD {w : World} {g base : Nat} (h : Blk w g 46 #[]) (hb : base≤g) : OwnD w base (some ⟨g,0,none⟩) 0 0 [] :=
  ⟨rfl,rfl,.inr ⟨g,0,#[],rfl,hb,h,Nat.le_refl _,Nat.zero_le _,rfl,rfl⟩⟩
theorem infoEv : (Try.prog.info? 50).map (fun i=>(i.zero,i.size,i.bytes)) = some (some (.agg (cT 0)),14,128):=by kernel_rfl
def ecsL (xs : List EvV) : List Value:=xs.flatMap fun x=>x.cs.toList
theorem ecsL_len (xs : List EvV) : (ecsL xs).length = xs.length * 14:=by
  induction xs with
  | nil=>rfl
  | cons x l ih=>show (x.cs.toList ++ ecsL l).length = _;rw [List.length_append,ih,Array.length_toList,x.size];simp;omega
theorem ecsL_app (l m : List EvV) : ecsL (l ++ m) = ecsL l ++ ecsL m:=by unfold ecsL;rw [List.flatMap_append]
theorem ecsL_one (l : List EvV) : ∀ u ∈ ecsL l,u.oneCell' = true:=by
  intro u hu
  unfold ecsL at hu
  rw [List.mem_flatMap] at hu;obtain ⟨d,_,hd⟩:=hu
  have:=Array.all_eq_true_iff_forall_mem.1 d.one u (by simpa using hd)
  exact this
theorem ecsL_at (l : List EvV) : ∀ (i : Nat) (x : EvV),l[i]? = some x→∀ (j : Nat) v,x.cs[j]? = some v→(ecsL l)[i * 14 + j]? = some v:=by
  induction l with
  | nil=>intro i d h;simp at h
  | cons y l ih =>
    intro i x h j v hv;have e : ecsL (y :: l) = y.cs.toList ++ ecsL l:=rfl
    have hj : j < 14:=by
      have:=(Array.getElem?_eq_some_iff.1 hv).1
      rwa [x.size] at this
    rw [e]
    cases i with
    | zero =>
      simp at h
      subst h;rw [Nat.zero_mul,Nat.zero_add,List.getElem?_append_left (by rw [Array.length_toList,y.size];exact hj),Array.getElem?_toList];exact hv
    | succ i =>
      rw [List.getElem?_append_right (by rw [Array.length_toList,y.size];omega),Array.length_toList,y.size,show (i + 1) * 14 + j - 14 = i * 14 + j by omega];exact ih i x (by simpa using h) j v hv
def OwnEv (w : World) (base : Nat) (A : Option Addr) (n c : Nat) (xs : List EvV) : Prop:=n = xs.length∧w.ownsRow base 50 14 (.slice A n c) n (ecsL xs)
section
variable {w w' : World} {base B n c : Nat} {A : Option Addr} {xs : List EvV}
theorem OwnEv.nil (w : World) (base : Nat) : OwnEv w base none 0 0 []:=⟨rfl,World.ownsRow_nil w base _ 14⟩
theorem OwnEv.alloc (h : OwnEv w base A n c xs) (o : Obj) : OwnEv (w.alloc o) base A n c xs:=⟨h.1,h.2.alloc o⟩
theorem OwnEv.drew (h : OwnEv w base A n c xs) : OwnEv w.drew base A n c xs:=h
theorem OwnEv.mono {base' : Nat} (h : OwnEv w base A n c xs) (hb : base'≤base) : OwnEv w base' A n c xs:=⟨h.1,ownsRow_base h.2 hb⟩
theorem OwnEv.raw (h : OwnEv w base A n c xs) : Rd w w.heap.size A (ecsL xs):=fun j u hu=>by
  rcases h.2.2 with ⟨hv,h0⟩ | ⟨g,cap,cur,hv,hb,hh,hn,hm,hs,hc⟩
  · have:=h.2.1;rw [h0] at this;simp at this;rw [this] at hu;simp at hu
  · injection hv with hA
    subst hA;exact ⟨_,rfl,(h.2.lt g rfl).2,h.2.cells (g:=g) rfl j u hu⟩
theorem OwnEv.lt (h : OwnEv w base A n c xs) : ∀ g,A.map (·.block) = some g→base≤g∧g < w.heap.size:=fun g hg=>h.2.lt g (by
  rcases A with _ | a
  · simp at hg
  · simpa [Value.ownBlock] using hg)
theorem OwnEv.below (h : OwnEv w base A n c xs) (hb : Below B w w') (hB : w.heap.size≤B) : OwnEv w' base A n c xs:=⟨h.1,ownsRow_keep h.2 fun k hk=>hb.block k (by have:=ownsRow_lt h.2 hk;omega)⟩
theorem OwnEv.row (h : OwnEv w base A n c xs) (hx : ∀ x ∈ xs,EvOk w w.heap.size x) : RowEv w w.heap.size A n xs:=⟨h.1,fun i x hi=>by
  have hm:=List.mem_of_getElem? hi;have h0 : (ecsL xs)[i * 14 + 0]? = some (.int .i64 x.e.d.1):=ecsL_at xs i x hi 0 _ rfl;obtain ⟨ad,hA,hb,_⟩:=h.raw _ _ h0;refine ⟨hx x hm,ad,hA,hb,fun j v hv=>?_⟩;obtain ⟨ad',hA',_,hc⟩:=h.raw _ _ (ecsL_at xs i x hi j v hv)
  obtain rfl : ad = ad':=by rw [hA] at hA';injection hA'
  rw [add_add]
  exact hc⟩
end
theorem own2_ne {w : World} {b1 b2 : Nat} {t1 t2 : TypeId} {s1 s2 : Nat} {A1 A2 : Option Addr} {n1 c1 n2 c2 : Nat} {x1 x2 : List Value} (h1 : w.ownsRow b1 t1 s1 (.slice A1 n1 c1) n1 x1) (h2 : w.ownsRow b2 t2 s2 (.slice A2 n2 c2) n2 x2) (hne : t1 ≠ t2) : A1.map (·.block) = none∨A1.map (·.block) ≠ A2.map (·.block):=by
  rcases h : A1.map (·.block) with _ | k
  · exact .inl h
  · refine .inr fun e=>?_
    obtain ⟨cur,hc⟩:=ownsRow_type h1 h;obtain ⟨cur',hc'⟩:=ownsRow_type h2 (e.symm.trans h);rw [hc] at hc'
    injection hc' with hc'
    injection hc' with _ ht
    exact hne ht
def EvOwn (w : World) (base : Nat) (x : EvV) : Prop:=x.e.p.length = 7∧OwnD w base x.A x.m x.c x.e.l∧x.m≤10000000000000
theorem EvOwn.ok {w : World} {base : Nat} {x : EvV} (h : EvOwn w base x) : EvOk w w.heap.size x:=⟨h.1,h.2.1.rd,h.2.2⟩
theorem wpList_appE {w : World} {ops : Array Oper} {rest : List Oper} {o : Oper} {a : Act} {Q : Exit→Act→World→Prop} (hgd : o.guard = none) (s x : Operand)
    (ho : o.op = .call { callee:=.builtin .append,args:=#[s,x],argTypes:=#[24,24] })
    {base : Nat} {A : Option Addr} {n c : Nat} {bs : List EvV} (hs : a.eval s = .slice A n c) (hown : OwnEv w base A n c bs)
    {B : Nat} {D : Option Addr} {m d : Nat} {news : List EvV} (hx : a.eval x = .slice D m d) (hr : Rd w B D (ecsL news)) (hm : m = news.length)
    (hbytes : n + m≤1000000000000) (hbase : base≤w.heap.size)
    (h : ∀ A' c' w',OwnEv w' base A' (n + m) c' (bs ++ news)→w.grownBy w' (A.map (·.block))→Moved A' (A.map (·.block)) w.heap.size→Below base w w' →
      wpList Try.prog ops Q rest (a.put o.dst (.slice A' (n + m) c')) w') : wpList Try.prog ops Q (o :: rest) a w:=by
  obtain ⟨i0,hi,hz0,hz1,hz2⟩:=info_parts infoEv
  have hob : (Value.slice A n c).ownBlock = A.map (·.block):=by cases A <;> rfl
  refine wpList_app w hgd s x 24 ho base 50 i0 (.agg (cT 0)) 14 128 Try.underlying24 hi hz0 hz1 hz2 rfl (by decide) _ _ _ hs hown.2 B D m d (ecsL news) hx hr (by rw [ecsL_len,hm]) (ecsL_one _) (by unfold maxLen;omega) (by omega) hbase ?_;intro A' c' w' h1 h2 h3;rw [hob] at h2 h3;exact h A' c' w' ⟨by rw [List.length_append,hown.1,hm],by rw [ecsL_app];exact h1⟩ h2 h3 ((Below.refl _ _).grown h2 hbase (fun g hg=>(hown.lt g hg).1))
theorem buildE1 (x : EvV) (w : World) : (Instr.buildSlice 24 1 #[(0,.agg x.cs)]).run Try.prog w = .ok (.slice (some ⟨w.heap.size,0,none⟩) 1 1) (w.alloc (.cells x.cs 50)):=by
  obtain ⟨⟨⟨n,q⟩,t,k,wk,v,p,l⟩,A,m,c⟩:=x
  unfold EvV.cs ec
  simp only
  generalize p.getD 0 0 = p0,p.getD 1 0 = p1,p.getD 2 0 = p2,p.getD 3 0 = p3,p.getD 4 0 = p4,p.getD 5 0 = p5,p.getD 6 0 = p6
  kernel_rfl
set_option maxRecDepth 100000 in
theorem rcopy07_any (x : EvV) (w : World) (hx : EvOk w w.heap.size x) (hm : x.m≤100000) :
    Calls Try.prog 66 #[.agg x.cs] w fun e w'=>∃ A' c',e = .returned (.agg (ec x.e (.slice A' x.m c')))∧OwnD w' w.heap.size A' x.m c' x.e.l∧Below w.heap.size w w':=by
  obtain ⟨cs,hcs⟩ : ∃ cs,cs = x.cs:=⟨_,rfl⟩;have HSZ:=Lib.hid (show cs.size = 14 by rw [hcs];rfl);have X13:=Lib.hid (show cs[13]? = some (.slice x.A x.m x.c) by rw [hcs];rfl);have XS:=Lib.hid (fun (A' : Option Addr) (c' : Nat)=>(show cs.setIfInBounds 13 (.slice A' x.m c') = ec x.e (.slice A' x.m c') by rw [hcs];rfl));rw [← hcs];obtain ⟨l,hl⟩ : ∃ l,l = x.e.l:=⟨_,rfl⟩;have HRD:=Lib.hid (show RdD w w.heap.size x.A x.m l by rw [hl];exact hx.2.1);rw [← hl];have HM:=Lib.hid (HRD.out.1);clear hx hcs hl
  go_enter Try.func66,Try.ntmps66
  go_upto_region 1 with fail
  refine nameW ?_;intro wv hwv;obtain ⟨b,hb⟩ : ∃ b,b = w.heap.size:=⟨_,rfl⟩;rw [← hb]
  have kb : Blk wv b 50 cs:=by rw [hwv,hb];exact (Blk.new w _ _).alloc _
  have kz : Blk wv (b + 1) 50 (cT 0):=by
    have h:=Blk.new (w.alloc (.cells cs 50)) 50 (cT 0);rw [show (w.alloc (.cells cs 50)).heap.size = w.heap.size + 1 by simp] at h;rw [hwv,hb];exact h
  have gb : Below b w wv:=by rw [hwv,hb];exact ((Below.refl _ _).alloc (Nat.le_refl _) _).alloc (by simp) _
  have hrd : RdD wv b x.A x.m l:=by
    rw [hb];exact HRD.out.below (by rw [← hb];exact gb)
  have hsz:=kz.lt;have hsb:=kb.lt;have t13 : wv.cell? ⟨b,13,none⟩ = some (.slice x.A x.m x.c):=(kb.cell 13).trans X13.out;have HB:=Lib.hid hb;clear hwv hb HRD;have hrd2 : Rd (wv.alloc (.cells #[] 46)) b x.A (dcs l):=(hrd.below ((Below.refl _ _).alloc (by omega) _)).rd;have HR2:=Lib.hid hrd2;clear hrd hrd2
  go_wp2_with (at_builtin;refine wpList_appD rfl (.tmp 3) (.tmp 5) rfl rfl (own_emptyD (base:=b + 1 + 1) (Blk.new wv _ _) (by omega)) rfl (news:=l) HR2.out HM.out ?hc1 ?hc2 ?_)
  case hc1=>omega
  case hc2=>simp;omega
  intro A' c' w3 o3 g3 m3 b3;have bx : Below (b + 1 + 1) wv w3:=((Below.refl _ _).alloc (by omega) (.cells #[] 46)).trans b3;have kb3:=kb.below bx (by omega);have kz3:=kz.below bx (by omega);have gb3:=gb.trans (bx.mono (by omega));have c3 : w3.cell? ⟨b,13,none⟩ = some (.slice x.A x.m x.c):=(kb3.cell 13).trans X13.out;have f3:=kb3.free 13;have kb4:=kb3.set_ 13 (.slice A' x.m c');rw [XS.out] at kb4;have kz4:=kz3.far (p:=⟨b,13,none⟩) (by simp) (.slice A' x.m c')
  have o4:=o3.setFar (p:=⟨b,13,none⟩) (by
    intro h
    have:=(o3.lt _ h).1
    simp at this
    omega) (.slice A' x.m c')
  have gb4 : Below b w (w3.setCell ⟨b,13,none⟩ (.slice A' x.m c')):=gb3.setCell (by show b≤b;omega) _;obtain ⟨ce,hce⟩ : ∃ ce,ce = ec x.e (.slice A' x.m c'):=⟨_,rfl⟩;have HSE:=Lib.hid (show ce.size = 14 by rw [hce];rfl);have H1E:=Lib.hid (show ce.all (·.oneCell') = true by rw [hce];exact ec_one _ _ _ _);have HCE:=Lib.hid hce;have HZ0:=Lib.hid (show (cT 0).size = 14 from rfl);rw [← hce] at kb4;clear hce kb3 kz3 gb3 kb kz gb g3 m3 b3 bx
  have hs3 : b < w3.heap.size:=by have:=kb4.lt;simpa [World.setCell] using this
  go_upto_region 2 with fail
  refine nameW ?_;intro w4 hw4;rw [← hw4] at kb4 kz4 o4 gb4;clear hw4 c3 f3 o3 hs3
  go_wp2_with first
    | ((with_reducible refine wpList_ld rowE kb4 HSE.out ?_ ?_);rotate_left;(rfl))
    | ((with_reducible refine wpList_st rowE kz4 HSE.out HZ0.out H1E.out ?_ ?_ ?_);rotate_left;(rfl);(rfl);intro w5 k5 g5 z5)
  have o5:=o4.grown g5 (.inr (own_ne o4.2 kz4 (by decide)));exact bodyPost_ret (v:=.agg ce) (results_blk rfl rowE k5 HSE.out rfl) rfl ⟨A',c',by rw [HCE.out],o5.mono (by have:=HB.out;omega),by rw [← HB.out];exact gb4.grown g5 (by have:=gb4.size;have:=HB.out;omega) (fun q hq=>by injection hq;omega)⟩
def CopiesEnd (w : World) (n : Nat) (xs : List EvV) (e : Ending) (w' : World) : Prop:=∃ A' c' ys,e = .returned (.slice A' n c')∧OwnEv w' w.heap.size A' n c' ys∧(∀ y ∈ ys,EvOwn w' w.heap.size y)∧ys.map (·.e) = xs.map (·.e)∧Below w.heap.size w w'
set_option maxRecDepth 100000 in
set_option maxHeartbeats 1000000 in
theorem rcopies07_any (A : Option Addr) (n c : Nat) (xs : List EvV) (w : World) (hn : n≤100000) (hR : RowEv w w.heap.size A n xs) (hm : ∀ x ∈ xs,x.m≤100000) :
    Calls Try.prog 27 #[.slice A n c] w (CopiesEnd w n xs):=by
  have HN:=Lib.hid hR.1
  have HRK:=Lib.hid fun (w' : World) (hb : Below w.heap.size w w')=>hR.below hb
  have HNB:=Lib.hid hn;have HM:=Lib.hid hm;clear hR hn hm;obtain ⟨B,hB⟩ : ∃ B,B = w.heap.size:=⟨_,rfl⟩;have HB:=Lib.hid hB;rw [← hB] at HRK;clear hB
  go_enter Try.func27,Try.ntmps27
  go_wp2_with fail
  go_loopw [3,8] (fun s i wr=>∃ (k : Nat) (A' : Option Addr) (c' : Nat) (ys : List EvV),k≤n∧i = .int .i64 k∧s = .slice A' k c'∧OwnEv wr B A' k c' ys∧(∀ y ∈ ys,EvOwn wr B y)∧ys.map (·.e) = (xs.take k).map (·.e)∧Below B w wr) (fun _ i _=>n - (intOf i).toNat)
  case atStart=>exact ⟨0,none,0,[],by omega,rfl,rfl,OwnEv.nil _ _,fun y hy=>by simp at hy,rfl,by rw [HB.out];exact Below.refl _ _⟩
  case round =>
    obtain ⟨k,A',c',ys,hk,rfl,rfl,ho,hys,hmp,gb⟩:=hrel;have HYS:=Lib.hid hys;have HMP:=Lib.hid hmp;clear hys hmp
    by_cases hlt : k < n
    · have hkl : k < xs.length:=by rw [← HN.out];exact hlt
      have hgs : B≤wr.heap.size:=by have:=gb.size;have:=HB.out;omega
      obtain ⟨hok,ad,hA,hab,hcell⟩:=(HRK.out wr gb).2 k _ (List.getElem?_eq_getElem hkl);have hsn:=take_snoc xs hkl;have hmm:=HM.out _ (List.getElem_mem hkl)
      generalize xs[k] = x at *
      subst hA;obtain ⟨cs,hcs⟩ : ∃ cs,cs = x.cs:=⟨_,rfl⟩;rw [← hcs] at hcell;have HCS:=Lib.hid hcs;have HSZ:=Lib.hid (show cs.size = 14 by rw [hcs];rfl);have H1C:=Lib.hid (show cs.all (·.oneCell') = true by rw [hcs];exact x.one);have HC:=Lib.hid hcell;have HSN:=Lib.hid hsn;have HOK:=Lib.hid hok;have HMM:=Lib.hid hmm
      have hk0 : (0 : Int)≤(k : Int):=by omega
      have hkm : (k : Int) < (n : Int):=by omega
      clear hcell hok hsn hmm hcs
      go_upto_region 4 with fail
      go_upto_region 5 with first
        | ((with_reducible refine wpList_lda rowE HC.out HSZ.out ?_ ?_);rotate_left;(rfl))
        | ((with_reducible refine wpList_st rowE (Blk.new _ _ _) HSZ.out ?_ H1C.out ?_ ?_ ?_);(rfl);rotate_left;(rfl);(rfl);intro w6 k6 g6 z6)
      have bA : Below wr.heap.size wr w6:=(((Below.refl _ _).alloc (Nat.le_refl _) _).grown g6 (by simp) (fun q hq=>by injection hq with hq;omega));have gb6:=gb.trans (bA.mono hgs);have ho6:=ho.below bA (Nat.le_refl _)
      have hys6 : ∀ y ∈ ys,EvOwn w6 B y:=fun y hy=>by
        obtain ⟨q1,q2,q3⟩:=HYS.out y hy;exact ⟨q1,q2.below bA (Nat.le_refl _),q3⟩
      have hok6:=HOK.out.below (bA.mono hgs);obtain ⟨gr,hgr2⟩ : ∃ gr,gr = wr.heap.size:=⟨_,rfl⟩
      have hgr3 : B≤gr:=by omega
      rw [← hgr2] at k6 ⊢;have HYS6:=Lib.hid hys6
      have hs6 : B≤w6.heap.size:=by have:=gb6.size;have:=HB.out;omega
      have hcp:=rcopy07_any x w6 (hok6.more hs6) HMM.out;rw [← HCS.out] at hcp;have HCP:=Lib.hid hcp;clear hgr2 g6 z6 bA gb ho HYS hys6 hcp hok6
      go_wp2_with first
        | ((with_reducible refine wpList_ld rowE k6 HSZ.out ?_ ?_);rotate_left;(rfl))
      refine HCP.out.mono ?_;rintro e w7 ⟨A2,c2,rfl,o7,b7⟩;have ho7:=ho6.below b7 (Nat.le_refl _)
      have hys7 : ∀ y ∈ ys,EvOwn w7 B y:=fun y hy=>by
        obtain ⟨q1,q2,q3⟩:=HYS6.out y hy;exact ⟨q1,q2.below b7 (Nat.le_refl _),q3⟩
      have gb7:=gb6.trans (b7.mono hs6);have hz : EvOwn w7 B ⟨x.e,A2,x.m,c2⟩:=⟨HOK.out.1,o7.mono hs6,HOK.out.2.2⟩;obtain ⟨z,hzz⟩ : ∃ z : EvV,z = ⟨x.e,A2,x.m,c2⟩:=⟨_,rfl⟩
      have hze : z.e = x.e:=by rw [hzz]
      rw [← hzz] at hz
      have hcz : ec x.e (.slice A2 x.m c2) = z.cs:=by rw [hzz];rfl
      rw [hcz];have HZ:=Lib.hid hz;have HZE:=Lib.hid hze;have HBS:=Lib.hid (fun w=>buildE1 z w);have HYS7:=Lib.hid hys7
      have hs7 : B≤w7.heap.size:=by have:=gb7.size;have:=HB.out;omega
      obtain ⟨cz,hcz2⟩ : ∃ cz,cz = z.cs:=⟨_,rfl⟩;have HCZ:=Lib.hid hcz2;rw [← hcz2] at HBS ⊢;clear hz hze hzz hcz hcz2 hys7 HYS6 o7 b7 ho6 gb6
      go_wp2_with first
        | ((refine wpList_bs (v:=.slice (some ⟨w7.heap.size,0,none⟩) 1 1) (w':=w7.alloc (.cells cz 50)) rfl 24 1 #[(0,.tmp 14)] rfl ?_ ?_);(simp only [List.map_toArray,List.map_cons,List.map_nil];exact HBS.out w7))
        | (at_builtin;refine wpList_appE rfl (.tmp 12) (.tmp 15) rfl rfl (ho7.alloc _) rfl (news:=[z]) (B:=w7.heap.size + 1) ?hd1 rfl ?hd2 ?hd3 ?_)
      case hd1 =>
        have h:=Rd.made w7 cz 50 (0,0);rw [show ecsL [z] = cz.toList by rw [HCZ.out];simp [ecsL]];exact h
      case hd2=>have:=HNB.out;omega
      case hd3=>simp;omega
      intro A3 c3 w8 o8 g8 m8 b8;have gb8:=gb7.trans (((Below.refl _ _).alloc hs7 (.cells cz 50)).trans b8)
      have hys8 : ∀ y ∈ ys ++ [z],EvOwn w8 B y:=fun y hy=>by
        have hy2 : EvOwn w7 B y:=by
          rcases List.mem_append.1 hy with h | h
          · exact HYS7.out y h
          · simp at h;rw [h];exact HZ.out
        exact ⟨hy2.1,(hy2.2.1.alloc (.cells cz 50)).grown g8 (own2_ne hy2.2.1.2 ho7.2 (by decide)),hy2.2.2⟩
      have HYS8:=Lib.hid hys8;clear hys8 g8 m8 b8 HYS7;go_wp2_with fail
      go_roundw
      case rel=>exact ⟨k + 1,A3,c3,ys ++ [z],by omega,num_succ k (by have:=HNB.out;omega),rfl,o8,HYS8.out,by rw [HSN.out,List.map_append,List.map_append,HMP.out];simp [HZE.out],gb8⟩
      case measure=>exact meas_succ k n hlt (by have:=HNB.out;omega)
    · have hkn : k = n:=by omega
      have hkd : decide ((k : Int) < (n : Int)) = false:=decide_eq_false (by omega);have hmp:=HMP.out;rw [List.take_of_length_le (by rw [← HN.out];omega)] at hmp;have HMP2:=Lib.hid hmp;clear hmp HMP;subst hkn;go_wp2_with fail;go_ret;exact ⟨A',c',ys,rfl,by rw [← HB.out];exact ho,by rw [← HB.out];exact HYS.out,HMP2.out,by rw [← HB.out];exact gb⟩
end Go.Proofs.Ytcgalmnllegnbaa

namespace Go.Proofs.Ytcgalmnllegnbaa
set_option linter.unusedVariables false
set_option linter.unusedSimpArgs false
set_option maxRecDepth 100000
open Go.RowKit
def leftL (l : List Bool) : Nat:=(l.filter fun b=>!b).length
theorem leftL_set : ∀ (l : List Bool) (i : Nat),l[i]? = some false→leftL (l.set i true) + 1 = leftL l
  | [],i,h=>by simp at h
  | b :: l,0,h=>by
    simp at h
    subst h
    simp [leftL]
  | b :: l,i + 1,h=>by
    have ih:=leftL_set l i (by simpa using h)
    cases b
    · simp [leftL] at ih ⊢
      omega
    · simp [leftL] at ih ⊢
      omega
theorem leftL_zero : ∀ (l : List Bool),leftL l = 0→∀ (i : Nat) b,l[i]? = some b→b = true
  | [],_,i,b,h=>by simp at h
  | c :: l,h0,0,b,h=>by
    simp at h
    subst h
    cases c
    · simp [leftL] at h0
    · rfl
  | c :: l,h0,i + 1,b,h=>by
    refine leftL_zero l ?_ i b (by simpa using h)
    cases c
    · simp [leftL] at h0
    · simpa [leftL] using h0
def upd (L : Nat→Bool) (i : Nat) : Nat→Bool:=fun j=>if j = i then true else L j
section
variable {P : Program} {ops : Array Oper} {Q : Exit→Act→World→Prop} {md : Region.Mode} {I : (Nat→Bool)→Act→World→Prop}
theorem wpAny_inv (hstep : ∀ i o (L : Nat→Bool) a w,ops[i]? = some o→L i = false→(∀ e ∈ o.after,Region.binds md e = true→L e.on = true)→I L a w→wpOp P ops Q i (I (upd L i)) a w)
    (hend : ∀ (L : Nat→Bool) a w,(∀ i,i < ops.size→L i = true)→I L a w→Q .normal a w)
    (htop : ∀ i o,ops[i]? = some o→∀ e ∈ o.after,Region.binds md e = true→e.on < i) :
    ∀ (fuel : Nat) (listed : Array Bool) (a : Act) (w : World),listed.size = ops.size→leftL listed.toList≤fuel→I (fun i=>listed.getD i true) a w→wpAny P md ops Q fuel listed a w:=by
  have hall : ∀ (listed : Array Bool),listed.size = ops.size→Region.ready md ops listed = []→∀ i,i < ops.size→listed.getD i true = true:=by
    intro listed hs h0 i
    induction i using Nat.strongRecOn with
    | ind i ih =>
      intro hi
      false_or_by_contra
      rename_i hne
      have hf : listed.getD i true = false:=by simpa using hne
      have ho : ops[i]? = some ops[i]:=Array.getElem?_eq_getElem hi
      have hm : i ∈ Region.ready md ops listed:=mem_ready.2 ⟨hf,ops[i],ho,fun e he hb=>by
        have h1:=htop i _ ho e he hb;have h2:=ih e.on h1 (by omega);rw [Array.getD_eq_getD_getElem?,Array.getElem?_eq_getElem (by omega)] at h2 ⊢
        exact h2⟩
      rw [h0] at hm
      cases hm
  intro fuel
  induction fuel with
  | zero =>
    intro listed a w hs hl hI
    have ht : ∀ i,i < ops.size→listed.getD i true = true:=fun i hi=>by
      have h1 : listed.toList[i]? = some listed[i]:=by rw [Array.getElem?_toList,Array.getElem?_eq_getElem (by omega)]
      have h2:=leftL_zero _ (by omega) i _ h1;rw [Array.getD_eq_getD_getElem?,Array.getElem?_eq_getElem (by omega)];exact h2
    refine ⟨?_,hend _ a w ht hI⟩;rw [List.eq_nil_iff_forall_not_mem];intro j hj;obtain ⟨h1,o,ho,_⟩:=mem_ready.1 hj;rw [ht j (Array.getElem?_eq_some_iff.1 ho).1] at h1
    cases h1
  | succ fuel ih =>
    intro listed a w hs hl hI;refine ⟨fun h0=>hend _ a w (hall listed hs h0) hI,fun i hi=>?_⟩;obtain ⟨h1,o,ho,hd⟩:=mem_ready.1 hi
    have hlt : i < listed.size:=by have:=(Array.getElem?_eq_some_iff.1 ho).1;omega
    have hst:=hstep i o (fun i=>listed.getD i true) a w ho h1 (fun e he hb=>by
      have h2:=hd e he hb
      show listed.getD e.on true = true
      rcases Nat.lt_or_ge e.on listed.size with h | h
      · rw [Array.getD_eq_getD_getElem?,Array.getElem?_eq_getElem h] at h2 ⊢
        exact h2
      · rw [Array.getD_eq_getD_getElem?,Array.getElem?_eq_none h]
        rfl) hI
    refine wpOp_mono (fun a' w' h=>ih _ a' w' (by simpa using hs) ?_ ?_) hst
    · have h3 : listed.toList[i]? = some false:=by
        rw [Array.getElem?_toList,Array.getElem?_eq_getElem hlt];rw [Array.getD_eq_getD_getElem?,Array.getElem?_eq_getElem hlt] at h1;exact congrArg some h1
      have h4:=leftL_set _ i h3;rw [Array.toList_setIfInBounds]
      omega
    · have e : (fun j=>(listed.setIfInBounds i true).getD j true) = upd (fun j=>listed.getD j true) i:=by
        funext j
        unfold upd
        by_cases hj : j = i
        · subst hj
          rw [if_pos rfl,Array.getD_eq_getD_getElem?]
          simp [hlt]
        · rw [if_neg hj]
          show (listed.setIfInBounds i true).getD j true = listed.getD j true
          rw [Array.getD_eq_getD_getElem?,Array.getD_eq_getD_getElem?,Array.getElem?_setIfInBounds_ne (fun e=>hj e.symm)]
      rw [e];exact h
def waits (md : Region.Mode) (o : Oper) : List Nat:=(o.after.toList.filter fun e=>Region.binds md e).map (·.on)
structure InvSteps (P : Program) (md : Region.Mode) (ops : Array Oper) (Q : Exit→Act→World→Prop) (I : (Nat→Bool)→Act→World→Prop) (rs : List Nat) : Prop where
  out : ∀ i ∈ rs,∀ o (L : Nat→Bool) a w,ops[i]? = some o→L i = false→(∀ d ∈ waits md o,L d = true)→I L a w→wpOp P ops Q i (I (upd L i)) a w
theorem InvSteps.nil : InvSteps P md ops Q I []:=⟨fun _ h=>by cases h⟩
theorem InvSteps.cons {i : Nat} {o : Oper} {ds : List Nat} {rs : List Nat} (ho : ops[i]? = some o) (hd : waits md o = ds)
    (h : ∀ (L : Nat→Bool) (a : Act) (w : World),L i = false→(∀ d ∈ ds,L d = true)→I L a w→∀ K : Act→World→Prop,Shut (∀ a w,I (upd L i) a w→K a w)→if Region.wanted o (yielded ops a.tmps) = true then Oper.wp P o a w K Q else K (a.put o.dst undef) w)
    (hs : InvSteps P md ops Q I rs) : InvSteps P md ops Q I (i :: rs):=⟨fun j hj=>by
  rcases List.mem_cons.1 hj with rfl | hj
  · intro o' L a w ho' hL hdep hI
    rw [ho] at ho'
    injection ho' with ho'
    subst ho';rw [hd] at hdep;exact wpOp_step ho (fun K hK=>h L a w hL hdep hI K hK)
  · exact hs.out j hj⟩
theorem wp_region_inv (I : (Nat→Bool)→Act→World→Prop) {id : Nat} {a : Act} {w : World} (hm : P.follows .mixedOrders = true)
    (htop : ((List.range ops.size).all fun i=>((ops[i]?).map fun o=>(waits .any o).all fun d=>decide (d < i)).getD true) = true)
    (h0 : ∀ L : Nat→Bool,(∀ i,i < ops.size→L i = false)→I L a w.drew) (hst : InvSteps P .any ops Q I (List.range ops.size))
    (hend : ∀ (L : Nat→Bool) a w,(∀ i,i < ops.size→L i = true)→I L a w→Q .normal a w) : (Code.region id ops true).wp P Q a w:=by
  refine wp_region_any hm (wpAny_inv (I:=I) ?_ hend ?_ ops.size _ a _ (by simp) ?_ ?_)
  · intro i o L a w ho hL hdep hI
    refine hst.out i (List.mem_range.2 (Array.getElem?_eq_some_iff.1 ho).1) o L a w ho hL (fun d hd=>?_) hI
    unfold waits at hd
    obtain ⟨e,he,rfl⟩:=List.mem_map.1 hd;obtain ⟨h1,h2⟩:=List.mem_filter.1 he;exact hdep e (by simpa using h1) h2
  · intro i o ho e he hb
    have h1:=List.all_eq_true.1 htop i (List.mem_range.2 (Array.getElem?_eq_some_iff.1 ho).1);rw [ho] at h1
    simp only [Option.map_some,Option.getD_some] at h1
    have h2:=List.all_eq_true.1 h1 e.on (by
      unfold waits
      exact List.mem_map.2 ⟨e,List.mem_filter.2 ⟨by simpa using he,hb⟩,rfl⟩)
    exact of_decide_eq_true h2
  · rw [Array.toList_replicate]
    unfold leftL
    exact Nat.le_trans (List.length_filter_le _ _) (by simp)
  · have e : (fun i=>(Array.replicate ops.size false).getD i true) = fun i=>decide (ops.size≤i):=by
      funext i
      rw [Array.getD_eq_getD_getElem?,Array.getElem?_replicate]
      by_cases h : i < ops.size
      · rw [if_pos h]
        simp
        omega
      · rw [if_neg h]
        simp
        omega
    rw [e]
    exact h0 _ fun i hi=>decide_eq_false (by omega)
end
end Go.Proofs.Ytcgalmnllegnbaa

namespace Go.Proofs.Ytcgalmnllegnbaa
set_option linter.unusedVariables false
set_option linter.unusedSimpArgs false
set_option maxRecDepth 100000
open Go.RowKit
def upv (v : Nat→Value) (d : Option Nat) (x : Value) : Nat→Value:=match d with
  | some d=>fun s=>if s = d then x else v s
  | none=>v
def finA (a : Act) (v : Nat→Value) (ds : List Nat) : Act:=ds.foldl (fun b d=>b.put (some d) (v d)) a
structure Frm (ops : Array Oper) (a0 a : Act) (L : Nat→Bool) : Prop where
  defers : a.defers = a0.defers
  size : a.tmps.size = a0.tmps.size
  old : ∀ s,(∀ i o,ops[i]? = some o→o.dst = some s→L i = false)→a.tmps[s]? = a0.tmps[s]?
  closed : ∀ i o,ops[i]? = some o→L i = true→∀ d ∈ waits .any o,L d = true
theorem put_size (a : Act) (d : Option Nat) (x : Value) : (a.put d x).tmps.size = a.tmps.size:=by
  unfold Act.put
  cases d <;> simp
theorem put_defers (a : Act) (d : Option Nat) (x : Value) : (a.put d x).defers = a.defers:=by
  unfold Act.put
  cases d <;> rfl
theorem put_slot (a : Act) (d : Nat) (x : Value) (s : Nat) : (a.put (some d) x).tmps[s]? = if s = d∧d < a.tmps.size then some x else a.tmps[s]?:=by
  unfold Act.put
  simp only [Array.getElem?_setIfInBounds]
  by_cases e : d = s
  · subst e
    by_cases h : d < a.tmps.size
    · simp [h]
    · simp [h]
  · rw [if_neg e,if_neg (fun h=>e h.1.symm)]
theorem put_eval (a : Act) (d : Option Nat) (x : Value) (hd : ∀ k,d = some k→k < a.tmps.size) (v : Nat→Value) (hv : ∀ s,a.eval (.tmp s) = v s) : ∀ s,(a.put d x).eval (.tmp s) = upv v d x s:=by
  intro s
  cases d with
  | none=>exact hv s
  | some k =>
    have hk:=hd k rfl
    show (a.put (some k) x).tmps.getD s undef = if s = k then x else v s
    rw [Array.getD_eq_getD_getElem?,put_slot]
    by_cases e : s = k
    · rw [if_pos ⟨e,hk⟩,if_pos e];rfl
    · rw [if_neg (fun h=>e h.1),if_neg e,← hv s]
      show _ = a.tmps.getD s undef
      rw [Array.getD_eq_getD_getElem?]
theorem finA_get (v : Nat→Value) (s : Nat) : ∀ (ds : List Nat) (a : Act),(finA a v ds).tmps[s]? = if s ∈ ds∧s < a.tmps.size then some (v s) else a.tmps[s]?:=by
  intro ds
  induction ds with
  | nil=>intro a;simp [finA]
  | cons d ds ih =>
    intro a
    show (finA (a.put (some d) (v d)) v ds).tmps[s]? = _
    rw [ih,put_size,put_slot]
    by_cases e : s = d
    · subst e
      by_cases h : s < a.tmps.size
      · rw [if_pos (⟨List.mem_cons_self ..,h⟩ : s ∈ s :: ds∧_)]
        by_cases hm : s ∈ ds
        · rw [if_pos ⟨hm,h⟩]
        · rw [if_neg (fun x=>hm x.1),if_pos ⟨rfl,h⟩]
      · rw [if_neg (fun x=>h x.2),if_neg (fun x=>h x.2),if_neg (fun x=>h x.2)]
    · rw [if_neg (fun x : s = d∧_=>e x.1)]
      by_cases hm : s ∈ ds∧s < a.tmps.size
      · rw [if_pos hm,if_pos ⟨List.mem_cons_of_mem _ hm.1,hm.2⟩]
      · rw [if_neg hm,if_neg (fun x=>hm ⟨(List.mem_cons.1 x.1).resolve_left e,x.2⟩)]
theorem finA_defers (v : Nat→Value) : ∀ (ds : List Nat) (a : Act),(finA a v ds).defers = a.defers:=by
  intro ds
  induction ds with
  | nil=>intro a;rfl
  | cons d ds ih=>intro a;exact (ih _).trans (put_defers ..)
section
variable {P : Program} {ops : Array Oper} {Q : Exit→Act→World→Prop} {J : (Nat→Bool)→(Nat→Value)→World→Prop}
structure FactSteps (P : Program) (ops : Array Oper) (Q : Exit→Act→World→Prop) (J : (Nat→Bool)→(Nat→Value)→World→Prop) (rs : List Nat) : Prop where
  out : ∀ i ∈ rs,∀ o (L : Nat→Bool) (a : Act) (v : Nat→Value) w,ops[i]? = some o→(∀ s,a.eval (.tmp s) = v s)→L i = false→(∀ d ∈ waits .any o,L d = true)→(∀ i o,ops[i]? = some o→L i = true→∀ d ∈ waits .any o,L d = true)→J L v w →
    ∀ K : Act→World→Prop,Shut (∀ x w',J (upd L i) (upv v o.dst x) w'→K (a.put o.dst x) w')→if Region.wanted o (yielded ops a.tmps) = true then Oper.wp P o a w K Q else K (a.put o.dst undef) w
theorem FactSteps.nil : FactSteps P ops Q J []:=⟨fun _ h=>by cases h⟩
theorem FactSteps.cons {i : Nat} {o : Oper} {ds : List Nat} {rs : List Nat} (ho' : ops.toList[i]? = some o) (hd : waits .any o = ds)
    (h : ∀ (L : Nat→Bool) (a : Act) (v : Nat→Value) (w : World),(∀ s : Nat,a.eval (.tmp s) = v s)→(∀ s : Nat,(a.tmps[s]?).getD undef = v s)→L i = false→(∀ d ∈ ds,L d = true)→(∀ i o,ops[i]? = some o→L i = true→∀ d ∈ waits .any o,L d = true)→J L v w →
      ∀ K : Act→World→Prop,Shut (∀ x w',J (upd L i) (upv v o.dst x) w'→K (a.put o.dst x) w')→if Region.wanted o (yielded ops a.tmps) = true then Oper.wp P o a w K Q else K (a.put o.dst undef) w)
    (hs : FactSteps P ops Q J rs) : FactSteps P ops Q J (i :: rs):=⟨fun j hj=>by
  rcases List.mem_cons.1 hj with rfl | hj
  · intro o' L a v w ho hv hL hdep hcl hJ K hK
    rw [← Array.getElem?_toList,ho'] at ho
    injection ho with ho
    subst ho;rw [hd] at hdep;refine h L a v w hv (fun s=>?_) hL hdep hcl hJ K hK;rw [← hv s]
    show _ = a.tmps.getD s undef
    rw [Array.getD_eq_getD_getElem?]
  · exact hs.out j hj⟩
theorem wp_region_facts (J : (Nat→Bool)→(Nat→Value)→World→Prop) (ds : List Nat) {id : Nat} {a : Act} {w : World} (hm : P.follows .mixedOrders = true)
    (htop : ((List.range ops.size).all fun i=>((ops[i]?).map fun o=>(waits .any o).all fun d=>decide (d < i)).getD true) = true)
    (hds : (ops.toList.filterMap (fun o : Oper=>o.dst)) = ds) (hin : (ds.all fun d=>decide (d < a.tmps.size)) = true)
    (h0 : ∀ L : Nat→Bool,(∀ i,i < ops.size→L i = false)→J L (fun s=>a.eval (.tmp s)) w.drew) (hst : FactSteps P ops Q J (List.range ops.size))
    (hend : ∀ (L : Nat→Bool) (v : Nat→Value) w',(∀ i,i < ops.size→L i = true)→J L v w'→Q .normal (finA a v ds) w') : (Code.region id ops true).wp P Q a w:=by
  have hdst : ∀ (i : Nat) (o : Oper) (k : Nat),ops[i]? = some o→o.dst = some k→k ∈ ds:=fun i o k ho hk=>by
    rw [← hds,List.mem_filterMap];exact ⟨o,by rw [← Array.getElem?_toList] at ho;exact List.mem_of_getElem? ho,hk⟩
  have hlt : ∀ k,k ∈ ds→k < a.tmps.size:=fun k hk=>of_decide_eq_true (List.all_eq_true.1 hin k hk)
  refine wp_region_inv (I:=fun L b w'=>Frm ops a b L∧J L (fun s=>b.eval (.tmp s)) w') hm htop ?_ ?_ ?_
  · intro L hL
    refine ⟨⟨rfl,rfl,fun _ _=>rfl,fun i o ho h=>?_⟩,h0 L hL⟩;rw [hL i (Array.getElem?_eq_some_iff.1 ho).1] at h
    cases h
  · refine ⟨fun i hi o L b w' ho hL hdep ⟨hF,hJ⟩=>wpOp_step ho fun K hK=>?_⟩
    refine hst.out i hi o L b (fun s=>b.eval (.tmp s)) w' ho (fun _=>rfl) hL hdep hF.closed hJ K fun x w'' h=>hK _ _ ⟨⟨?_,?_,?_,?_⟩,?_⟩
    · rw [put_defers];exact hF.defers
    · rw [put_size];exact hF.size
    · intro s hs
      have hs' : ∀ i' o',ops[i']? = some o'→o'.dst = some s→L i' = false:=fun i' o' h1 h2=>by
        have:=hs i' o' h1 h2
        unfold upd at this
        split at this
        · cases this
        · exact this
      have hne : o.dst ≠ some s:=fun e=>by
        have:=hs i o ho e
        unfold upd at this
        rw [if_pos rfl] at this
        cases this
      cases hd : o.dst with
      | none=>exact hF.old s hs'
      | some k =>
        rw [put_slot,if_neg (fun e=>hne (by rw [hd,e.1])),hF.old s hs']
    · intro i' o' ho' hl d hdw
      unfold upd at hl ⊢
      by_cases e : i' = i
      · subst e
        rw [ho] at ho'
        injection ho' with ho'
        subst ho';rw [hdep d hdw]
        split <;> rfl
      · rw [if_neg e] at hl
        rw [hF.closed i' o' ho' hl d hdw]
        split <;> rfl
    · have he:=put_eval b o.dst x (fun k hk=>by rw [hF.size];exact hlt k (hdst i o k ho hk)) _ (fun _=>rfl)
      have : (fun s=>(b.put o.dst x).eval (.tmp s)) = upv (fun s=>b.eval (.tmp s)) o.dst x:=funext he;rw [this];exact h
  · rintro L b w' hall ⟨hF,hJ⟩
    have hb : b = finA a (fun s=>b.eval (.tmp s)) ds:=by
      have h1 : b.tmps = (finA a (fun s=>b.eval (.tmp s)) ds).tmps:=by
        apply Array.ext_getElem?
        intro s;rw [finA_get]
        by_cases hs : s ∈ ds
        · have hsl:=hlt s hs
          rw [if_pos ⟨hs,hsl⟩]
          show b.tmps[s]? = some (b.tmps.getD s undef)
          rw [Array.getD_eq_getD_getElem?,Array.getElem?_eq_getElem (by rw [hF.size];exact hsl)]
          rfl
        · rw [if_neg (fun h=>hs h.1)]
          exact hF.old s fun i o ho hd=>absurd (hdst i o s ho hd) hs
      have h2 : b.defers = (finA a (fun s=>b.eval (.tmp s)) ds).defers:=by rw [finA_defers];exact hF.defers
      cases b
      generalize finA a _ ds = c at *
      cases c
      simp only at h1 h2
      rw [h1,h2]
    rw [hb];exact hend L _ w' hall hJ
theorem wanted_none {o : Oper} {f : Nat→Option Bool} (h : o.guard = none) : Region.wanted o f = true:=by simp [Region.wanted,h]
theorem yielded_of {a : Act} {j s : Nat} {b : Bool} (hj : ((ops[j]?).bind fun o : Oper=>o.dst) = some s) (hv : a.eval (.tmp s) = .bool b) : yielded ops a.tmps j = some b:=by
  have h1 : a.tmps.getD s undef = .bool b:=hv
  unfold yielded
  rw [hj,Option.bind_some];rw [Array.getD_eq_getD_getElem?] at h1
  cases h : a.tmps[s]? with
  | none=>rw [h] at h1;cases h1
  | some x =>
    rw [h] at h1
    simp only [Option.getD_some] at h1
    subst h1
    rfl
theorem step_skip {o : Oper} {a : Act} {w : World} {K : Act→World→Prop} {j s : Nat} {b b' : Bool} (hg : o.guard = some (j,b')) (hj : ((ops[j]?).bind fun o : Oper=>o.dst) = some s) (hv : a.eval (.tmp s) = .bool b) (hne : b ≠ b') (h : K (a.put o.dst undef) w) :
    if Region.wanted o (yielded ops a.tmps) = true then Oper.wp P o a w K Q else K (a.put o.dst undef) w:=by
  have hw : Region.wanted o (yielded ops a.tmps) = false:=by
    unfold Region.wanted
    rw [hg]
    simp only [yielded_of hj hv]
    cases b <;> cases b' <;> simp at hne ⊢
  rw [hw];exact h
theorem step_want {o : Oper} {a : Act} {w : World} {K : Act→World→Prop} {E : Prop} {j s : Nat} {b : Bool} (hg : o.guard = some (j,b)) (hj : ((ops[j]?).bind fun o : Oper=>o.dst) = some s) (hv : a.eval (.tmp s) = .bool b) (h : Oper.wp P o a w K Q) :
    if Region.wanted o (yielded ops a.tmps) = true then Oper.wp P o a w K Q else E:=by
  have hw : Region.wanted o (yielded ops a.tmps) = true:=by
    unfold Region.wanted
    rw [hg]
    simp only [yielded_of hj hv]
    simp
  rw [if_pos hw];exact h
theorem step_do {o : Oper} {a : Act} {w : World} {K : Act→World→Prop} {E : Prop} (hg : o.guard = none) (h : Oper.wp P o a w K Q) :
    if Region.wanted o (yielded ops a.tmps) = true then Oper.wp P o a w K Q else E:=by
  rw [if_pos (wanted_none hg)];exact h
theorem wp_ld {o : Oper} {a : Act} {w : World} {K : Act→World→Prop} {T t : TypeId} {n g : Nat} {cs : Array Value} (hR : RowT P T n) (x : Operand) (ho : o.op = .load T x) (hx : a.eval x = .pointer (some ⟨g,0,none⟩)) (hB : Blk w g t cs) (hn : cs.size = n)
    (h : K (a.put o.dst (.agg cs)) w) : Oper.wp P o a w K Q:=by
  obtain ⟨e,hu,hd,hi⟩:=hR;rw [← hn,← Array.length_toList] at hi;exact wp_load_mid T x ho g 0 hx cs.toList e hB.range hu hd hi (by simpa using h)
end
theorem new_below {w w' : World} {o : Obj} (h : (w.alloc o).grownBy w' (some w.heap.size)) : Below w.heap.size w w' :=
  ((Below.refl _ _).alloc (Nat.le_refl _) o).grown h (by simp) (fun q hq=>by injection hq with hq;omega)
theorem blk_ne {w : World} {g g' : Nat} {t t' : TypeId} {cs ds : Array Value} (h : Blk w g t cs) (k : Blk w g' t' ds) (hne : t ≠ t') : g ≠ g':=fun e=>by
  subst e
  unfold Blk at h k
  rw [h] at k
  injection k with k
  injection k with _ k
  exact hne k
theorem wpList_ldr {P : Program} {ops : Array Oper} {rest : List Oper} {a : Act} {w : World} {Q : Exit→Act→World→Prop} {d : Option Tmp} {ty T : TypeId} {pos : String} {aft : Array Edge} {x : Operand} {b o n : Nat} {cs : Array Value} (hR : RowT P T n) (hc : w.rangeAt b o cs.toList) (hn : cs.size = n)
    (h : wpList P ops Q rest (a.put d (.agg cs)) w) (hx : a.eval x = .pointer (some ⟨b,o,none⟩)) : wpList P ops Q (⟨d,.load T x,ty,pos,aft,none⟩ :: rest) a w:=by
  obtain ⟨e,hu,hd,hi⟩:=hR;rw [← hn,← Array.length_toList] at hi;exact wpList_load_mid rfl T x rfl b o hx cs.toList e hc hu hd hi (by simpa using h)
theorem wpList_ldrg {P : Program} {ops : Array Oper} {rest : List Oper} {a : Act} {w : World} {Q : Exit→Act→World→Prop} {d : Option Tmp} {ty T : TypeId} {pos : String} {aft : Array Edge} {gd : Option (Nat × Bool)} {x : Operand} {b o n : Nat} {cs : Array Value} (hR : RowT P T n) (hc : w.rangeAt b o cs.toList) (hn : cs.size = n)
    (h : wpList P ops Q rest (a.put d (.agg cs)) w) (hx : a.eval x = .pointer (some ⟨b,o,none⟩)) (hw : Region.wanted ⟨d,.load T x,ty,pos,aft,gd⟩ (yielded ops a.tmps) = true) : wpList P ops Q (⟨d,.load T x,ty,pos,aft,gd⟩ :: rest) a w:=by
  obtain ⟨e,hu,hd,hi⟩:=hR;rw [← hn,← Array.length_toList] at hi
  refine wpList_step fun K hK=>?_
  rw [if_pos hw];exact wp_load_mid T x rfl b o hx cs.toList e hc hu hd hi (hK _ _ (by simpa using h))
theorem wpList_ix {P : Program} {ops : Array Oper} {rest : List Oper} {a : Act} {w : World} {v u : Value} {i : Int} {Q : Exit→Act→World→Prop} {d : Option Tmp} {ty T : TypeId} {pos : String} {aft : Array Edge} {x y : Operand}
    (hrun : (Instr.index T u (.int .i64 i)).run P w = .ok v w) (h : wpList P ops Q rest (a.put d v) w) (hx : a.eval x = u) (hy : a.eval y = .int .i64 i) : wpList P ops Q (⟨d,.index T x y,ty,pos,aft,none⟩ :: rest) a w:=by
  refine wpList_plain rfl fun K hK=>?_
  unfold Oper.wp execOp
  simp only [hx,hy,Sem.run_bind,hrun,Result.andThen_ok]
  exact hK _ _ h
def waitsAt (ops : Array Oper) (i : Nat) : List Nat:=((ops[i]?).map fun o=>waits .any o).getD []
theorem off_of {ops : Array Oper} {L : Nat→Bool} (hcl : ∀ i o,ops[i]? = some o→L i = true→∀ d ∈ waits .any o,L d = true) {j : Nat} {ds : List Nat} (hw : waitsAt ops j = ds) {d : Nat} (hm : d ∈ ds) (hL : L d = false) : L j = false:=by
  cases h : L j with
  | false=>rfl
  | true =>
    unfold waitsAt at hw
    cases ho : ops[j]? with
    | none =>
      rw [ho] at hw
      simp only [Option.map_none,Option.getD_none] at hw
      rw [← hw] at hm
      cases hm
    | some o =>
      rw [ho] at hw
      simp only [Option.map_some,Option.getD_some] at hw
      have:=hcl j o ho h d (by rw [hw];exact hm)
      rw [hL] at this
      cases this
def reach (ops : Array Oper) : Nat→Nat→List Nat
  | 0,_=>[]
  | f + 1,t=>waitsAt ops t ++ (waitsAt ops t).flatMap (reach ops f)
theorem reach_on {ops : Array Oper} {L : Nat→Bool} (hcl : ∀ i o,ops[i]? = some o→L i = true→∀ d ∈ waits .any o,L d = true) : ∀ (f t d : Nat),d ∈ reach ops f t→L t = true→L d = true:=by
  have hw : ∀ t d,d ∈ waitsAt ops t→L t = true→L d = true:=fun t d hd hL=>by
    cases h : L d with
    | true=>rfl
    | false=>rw [off_of hcl (j:=t) rfl hd h] at hL;cases hL
  intro f
  induction f with
  | zero=>intro t d h _;cases h
  | succ f ih =>
    intro t d h hL
    unfold reach at h
    rcases List.mem_append.1 h with h | h
    · exact hw t d h hL
    · obtain ⟨e,he,hde⟩:=List.mem_flatMap.1 h
      exact ih e d hde (hw t e he hL)
theorem wp_region_tailF {P : Program} {ops : Array Oper} {Q : Exit→Act→World→Prop} (F n0 : Nat) (J : (Nat→Bool)→(Nat→Value)→World→Prop) (ds : List Nat) {id : Nat} {a : Act} {w : World} (hm : P.follows .mixedOrders = true)
    (htop : ((List.range ops.size).all fun i=>((ops[i]?).map fun o=>(waits .any o).all fun d=>decide (d < i)).getD true) = true)
    (hds : ((ops.toList.take n0).filterMap (fun o : Oper=>o.dst)) = ds) (hin : (ds.all fun d=>decide (d < a.tmps.size)) = true)
    (hn : decide (n0 < ops.size) = true) (hr : ((List.range ops.size).all fun t=>decide (t < n0) || (List.range t).all fun d=>(reach ops F t).contains d) = true)
    (h0 : ∀ L : Nat→Bool,(∀ i,i < n0→L i = false)→J L (fun s=>a.eval (.tmp s)) w.drew) (hst : FactSteps P ops Q J (List.range n0))
    (hend : ∀ (L : Nat→Bool) (v : Nat→Value) w',(∀ i,i < n0→L i = true)→J L v w'→wpList P ops Q (ops.toList.drop n0) (finA a v ds) w') : (Code.region id ops true).wp P Q a w:=by
  have hn : n0 < ops.size:=of_decide_eq_true hn
  have hdst : ∀ (i : Nat) (o : Oper) (k : Nat),i < n0→ops[i]? = some o→o.dst = some k→k ∈ ds:=fun i o k hi ho hk=>by
    rw [← hds,List.mem_filterMap];refine ⟨o,?_,hk⟩;rw [← Array.getElem?_toList] at ho
    have : (ops.toList.take n0)[i]? = some o:=by rw [List.getElem?_take,if_pos hi];exact ho
    exact List.mem_of_getElem? this
  have hlt : ∀ k,k ∈ ds→k < a.tmps.size:=fun k hk=>of_decide_eq_true (List.all_eq_true.1 hin k hk)
  have hbef : ∀ t,n0≤t→t < ops.size→∀ d,d < t→d ∈ reach ops F t:=fun t h1 h2 d hd=>by
    have h3:=List.all_eq_true.1 hr t (List.mem_range.2 h2);rw [Bool.or_eq_true] at h3
    rcases h3 with h3 | h3
    · have:=of_decide_eq_true h3;omega
    · have h4:=List.all_eq_true.1 h3 d (List.mem_range.2 hd)
      simpa using h4
  refine wp_region_inv (I:=fun L b w'=>(∀ i o,ops[i]? = some o→L i = true→∀ d ∈ waits .any o,L d = true)∧((∀ t,n0≤t→t < ops.size→L t = false)→Frm ops a b L∧J L (fun s=>b.eval (.tmp s)) w') ∧
    (∀ j,n0≤j→j < ops.size→L j = true→(∀ t,j < t→t < ops.size→L t = false)→wpList P ops Q (ops.toList.drop (j + 1)) b w')) hm htop ?_ ?_ ?_
  · intro L hL
    refine ⟨fun i o ho h=>?_,fun _=>⟨⟨rfl,rfl,fun _ _=>rfl,fun i o ho h=>?_⟩,h0 L fun i hi=>hL i (by omega)⟩,fun j h1 h2 h3=>?_⟩
    · rw [hL i (Array.getElem?_eq_some_iff.1 ho).1] at h;cases h
    · rw [hL i (Array.getElem?_eq_some_iff.1 ho).1] at h;cases h
    · rw [hL j h2] at h3;cases h3
  · refine ⟨fun i hi o L b w' ho hL hdep ⟨hcl,hF,hT⟩=>?_⟩
    have hin':=List.mem_range.1 hi
    have hcl' : ∀ i' o',ops[i']? = some o'→upd L i i' = true→∀ d ∈ waits .any o',upd L i d = true:=by
      intro i' o' ho' hl d hdw
      unfold upd at hl ⊢
      by_cases e : i' = i
      · subst e
        rw [ho] at ho'
        injection ho' with ho'
        subst ho';rw [hdep d hdw]
        split <;> rfl
      · rw [if_neg e] at hl
        rw [hcl i' o' ho' hl d hdw]
        split <;> rfl
    have hoff : ∀ t,n0≤t→i < t→t < ops.size→L t = false:=fun t h1 h2 h3=>by
      cases h : L t with
      | false=>rfl
      | true =>
        have:=reach_on hcl F t i (hbef t h1 h3 i h2) h
        rw [hL] at this
        cases this
    by_cases hc : i < n0
    · have hall : ∀ t,n0≤t→t < ops.size→L t = false:=fun t h1 h2=>hoff t h1 (by omega) h2
      obtain ⟨hF,hJ⟩:=hF hall
      refine wpOp_step ho fun K hK=>?_
      refine hst.out i (List.mem_range.2 hc) o L b (fun s=>b.eval (.tmp s)) w' ho (fun _=>rfl) hL hdep hcl hJ K fun x w'' h=>hK _ _ ⟨hcl',fun _=>⟨⟨?_,?_,?_,hcl'⟩,?_⟩,fun j h1 h2 h3=>?_⟩
      · rw [put_defers];exact hF.defers
      · rw [put_size];exact hF.size
      · intro s hs
        have hs' : ∀ i' o',ops[i']? = some o'→o'.dst = some s→L i' = false:=fun i' o' h1 h2=>by
          have:=hs i' o' h1 h2
          unfold upd at this
          split at this
          · cases this
          · exact this
        have hne : o.dst ≠ some s:=fun e=>by
          have:=hs i o ho e
          unfold upd at this
          rw [if_pos rfl] at this
          cases this
        cases hd : o.dst with
        | none=>exact hF.old s hs'
        | some k =>
          rw [put_slot,if_neg (fun e=>hne (by rw [hd,e.1])),hF.old s hs']
      · have he:=put_eval b o.dst x (fun k hk=>by rw [hF.size];exact hlt k (hdst i o k hc ho hk)) _ (fun _=>rfl)
        have : (fun s=>(b.put o.dst x).eval (.tmp s)) = upv (fun s=>b.eval (.tmp s)) o.dst x:=funext he;rw [this];exact h
      · unfold upd at h3
        rw [if_neg (by omega),hall j h1 h2] at h3
        cases h3
    · -- the tail
      have hbl : ∀ d,d < i→L d = true:=fun d hd=>by
        have hm:=hbef i (by omega) hin' d hd;have hup:=reach_on (L:=upd L i) hcl' F i d hm (by unfold upd;rw [if_pos rfl])
        unfold upd at hup
        rwa [if_neg (by omega)] at hup
      have hlist : wpList P ops Q (ops.toList.drop i) b w':=by
        by_cases e : i = n0
        · subst e
          obtain ⟨hF,hJ⟩:=hF fun t h1 h2=>by
            rcases Nat.lt_or_ge i t with h | h
            · exact hoff t h1 h h2
            · obtain rfl : t = i:=by omega
              exact hL
          have hb : b = finA a (fun s=>b.eval (.tmp s)) ds:=by
            have h1 : b.tmps = (finA a (fun s=>b.eval (.tmp s)) ds).tmps:=by
              apply Array.ext_getElem?
              intro s;rw [finA_get]
              by_cases hs : s ∈ ds
              · have hsl:=hlt s hs
                rw [if_pos ⟨hs,hsl⟩]
                show b.tmps[s]? = some (b.tmps.getD s undef)
                rw [Array.getD_eq_getD_getElem?,Array.getElem?_eq_getElem (by rw [hF.size];exact hsl)]
                rfl
              · rw [if_neg (fun h=>hs h.1)]
                refine hF.old s fun i' o' ho' hd=>?_
                rcases Nat.lt_or_ge i' i with h | h
                · exact absurd (hdst i' o' s h ho' hd) hs
                · rcases Nat.lt_or_ge i i' with h' | h'
                  · exact hoff i' (by omega) h' (Array.getElem?_eq_some_iff.1 ho').1
                  · obtain rfl : i' = i:=by omega
                    exact hL
            have h2 : b.defers = (finA a (fun s=>b.eval (.tmp s)) ds).defers:=by rw [finA_defers];exact hF.defers
            cases b
            generalize finA a _ ds = c at *
            cases c
            simp only at h1 h2
            rw [h1,h2]
          rw [hb];exact hend L _ w' (fun d hd=>hbl d hd) hJ
        · have:=hT (i - 1) (by omega) (by omega) (hbl _ (by omega)) fun t h1 h2=>by
            rcases Nat.lt_or_ge i t with h | h
            · exact hoff t (by omega) h h2
            · obtain rfl : t = i:=by omega
              exact hL
          rwa [show i - 1 + 1 = i by omega] at this
      have hdr : ops.toList.drop i = o :: ops.toList.drop (i + 1):=by
        rw [← Array.getElem?_toList] at ho;obtain ⟨h1,h2⟩:=List.getElem?_eq_some_iff.1 ho;rw [List.drop_eq_getElem_cons h1,h2]
      rw [hdr] at hlist
      have hwp : wpOp P ops Q i (wpList P ops Q (ops.toList.drop (i + 1))) b w':=by
        unfold wpOp
        rw [ho];exact hlist
      refine wpOp_mono (fun b' w'' h=>⟨hcl',fun hall=>?_,fun j h1 h2 h3 h4=>?_⟩) hwp
      · have:=hall i (by omega) hin'
        unfold upd at this
        rw [if_pos rfl] at this
        cases this
      · obtain rfl : j = i:=by
          rcases Nat.lt_trichotomy j i with h | h | h
          · have:=h4 i h hin'
            unfold upd at this
            rw [if_pos rfl] at this
            cases this
          · exact h
          · unfold upd at h3
            rw [if_neg (by omega),hoff j h1 h h2] at h3
            cases h3
        exact h
  · rintro L b w' hall ⟨_,_,hT⟩
    have:=hT (ops.size - 1) (by omega) (by omega) (hall _ (by omega)) fun t h1 h2=>by omega
    rw [show ops.size - 1 + 1 = ops.toList.length by simp;omega,List.drop_length] at this;exact this
theorem wp_region_tail {P : Program} {ops : Array Oper} {Q : Exit→Act→World→Prop} (n0 : Nat) (J : (Nat→Bool)→(Nat→Value)→World→Prop) (ds : List Nat) {id : Nat} {a : Act} {w : World} (hm : P.follows .mixedOrders = true)
    (htop : ((List.range ops.size).all fun i=>((ops[i]?).map fun o=>(waits .any o).all fun d=>decide (d < i)).getD true) = true)
    (hds : ((ops.toList.take n0).filterMap (fun o : Oper=>o.dst)) = ds) (hin : (ds.all fun d=>decide (d < a.tmps.size)) = true)
    (hn : decide (n0 < ops.size) = true) (hr : ((List.range ops.size).all fun t=>decide (t < n0) || (List.range t).all fun d=>(reach ops 3 t).contains d) = true)
    (h0 : ∀ L : Nat→Bool,(∀ i,i < n0→L i = false)→J L (fun s=>a.eval (.tmp s)) w.drew) (hst : FactSteps P ops Q J (List.range n0))
    (hend : ∀ (L : Nat→Bool) (v : Nat→Value) w',(∀ i,i < n0→L i = true)→J L v w'→wpList P ops Q (ops.toList.drop n0) (finA a v ds) w') : (Code.region id ops true).wp P Q a w :=
  wp_region_tailF 3 n0 J ds hm htop hds hin hn hr h0 hst hend
theorem offF {L : Nat→Bool} {n i : Nat} {R : Prop} (h : ∀ i,i < n→L i = false) (hi : i < n) : L i = true→R:=fun h2=>by rw [h i hi] at h2;cases h2
section
variable {T : TypeId} {n g : Nat} {b s : Bool} {p y : Value} {w w' : World}
end
end Go.Proofs.Ytcgalmnllegnbaa

namespace Go.Proofs.Ytcgalmnllegnbaa
set_option linter.unusedVariables false
set_option linter.unusedSimpArgs false
set_option maxRecDepth 100000
open Go.RowKit
open Ms (Mem)
theorem rowMb : RowT Try.prog 62 3:=⟨_,Try.underlying62,rfl,by kernel_rfl⟩
def MbAt (w : World) (B : Nat) (ad : Addr) (v : Mem) : Prop:=ad.block < B∧w.cell? ad = some (.int .i64 v.1)∧w.cell? ⟨ad.block,ad.off + 1,none⟩ = some (.int .i64 v.2.1)∧w.cell? ⟨ad.block,ad.off + 2,none⟩ = some (.int .i64 v.2.2)
def RdMb (w : World) (B : Nat) (A : Option Addr) (n : Nat) (l : List Mem) : Prop:=n = l.length∧∀ i v,l[i]? = some v→∃ ad,A = some ad∧MbAt w B (ad.add (i * 3)) v
def mbcs (l : List Mem) : List Value:=l.flatMap fun v=>[.int .i64 v.1,.int .i64 v.2.1,.int .i64 v.2.2]
section
variable {w w' : World} {B B' n : Nat} {A : Option Addr} {l : List Mem}
theorem MbAt.below {ad : Addr} {v : Mem} (h : MbAt w B ad v) (hb : Below B w w') : MbAt w' B ad v:=⟨h.1,(hb.cell h.1).trans h.2.1,(hb.cell (p:=⟨ad.block,ad.off + 1,none⟩) h.1).trans h.2.2.1,(hb.cell (p:=⟨ad.block,ad.off + 2,none⟩) h.1).trans h.2.2.2⟩
theorem RdMb.below (h : RdMb w B A n l) (hb : Below B w w') : RdMb w' B A n l:=⟨h.1,fun i d hi=>by obtain ⟨ad,e,h2⟩:=h.2 i d hi;exact ⟨ad,e,h2.below hb⟩⟩
theorem RdMb.more (h : RdMb w B A n l) (hB : B≤B') : RdMb w B' A n l:=⟨h.1,fun i d hi=>by obtain ⟨ad,e,h2,h3⟩:=h.2 i d hi;exact ⟨ad,e,by omega,h3⟩⟩
theorem RdMb.size (h : RdMb w B A n l) : RdMb w w.heap.size A n l:=⟨h.1,fun i d hi=>by obtain ⟨ad,e,h2,h3,h4⟩:=h.2 i d hi;exact ⟨ad,e,World.block_lt_of_cell? w _ h3,h3,h4⟩⟩
theorem RdMb.drew (h : RdMb w B A n l) : RdMb w.drew B A n l:=h
theorem RdMb.nil (w : World) (B : Nat) (A : Option Addr) : RdMb w B A 0 []:=⟨rfl,fun i d hi=>by simp at hi⟩
theorem mbcs_len (l : List Mem) : (mbcs l).length = l.length * 3:=by
  induction l with
  | nil=>rfl
  | cons d l ih=>show (([.int .i64 d.1,.int .i64 d.2.1,.int .i64 d.2.2] : List Value) ++ mbcs l).length = _;rw [List.length_append,ih];simp;omega
theorem mbcs_app (l m : List Mem) : mbcs (l ++ m) = mbcs l ++ mbcs m:=by unfold mbcs;rw [List.flatMap_append]
theorem mbcs_one (l : List Mem) : ∀ u ∈ mbcs l,u.oneCell' = true:=by
  intro u hu
  unfold mbcs at hu
  rw [List.mem_flatMap] at hu;obtain ⟨d,_,hd⟩:=hu
  simp at hd
  rcases hd with rfl | rfl | rfl <;> rfl
theorem mbcs_at (l : List Mem) : ∀ (i : Nat) (d : Mem),l[i]? = some d→(mbcs l)[i * 3]? = some (.int .i64 d.1)∧(mbcs l)[i * 3 + 1]? = some (.int .i64 d.2.1)∧(mbcs l)[i * 3 + 2]? = some (.int .i64 d.2.2):=by
  induction l with
  | nil=>intro i d h;simp at h
  | cons x l ih =>
    intro i d h;have e : mbcs (x :: l) = .int .i64 x.1 :: .int .i64 x.2.1 :: .int .i64 x.2.2 :: mbcs l:=rfl;rw [e]
    cases i with
    | zero=>simp at h;subst h;exact ⟨rfl,rfl,rfl⟩
    | succ i =>
      have:=ih i d (by simpa using h)
      rw [show (i + 1) * 3 = i * 3 + 1 + 1 + 1 by omega]
      simpa using this
theorem add_nextMb (ad : Addr) (i k : Nat) (hk : k ≠ 0) : ad.add (i * 3 + k) = ⟨(ad.add (i * 3)).block,(ad.add (i * 3)).off + k,none⟩:=by
  rw [show ad.add (i * 3 + k) = (ad.add (i * 3)).add k from (add_add ad (i * 3) k).symm]
  unfold Addr.add
  rw [if_neg hk]
theorem RdMb.of_rd (h : Rd w B A (mbcs l)) : RdMb w B A l.length l:=⟨rfl,fun i d hi=>by
  obtain ⟨h1,h2,h3⟩:=mbcs_at l i d hi;obtain ⟨a,e,hb,hc⟩:=h _ _ h1;obtain ⟨a',e',_,hc'⟩:=h _ _ h2;obtain ⟨a'',e'',_,hc''⟩:=h _ _ h3
  obtain rfl : a = a':=by rw [e] at e';injection e'
  obtain rfl : a = a'':=by rw [e] at e'';injection e''
  rw [add_nextMb _ _ _ (by decide)] at hc' hc''
  exact ⟨a,e,by rw [block_add];exact hb,hc,hc',hc''⟩⟩
theorem RdMb.rd (h : RdMb w B A n l) : Rd w B A (mbcs l):=fun j u hu=>by
  have hj : j < l.length * 3:=by
    have:=(List.getElem?_eq_some_iff.1 hu).1
    rwa [mbcs_len] at this
  obtain ⟨i,b,rfl,hb⟩ : ∃ i b,j = i * 3 + b∧b < 3:=⟨j / 3,j % 3,by omega,by omega⟩
  have hi : i < l.length:=by omega
  obtain ⟨ad,e,h1,h2,h3,h4⟩:=h.2 i _ (List.getElem?_eq_getElem hi);obtain ⟨k1,k2,k3⟩:=mbcs_at l i _ (List.getElem?_eq_getElem hi);refine ⟨ad,e,by rw [block_add] at h1;exact h1,?_⟩
  rcases (show b = 0∨b = 1∨b = 2 by omega) with rfl | rfl | rfl
  · rw [Nat.add_zero] at hu ⊢
    rw [h2,← hu,k1]
  · rw [add_nextMb _ _ _ (by decide),h3,← hu,k2]
  · rw [add_nextMb _ _ _ (by decide),h4,← hu,k3]
end
def OwnMb (T : TypeId) (w : World) (base : Nat) (A : Option Addr) (n c : Nat) (l : List Mem) : Prop:=n = l.length∧w.ownsRow base T 3 (.slice A n c) n (mbcs l)
theorem infoMb : (Try.prog.info? 62).map (fun i=>(i.zero,i.size,i.bytes)) = some (some (.agg #[.int .i64 0,.int .i64 0,.int .i64 0]),3,24):=by kernel_rfl
section
variable {T : TypeId} {w w' : World} {base n c : Nat} {A : Option Addr} {bs : List Mem}
theorem OwnMb.raw (h : OwnMb T w base A n c bs) : Rd w w.heap.size A (mbcs bs):=fun j u hu=>by
  rcases h.2.2 with ⟨hv,h0⟩ | ⟨g,cap,cur,hv,hb,hh,hn,hm,hs,hc⟩
  · have:=h.2.1;rw [h0] at this;simp at this;rw [this] at hu;simp at hu
  · injection hv with hA
    subst hA;exact ⟨_,rfl,(h.2.lt g rfl).2,h.2.cells (g:=g) rfl j u hu⟩
theorem OwnMb.rd (h : OwnMb T w base A n c bs) : RdMb w w.heap.size A n bs:=by
  have:=RdMb.of_rd h.raw
  rwa [← h.1] at this
theorem OwnMb.alloc (h : OwnMb T w base A n c bs) (o : Obj) : OwnMb T (w.alloc o) base A n c bs:=⟨h.1,h.2.alloc o⟩
theorem OwnMb.nil (T : TypeId) (w : World) (base : Nat) : OwnMb T w base none 0 0 []:=⟨rfl,World.ownsRow_nil w base _ 3⟩
theorem OwnMb.mono {base' : Nat} (h : OwnMb T w base A n c bs) (hb : base'≤base) : OwnMb T w base' A n c bs:=by
  refine ⟨h.1,h.2.1,?_⟩
  rcases h.2.2 with h | ⟨g,cap,cur,h1,h2,h3⟩
  · exact .inl h
  · exact .inr ⟨g,cap,cur,h1,by omega,h3⟩
theorem OwnMb.lt (h : OwnMb T w base A n c bs) : ∀ g,A.map (·.block) = some g→base≤g∧g < w.heap.size:=fun g hg=>h.2.lt g (by
  rcases A with _ | a
  · simp at hg
  · simpa [Value.ownBlock] using hg)
theorem OwnMb.form (h : OwnMb T w base A n c bs) (hn : 0 < n) : ∃ g,A = some ⟨g,0,none⟩∧base≤g∧g < w.heap.size:=by
  rcases h.2.2 with ⟨_,h0⟩ | ⟨g,cap,cur,hv,hb,hh,_⟩
  · omega
  · injection hv with hA
    subst hA;exact ⟨g,rfl,hb,lt_of_block hh⟩
theorem OwnMb.free {g : Nat} (h : OwnMb T w base (some ⟨g,0,none⟩) n c bs) (j : Nat) : w.frozen? ⟨g,j,none⟩ = false:=h.2.frozenAt j
theorem OwnMb.setFar {p : Addr} (h : OwnMb T w base A n c bs) (hp : A.map (·.block) ≠ some p.block) (u : Value) : OwnMb T (w.setCell p u) base A n c bs :=
  ⟨h.1,ownsRow_setCell_other h.2 (by
    rcases A with _ | a
    · simp [Value.ownBlock]
    · simpa [Value.ownBlock] using hp) u⟩
theorem OwnMb.drew (h : OwnMb T w base A n c bs) : OwnMb T w.drew base A n c bs:=h
theorem OwnMb.grown {row : Option Nat} (h : OwnMb T w base A n c bs) (hg : w.grownBy w' row) (hne : A.map (·.block) = none∨A.map (·.block) ≠ row) : OwnMb T w' base A n c bs :=
  ⟨h.1,h.2.kept hg (by
    rcases A with _ | a
    · exact .inl rfl
    · rcases hne with h | h
      · simp at h
      · exact .inr h)⟩
theorem OwnMb.below {B : Nat} (h : OwnMb T w base A n c bs) (hb : Below B w w') (hB : w.heap.size≤B) : OwnMb T w' base A n c bs :=
  ⟨h.1,h.2.kept (row:=none) ⟨hb.os,hb.tape,hb.output,hb.size,fun k hk _=>hb.block k (by omega)⟩ (by
    rcases h.2.2 with ⟨e,_⟩ | ⟨g,cap,cur,e,_⟩
    · rw [e];exact .inl rfl
    · rw [e];exact .inr (by simp [Value.ownBlock]))⟩
end
theorem wpList_appMb {w : World} {ops : Array Oper} {rest : List Oper} {o : Oper} {a : Act} {Q : Exit→Act→World→Prop} (hgd : o.guard = none) (s x : Operand)
    (ho : o.op = .call { callee:=.builtin .append,args:=#[s,x],argTypes:=#[25,25] })
    {base : Nat} {A : Option Addr} {n c : Nat} {bs : List Mem} (hs : a.eval s = .slice A n c) (hown : OwnMb 62 w base A n c bs)
    {B : Nat} {D : Option Addr} {m d : Nat} {news : List Mem} (hx : a.eval x = .slice D m d) (hr : Rd w B D (mbcs news)) (hm : m = news.length)
    (hbytes : n + m≤1000000000000) (hbase : base≤w.heap.size)
    (h : ∀ A' c' w',OwnMb 62 w' base A' (n + m) c' (bs ++ news)→w.grownBy w' (A.map (·.block))→Moved A' (A.map (·.block)) w.heap.size→Below base w w' →
      wpList Try.prog ops Q rest (a.put o.dst (.slice A' (n + m) c')) w') : wpList Try.prog ops Q (o :: rest) a w:=by
  obtain ⟨i0,hi,hz0,hz1,hz2⟩:=info_parts infoMb
  have hob : (Value.slice A n c).ownBlock = A.map (·.block):=by cases A <;> rfl
  refine wpList_app w hgd s x 25 ho base 62 i0 (.agg #[.int .i64 0,.int .i64 0,.int .i64 0]) 3 24 Try.underlying25 hi hz0 hz1 hz2 rfl (by decide) _ _ _ hs hown.2 B D m d (mbcs news) hx hr (by rw [mbcs_len,hm]) (mbcs_one _) (by unfold maxLen;omega) (by omega) hbase ?_;intro A' c' w' h1 h2 h3;rw [hob] at h2 h3;exact h A' c' w' ⟨by rw [List.length_append,hown.1,hm],by rw [mbcs_app];exact h1⟩ h2 h3 ((Below.refl _ _).grown h2 hbase (fun g hg=>(hown.lt g hg).1))
end Go.Proofs.Ytcgalmnllegnbaa

namespace Go.Proofs.Ytcgalmnllegnbaa
set_option linter.unusedVariables false
set_option linter.unusedSimpArgs false
set_option maxRecDepth 100000
open Go.RowKit
open Dot Evt
def mgc (m : Ms.Msg) (s1 s2 s3 : Value) : Array Value:=#[.int .i64 m.kind,.int .i64 m.frm,.int .i64 m.to,.int .i64 m.seq,.int .i64 m.node,.int .i64 (m.u.getD 0 0),.int .i64 (m.u.getD 1 0),.int .i64 (m.u.getD 2 0),.int .i64 (m.u.getD 3 0),.int .i64 (m.u.getD 4 0),.int .i64 (m.u.getD 5 0),.int .i64 (m.u.getD 6 0),.int .i64 (m.u.getD 7 0),s1,s2,s3]
theorem mgc_one (m : Ms.Msg) (A1 A2 A3 : Option Addr) (n1 c1 n2 c2 n3 c3 : Nat) : (mgc m (.slice A1 n1 c1) (.slice A2 n2 c2) (.slice A3 n3 c3)).all (·.oneCell') = true:=by kernel_rfl
theorem rowMg : RowT Try.prog 27 16:=⟨_,Try.underlying27,rfl,by kernel_rfl⟩
structure MgV where
  m : Ms.Msg
  A1 : Option Addr
  n1 : Nat
  c1 : Nat
  xs : List EvV
  A2 : Option Addr
  n2 : Nat
  c2 : Nat
  A3 : Option Addr
  n3 : Nat
  c3 : Nat
def MgV.cs (x : MgV) : Array Value:=mgc x.m (.slice x.A1 x.n1 x.c1) (.slice x.A2 x.n2 x.c2) (.slice x.A3 x.n3 x.c3)
theorem MgV.size (x : MgV) : x.cs.size = 16:=rfl
theorem MgV.one (x : MgV) : x.cs.all (·.oneCell') = true:=mgc_one ..
structure MgOk (w : World) (B : Nat) (x : MgV) : Prop where
  u : x.m.u.length = 8
  more : RdD w B x.A1 x.n1 x.m.more
  ev : RowEv w B x.A2 x.n2 x.xs
  es : x.m.ev = x.xs.map (·.e)
  mem : RdMb w B x.A3 x.n3 x.m.mem
section
variable {w w' : World} {B B' : Nat} {x : MgV}
theorem MgOk.below (h : MgOk w B x) (hb : Below B w w') : MgOk w' B x:=⟨h.u,h.more.below hb,h.ev.below hb,h.es,h.mem.below hb⟩
theorem MgOk.mono (h : MgOk w B x) (hB : B≤B') : MgOk w B' x:=⟨h.u,h.more.more hB,h.ev.more hB,h.es,h.mem.more hB⟩
end
end Go.Proofs.Ytcgalmnllegnbaa

namespace Go.Proofs.Ytcgalmnllegnbaa.Crc
set_option linter.unusedVariables false
set_option linter.unusedSimpArgs false
set_option maxRecDepth 100000
open Go.RowKit
theorem and_one (q : Nat) (h : q < 4294967296) : bits .and .u32 (q : Int) 1 = ((q % 2 : Nat) : Int):=by
  have:=u32_and_nat q 1 h (by omega)
  rw [Nat.and_one_is_mod] at this;exact this
theorem and_D0 : bits .and .u32 3988292384 0 = 0:=by decide +kernel
theorem and_D1 : bits .and .u32 3988292384 4294967295 = 3988292384:=by decide +kernel
theorem xor_D (q : Nat) (h : q < 4294967296) : bits .xor .u32 (q / 2 : Int) 3988292384 = ((q / 2 ^^^ D : Nat) : Int):=u32_xor_nat (q / 2) 3988292384 (by omega) (by omega)
theorem xor_0 (q : Nat) (h : q < 4294967296) : bits .xor .u32 (q / 2 : Int) 0 = ((q / 2 : Nat) : Int):=by
  have:=u32_xor_nat (q / 2) 0 (by omega) (by omega)
  rw [Nat.xor_zero] at this;exact this
theorem step_of1 {q : Nat} (h : q % 2 = 1) : step q = q / 2 ^^^ D:=if_pos h
theorem step_of0 {q : Nat} (h : q % 2 = 0) : step q = q / 2:=if_neg (by omega)
theorem eat_any (r : Nat) (c : UInt8) (w : World) (hr : r < 4294967296) :
    Calls Try.prog 125 #[.int .u32 r,.int .u8 c.toNat] w fun e w'=>e = .returned (.int .u32 (eat r c : Nat))∧w = w':=by
  have hc:=c.toNat_lt;have h0 : r ^^^ c.toNat < 4294967296:=Nat.xor_lt_two_pow (n:=32) (by omega) (by omega);have e0:=u32_xor_nat r c.toNat hr (by omega);have E0:=Lib.hid e0
  go_enter Try.func125,Try.ntmps125
  go_wp2
  clear e0
  go_loop [0,10] (fun x i=>∃ k : Nat,k≤8∧i = .int .i64 k∧x = .int .u32 (steps k (r ^^^ c.toNat) : Nat)) (fun _ i=>8 - (intOf i).toNat)
  case atStart=>exact ⟨0,by omega,rfl,rfl⟩
  case round =>
    obtain ⟨k,hk,rfl,rfl⟩:=hrel;have hq:=steps_lt h0 k
    by_cases hlt : k < 8
    · obtain ⟨q,hqq⟩ : ∃ q,q = steps k (r ^^^ c.toNat):=⟨_,rfl⟩
      rw [← hqq] at hq;have HQ:=Lib.hid hqq;rw [← hqq];clear hqq;have a1:=and_one q hq
      rcases Nat.mod_two_eq_zero_or_one q with hm | hm
      · rw [hm] at a1
        have HM:=Lib.hid hm;clear hm;have a2:=and_D0;have a3:=xor_0 q hq
        go_wp2
        go_round
        case rel=>exact ⟨k + 1,by omega,by go_num,by rw [show steps (k + 1) (r ^^^ c.toNat) = step (steps k (r ^^^ c.toNat)) from rfl,← HQ.out,step_of0 HM.out];rfl⟩
        case measure=>simp [intOf];omega
      · rw [hm] at a1
        have HM:=Lib.hid hm;clear hm;have a2:=and_D1;have a3:=xor_D q hq
        go_wp2
        go_round
        case rel=>exact ⟨k + 1,by omega,by go_num,by rw [show steps (k + 1) (r ^^^ c.toNat) = step (steps k (r ^^^ c.toNat)) from rfl,← HQ.out,step_of1 HM.out]⟩
        case measure=>simp [intOf];omega
    · go_wp2
      go_ret;exact ⟨by rw [show k = 8 by omega];rfl,rfl⟩
theorem turn_any (r : Nat) (c : UInt8) (w : World) (hr : r < 4294967296) :
    Calls Try.prog 120 #[.int .u32 r,.int .u8 c.toNat] w fun e w'=>e = .returned (.int .u32 (eat r c : Nat))∧w = w':=by
  have hc:=c.toNat_lt;have h0 : r ^^^ c.toNat < 4294967296:=Nat.xor_lt_two_pow (n:=32) (by omega) (by omega);have e0:=u32_xor_nat r c.toNat hr (by omega)
  go_enter Try.func120,Try.ntmps120
  go_wp2
  clear e0
  go_loop [0,5] (fun x i=>∃ k : Nat,k≤8∧i = .int .i64 k∧x = .int .u32 (steps k (r ^^^ c.toNat) : Nat)) (fun _ i=>8 - (intOf i).toNat)
  case atStart=>exact ⟨0,by omega,rfl,rfl⟩
  case round =>
    obtain ⟨k,hk,rfl,rfl⟩:=hrel;have hq:=steps_lt h0 k
    by_cases hlt : k < 8
    · obtain ⟨q,hqq⟩ : ∃ q,q = steps k (r ^^^ c.toNat):=⟨_,rfl⟩
      rw [← hqq] at hq;have HQ:=Lib.hid hqq;rw [← hqq];clear hqq
      rcases Nat.mod_two_eq_zero_or_one q with hm | hm
      · have HM:=Lib.hid hm
        have a1 : ((q : Int) % 2 == 1) = false:=by simp;omega
        clear hm
        go_wp2
        go_round
        case rel=>exact ⟨k + 1,by omega,by go_num,by rw [show steps (k + 1) (r ^^^ c.toNat) = step (steps k (r ^^^ c.toNat)) from rfl,← HQ.out,step_of0 HM.out];rfl⟩
        case measure=>simp [intOf];omega
      · have HM:=Lib.hid hm
        have a1 : ((q : Int) % 2 == 1) = true:=by simp;omega
        have a3:=xor_D q hq;clear hm
        go_wp2
        go_round
        case rel=>exact ⟨k + 1,by omega,by go_num,by rw [show steps (k + 1) (r ^^^ c.toNat) = step (steps k (r ^^^ c.toNat)) from rfl,← HQ.out,step_of1 HM.out]⟩
        case measure=>simp [intOf];omega
    · go_wp2
      go_ret;exact ⟨by rw [show k = 8 by omega];rfl,rfl⟩
theorem more_any (s : Nat) (A : Option Addr) (bs : List UInt8) (n cap B : Nat) (w : World) (hs : s < 4294967296) (hb : RdB w B A n bs) (hl : n≤maxLen) :
    Calls Try.prog 118 #[.int .u32 s,.slice A n cap] w fun e w'=>e = .returned (.int .u32 (more s bs : Nat))∧w = w':=by
  obtain rfl:=hb.1
  unfold maxLen at hl
  have e0 : bits .xor .u32 (s : Int) 4294967295 = ((s ^^^ ones : Nat) : Int):=u32_xor_nat s ones hs (by decide);have h0 : s ^^^ ones < 4294967296:=Nat.xor_lt_two_pow (n:=32) (by omega) (by decide)
  go_enter Try.func118,Try.ntmps118
  go_wp2
  clear e0
  go_loop [5,12] (fun x i=>∃ k : Nat,k≤bs.length∧i = .int .i64 k∧x = .int .u32 (run (s ^^^ ones) (bs.take k) : Nat)) (fun _ i=>bs.length - (intOf i).toNat)
  case atStart=>exact ⟨0,by omega,rfl,rfl⟩
  case round =>
    obtain ⟨k,hk,rfl,rfl⟩:=hrel;have hq:=run_lt h0 (bs.take k)
    by_cases hlt : k < bs.length
    · obtain ⟨a,rfl,_,hc⟩:=hb.at_ hlt
      have HS:=Lib.hid (take_snoc bs hlt)
      go_wp2_with (go_at_call 125;refine (eat_any _ _ _ hq).mono ?_;rintro e w' ⟨rfl,rfl⟩)
      go_round
      case rel=>exact ⟨k + 1,by omega,by go_num,by rw [HS.out,run_snoc]⟩
      case measure=>simp [intOf];omega
    · have e0 : bits .xor .u32 ((run (s ^^^ ones) (bs.take k) : Nat) : Int) 4294967295 = ((run (s ^^^ ones) (bs.take k) ^^^ ones : Nat) : Int):=u32_xor_nat _ ones hq (by decide)
      go_wp2
      go_ret;exact ⟨by rw [List.take_of_length_le (by omega)];rfl,rfl⟩
theorem sum_any (A : Option Addr) (bs : List UInt8) (n cap B : Nat) (w : World) (hb : RdB w B A n bs) (hl : n≤maxLen) :
    Calls Try.prog 95 #[.slice A n cap] w fun e w'=>e = .returned (.int .u32 (sum bs : Nat))∧w = w':=by
  go_enter Try.func95,Try.ntmps95
  go_wp2_with (go_at_call 118;refine (more_any 0 _ _ _ _ _ _ (by omega) hb hl).mono ?_;rintro e w' ⟨rfl,rfl⟩)
  go_ret;exact ⟨rfl,rfl⟩
theorem rmore_any (s : Nat) (A : Option Addr) (bs : List UInt8) (n cap B : Nat) (w : World) (hs : s < 4294967296) (hb : RdB w B A n bs) (hl : n≤maxLen) :
    Calls Try.prog 108 #[.int .u32 s,.slice A n cap] w fun e w'=>e = .returned (.int .u32 (more s bs : Nat))∧w = w':=by
  obtain rfl:=hb.1
  unfold maxLen at hl
  have e0 : bits .xor .u32 (s : Int) 4294967295 = ((s ^^^ ones : Nat) : Int):=u32_xor_nat s ones hs (by decide);have h0 : s ^^^ ones < 4294967296:=Nat.xor_lt_two_pow (n:=32) (by omega) (by decide)
  go_enter Try.func108,Try.ntmps108
  go_wp2
  clear e0
  go_loop [5,12] (fun x i=>∃ k : Nat,k≤bs.length∧i = .int .i64 k∧x = .int .u32 (run (s ^^^ ones) (bs.take k) : Nat)) (fun _ i=>bs.length - (intOf i).toNat)
  case atStart=>exact ⟨0,by omega,rfl,rfl⟩
  case round =>
    obtain ⟨k,hk,rfl,rfl⟩:=hrel;have hq:=run_lt h0 (bs.take k)
    by_cases hlt : k < bs.length
    · obtain ⟨a,rfl,_,hc⟩:=hb.at_ hlt
      have HS:=Lib.hid (take_snoc bs hlt)
      go_wp2_with (go_at_call 120;refine (turn_any _ _ _ hq).mono ?_;rintro e w' ⟨rfl,rfl⟩)
      go_round
      case rel=>exact ⟨k + 1,by omega,by go_num,by rw [HS.out,run_snoc]⟩
      case measure=>simp [intOf];omega
    · have e0 : bits .xor .u32 ((run (s ^^^ ones) (bs.take k) : Nat) : Int) 4294967295 = ((run (s ^^^ ones) (bs.take k) ^^^ ones : Nat) : Int):=u32_xor_nat _ ones hq (by decide)
      go_wp2
      go_ret;exact ⟨by rw [List.take_of_length_le (by omega)];rfl,rfl⟩
theorem rsum_any (A : Option Addr) (bs : List UInt8) (n cap B : Nat) (w : World) (hb : RdB w B A n bs) (hl : n≤maxLen) :
    Calls Try.prog 79 #[.slice A n cap] w fun e w'=>e = .returned (.int .u32 (sum bs : Nat))∧w = w':=by
  go_enter Try.func79,Try.ntmps79
  go_wp2_with (go_at_call 108;refine (rmore_any 0 _ _ _ _ _ _ (by omega) hb hl).mono ?_;rintro e w' ⟨rfl,rfl⟩)
  go_ret;exact ⟨rfl,rfl⟩
end Go.Proofs.Ytcgalmnllegnbaa.Crc

namespace Go.Proofs.Ytcgalmnllegnbaa
set_option linter.unusedVariables false
set_option linter.unusedSimpArgs false
set_option maxRecDepth 100000
open Go.RowKit
namespace Frame
theorem byte_of (s k : Nat) : IntKind.u8.wrap ((s : Int) / (k : Nat)) = ((UInt8.ofNat (s / k)).toNat : Int):=by
  have h:=u8_byte (s / k);rw [← h];rfl
theorem byte_at (s k : Nat) (hk : k < 4) (z : Int) (hz : 24 - 8 * (k : Int) = z) : IntKind.u8.wrap ((s : Int) / 2 ^ z.toNat) = (((be s)[k]'hk).toNat : Int):=by
  subst hz
  match k,hk with
  | 0,_=>exact byte_of s 16777216
  | 1,_=>exact byte_of s 65536
  | 2,_=>exact byte_of s 256
  | 3,_=>exact (congrArg _ (Int.ediv_one _)).trans (u8_byte s)
set_option maxRecDepth 100000 in
theorem sum_any (A : Option Addr) (bs : List UInt8) (n c B : Nat) (w : World) (hb : RdB w B A n bs) (hB : B≤w.heap.size) (hl : n≤maxLen) :
    Calls Try.prog 61 #[.slice A n c] w (GiveB w (be (Crc.sum bs))):=by
  go_enter Try.func61,Try.ntmps61
  go_wp2_with fail;refine (Crc.sum_any _ _ _ _ _ _ hb hl).mono ?_;rintro e w1 ⟨rfl,rfl⟩;have hs:=Crc.sum_lt bs;obtain ⟨s,hs0⟩ : ∃ s,s = Crc.sum bs:=⟨_,rfl⟩;rw [← hs0] at hs ⊢;have HS0:=Lib.hid hs0;clear hs0;go_wp2_with fail
  go_loopw [4,5] (fun v i wr=>∃ (k : Nat) (A' : Option Addr) (n' c' : Nat),k≤4∧i = .int .i64 (24 - 8 * (k : Int))∧v = .slice A' n' c'∧OwnB wr w.heap.size A' n' c' ((be s).take k)∧Below w.heap.size w wr) (fun _ i _=>(intOf i + 8).toNat)
  case atStart=>exact ⟨0,none,0,0,by omega,rfl,rfl,OwnB.nil _ _,Below.refl _ _⟩
  case round =>
    obtain ⟨k,A',n',c',hk,rfl,rfl,hown,hbel⟩:=hrel;have hn:=hown.1
    have hlk : n' = k:=by rw [hn,List.length_take,be_length];omega
    subst hlk
    generalize hz : 24 - 8 * (n' : Int) = z
    have HZ:=Lib.hid hz
    by_cases hlt : n' < 4
    · have hd : decide (0≤z) = true:=decide_eq_true (by omega)
      have hz0 : 0≤z:=by omega
      have hz1 : z≤24:=by omega
      obtain ⟨x,hx⟩ : ∃ x,x = (be s)[n']'hlt:=⟨_,rfl⟩;have eb:=byte_at s n' hlt z hz;rw [← hx] at eb;have HX:=Lib.hid hx;have HO:=Lib.hid hown;clear hx hown hs hn;clear hz
      go_wp2_with (at_builtin;refine wpList_appB rfl (.tmp 12) (.tmp 17) rfl rfl (HO.out.alloc _) rfl (RdB.made _ [x] _ _ _ ?hx1) ?hx0 ?hx2 ?_)
      case hx0=>show n' + 1≤_;omega
      case hx2=>have:=hbel.size;simp;omega
      intro A2 c2 w3 ho2 _ _ hbl2;have hbel3 : Below w.heap.size w w3:=(hbel.alloc hbel.size _).trans hbl2;go_wp2_with fail
      go_roundw
      case rel =>
        refine ⟨n' + 1,A2,n' + 1,c2,by omega,?_,rfl,?_,hbel3⟩
        · have:=HZ.out
          simp;omega
        · rw [HX.out] at ho2
          rw [List.take_succ_eq_append_getElem (show n' < (be s).length from hlt)];exact ho2
      case measure=>simp [intOf];omega
    · have hd : decide (0≤z) = false:=decide_eq_false (by omega)
      clear hz;go_wp2_with fail;go_ret;refine ⟨_,_,_,rfl,?_,hbel⟩;rw [List.take_of_length_le (by rw [be_length];omega)] at hown;rw [← HS0.out];exact hown
theorem put_ok (A : Option Addr) (n c : Nat) (bs : List UInt8) (B : Nat) (w : World) (hb : RdB w B A n bs) (hB : B≤w.heap.size) (hl : n≤4096) :
    Calls Try.prog 19 #[.slice A n c] w (GiveBE w (frm bs) 0):=by
  obtain rfl:=hb.1;have hd : decide ((4096 : Int) < (bs.length : Int)) = false:=decide_eq_false (by omega);have hel:=Vint.enc_length bs.length
  go_enter Try.func19,Try.ntmps19
  go_wp2_with fail;refine (Go.Proofs.Ytcgalmnllegnbaa.put_ok _ _ _ [1] bs.length _ _ (RdB.made _ [1] _ _ _ ?hx1) (by simp) (by simp) (by omega)).mono ?_
  case hx1=>rfl
  rintro e w1 ⟨A1,n1,c1,rfl,ho1,hb1⟩;have hbl1 : Below w.heap.size w w1:=((Below.refl _ _).alloc (Nat.le_refl _) _).trans (hb1.mono (by simp));have hr1:=(hb.more hB).below hbl1;have ho1':=ho1.mono (base':=w.heap.size) (by simp);have hn1:=ho1.1;rw [List.length_append] at hn1
  simp only [List.length_cons,List.length_nil] at hn1
  have hn7 : n1≤7:=by omega
  clear ho1 hel hn1
  go_wp2_with (at_builtin;refine wpList_appB rfl (.tmp 19) (.tmp 20) rfl rfl ho1' rfl hr1 ?hy0 hbl1.size ?_)
  case hy0=>omega
  intro A2 c2 w2 ho2 _ _ hbl2;have hb2:=hbl1.trans hbl2;have hd2 : OwnB w2 w.heap.size A2 (n1 + bs.length) c2 (head bs):=ho2;clear ho2;go_wp2_with fail;refine (sum_any _ _ _ _ _ _ hd2.rd (Nat.le_refl _) (by unfold maxLen;omega)).mono ?_;rintro e w3 ⟨A3,n3,c3,rfl,ho3,hb3⟩;have hd3:=hd2.below hb3 (Nat.le_refl _);have hb3':=hb2.trans (hb3.mono hb2.size);have hn3:=ho3.1;rw [be_length] at hn3;subst hn3
  go_wp2_with (at_builtin;refine wpList_appB rfl (.tmp 22) (.tmp 24) rfl rfl hd3 rfl ho3.rd ?hz0 hb3'.size ?_)
  case hz0=>omega
  intro A4 c4 w4 ho4 _ _ hbl4;go_wp2_with fail;go_ret2;exact ⟨_,_,_,rfl,ho4,hb3'.trans hbl4⟩
theorem put_long (A : Option Addr) (n c : Nat) (w : World) (hl : 4096 < n) :
    Calls Try.prog 19 #[.slice A n c] w fun e w'=>e = .returned (.tuple #[.slice none 0 0,.int .i64 6])∧w = w':=by
  have hd : decide ((4096 : Int) < (n : Int)) = true:=decide_eq_true (by omega)
  go_enter Try.func19,Try.ntmps19
  go_wp2_with fail;go_ret2;exact ⟨rfl,rfl⟩
end Frame
end Go.Proofs.Ytcgalmnllegnbaa

namespace Go.Proofs.Ytcgalmnllegnbaa
set_option linter.unusedVariables false
set_option linter.unusedSimpArgs false
set_option maxRecDepth 100000
open Go.RowKit
namespace Frame
theorem frame15 (a f : Value) : (#[a] ++ (Array.replicate 14 undef).setIfInBounds 4 f : Array Value) = #[a,undef,undef,undef,undef,f,undef,undef,undef,undef,undef,undef,undef,undef,undef]:=by kernel_rfl
end Frame
end Go.Proofs.Ytcgalmnllegnbaa

namespace Go.Proofs.Ytcgalmnllegnbaa
set_option linter.unusedVariables false
set_option linter.unusedSimpArgs false
set_option maxRecDepth 100000
open Go.RowKit
open Dot Evt
theorem mwithin_any (n lo hi : Int) (w : World) : Calls Try.prog 43 #[.int .i64 n,.int .i64 lo,.int .i64 hi] w fun e w'=>e = .returned (.bool (inB n lo hi))∧w = w':=by
  have hs:=satw_any n lo hi w;obtain ⟨R,hR⟩ : ∃ R,R = inB n lo hi:=⟨_,rfl⟩;rw [← hR];rw [← within_eq] at hR
  generalize (if hi < n then hi else if n < lo then lo else n) = z at hs hR
  have HR:=Lib.hid hR;clear hR
  go_enter Try.func43,Try.ntmps43
  go_wp2_with fail;refine hs.mono ?_;rintro e w1 ⟨rfl,rfl⟩;go_wp2_with fail;go_ret;rw [HR.out];exact ⟨rfl,rfl⟩
theorem mnode_any (n : Int) (w : World) : Calls Try.prog 44 #[.int .i64 n] w fun e w'=>e = .returned (.bool (Ms.nodeB n))∧w = w':=by
  unfold Ms.nodeB
  go_enter Try.func44,Try.ntmps44
  go_wp2_with fail;refine (mwithin_any n 0 7 _).mono ?_;rintro e w1 ⟨rfl,rfl⟩;go_wp2_with fail;go_ret;exact ⟨rfl,rfl⟩
theorem rnode_any (n : Int) (w : World) : Calls Try.prog 50 #[.int .i64 n] w fun e w'=>e = .returned (.bool (Ms.nodeB n))∧w = w':=by
  obtain ⟨R,hR⟩ : ∃ R,R = Ms.nodeB n:=⟨_,rfl⟩;rw [← hR];have HR:=Lib.hid hR;clear hR
  by_cases h1 : 0≤n
  · by_cases h2 : n < 8
    · have hr : R = true:=by rw [HR.out];exact (Ms.nodeB_iff n).2 (by omega)
      subst hr
      go_enter Try.func50,Try.ntmps50
      go_wp2_with fail;go_ret;exact ⟨rfl,rfl⟩
    · have hr : R = false:=by rw [HR.out,Bool.eq_false_iff];intro h;have:=(Ms.nodeB_iff n).1 h;omega
      subst hr
      go_enter Try.func50,Try.ntmps50
      go_wp2_with fail;go_ret;exact ⟨rfl,rfl⟩
  · have hr : R = false:=by rw [HR.out,Bool.eq_false_iff];intro h;have:=(Ms.nodeB_iff n).1 h;omega
    subst hr
    go_enter Try.func50,Try.ntmps50
    go_wp2_with fail;go_ret;exact ⟨rfl,rfl⟩
abbrev mflt (x : Int) : Value:=.iface 114 (.agg #[.int .i64 x])
theorem mmust_ok (x : Int) (w : World) :
    Calls Try.prog 32 #[.bool true,.int .i64 x] w fun e w'=>e = .returned (.tuple #[])∧w = w':=by
  go_enter Try.func32,Try.ntmps32
  go_wp2_with fail
  go_end0
  exact ⟨rfl,rfl⟩
theorem mmust_bad (x : Int) (w : World) :
    Calls Try.prog 32 #[.bool false,.int .i64 x] w fun e w'=>e = .panicked [{ v:=mflt x,recovered:=false }]∧w = w':=by
  go_enter Try.func32,Try.ntmps32
  go_wp2_with fail;exact ⟨rfl,rfl,rfl⟩
theorem massert_flt (x : Int) (w : World) : (Instr.typeAssert (mflt x) 20 114 true).run Try.prog w = .ok (.tuple #[.agg #[.int .i64 x],.bool true]) w:=by kernel_rfl
theorem mcaught_panic (g : Nat) (x : Int) (older : List PanicEntry) (v : Value) (w : World) (h0 : w.cell? ⟨g,0,none⟩ = some v) (hf : w.frozen? ⟨g,0,none⟩ = false) :
    CallsD Try.prog 31 #[.pointer (some ⟨g,0,none⟩)] (.panicking ({ v:=mflt x,recovered:=false } :: older)) w fun e u' w' =>
      e = .returned (.tuple #[])∧u' = .panicking ({ v:=mflt x,recovered:=true } :: older)∧w' = (w.alloc (.cells #[.int .i64 x] 114)).setCell ⟨g,0,none⟩ (.int .i64 x):=by
  have ta:=massert_flt x;have lt0:=World.block_lt_of_cell? w _ h0
  refine callsD_of_wpS Try.func31 rfl fun c₀ cs hu=>?_
  apply wpS_seq
  apply wpS_region
  simp [wpOpsS,go_sem,recoverD,hu,Try.ntmps31,Exit.thenS]
  refine wpS_of_wp ?_;rw [Frame.frame15];go_wp2_with fail
  simp [bodyPostS,results,Try.results31]
theorem mcaught_none (g : Nat) (w : World) :
    CallsD Try.prog 31 #[.pointer (some ⟨g,0,none⟩)] .returning w fun e u' w'=>e = .returned (.tuple #[])∧u' = .returning∧w' = w:=by
  refine callsD_of_wpS Try.func31 rfl fun c₀ cs hu=>?_
  apply wpS_seq
  apply wpS_region
  simp [wpOpsS,go_sem,recoverD,hu,Try.ntmps31,Exit.thenS]
  refine wpS_of_wp ?_;rw [Frame.frame15];go_wp2_with fail
  cases c₀
  simp_all [bodyPostS,results,Try.results31]
end Go.Proofs.Ytcgalmnllegnbaa

namespace Go.Proofs.Ytcgalmnllegnbaa
set_option linter.unusedVariables false
set_option linter.unusedSimpArgs false
set_option maxRecDepth 100000
open Go.RowKit
open Dot Evt
def pv (s n q v : Bool) : Value:=.agg #[.bool s,.bool n,.bool q,.bool v]
def hasV (k : Int) : Value:=pv (decide (k ≠ 5)) (decide (k = 2∨k = 3)) (decide (k = 4)) (decide (k = 5))
theorem rowPt : RowT Try.prog 73 4:=⟨_,Try.underlying73,rfl,by kernel_rfl⟩
theorem rowKs : RowT Try.prog 115 24:=⟨_,Try.underlying115,rfl,by kernel_rfl⟩
abbrev KS : Array Value:=#[.bool false,.bool false,.bool false,.bool false,.bool true,.bool false,.bool false,.bool false,.bool true,.bool true,.bool false,.bool false,.bool true,.bool true,.bool false,.bool false,.bool true,.bool false,.bool true,.bool false,.bool false,.bool false,.bool false,.bool true]
theorem ks_size : KS.size = 24:=rfl
theorem ks_one : KS.all (·.oneCell') = true:=by kernel_rfl
theorem pt_one (s n q v : Bool) : (#[Value.bool s,.bool n,.bool q,.bool v]).all (·.oneCell') = true:=by simp [Value.oneCell']
theorem rng4 {w : World} {g o : Nat} {T : TypeId} {cs : Array Value} {a b c d : Value} (k : Blk w g T cs) (h0 : cs[o]? = some a) (h1 : cs[o + 1]? = some b) (h2 : cs[o + 2]? = some c) (h3 : cs[o + 3]? = some d) : w.rangeAt g o (#[a,b,c,d]).toList:=fun j v hv=>by
  rw [k.cell]
  match j,hv with
  | 0,hv=>rw [Nat.add_zero,h0];exact hv
  | 1,hv=>rw [h1];exact hv
  | 2,hv=>rw [h2];exact hv
  | 3,hv=>rw [h3];exact hv
theorem has1_any (w : World) : Calls Try.prog 33 #[.int .i64 1] w fun e w'=>e = .returned (hasV 1)∧Below w.heap.size w w':=by
  go_enter Try.func33,Try.ntmps33
  go_upto_region 1 with fail
  refine nameW ?_;intro W hW;obtain ⟨G,hG⟩ : ∃ G,G = w.heap.size:=⟨_,rfl⟩;rw [← hG]
  have k0 : Blk W G 73 #[.bool false,.bool false,.bool false,.bool false]:=by rw [hW,hG];exact Blk.new w _ _
  have gb : Below w.heap.size w W:=by rw [hW];exact (Below.refl _ _).alloc (Nat.le_refl _) _
  have hGl : w.heap.size≤G:=by omega
  clear hW hG
  go_upto_region 2 with ((with_reducible refine wpList_st (cs:=KS) rowKs (Blk.new _ _ _) ks_size ?_ ks_one ?_ ?_ ?_);(rfl);rotate_left;(rfl);(rfl);intro w6 k6 g6 z6)
  have gn : Below W.heap.size W w6:=new_below g6;have k0:=k0.below gn k0.lt;have gb:=gb.trans (gn.mono gb.size);obtain ⟨H,hH⟩ : ∃ H,H = W.heap.size:=⟨_,rfl⟩;rw [← hH] at k6 ⊢;clear g6 z6 gn hH;have r4:=rng4 (o:=4) k6 rfl rfl rfl rfl
  go_wp2_with first
    | ((with_reducible refine wpList_ldr rowPt r4 rfl ?_ ?_);rotate_left;(rfl))
    | ((with_reducible refine wpList_st (cs:=#[.bool true,.bool false,.bool false,.bool false]) rowPt k0 rfl rfl (pt_one _ _ _ _) ?_ ?_ ?_);rotate_left;(rfl);(rfl);intro w7 k7 g7 z7)
  exact bodyPost_ret (v:=.agg #[.bool true,.bool false,.bool false,.bool false]) (results_blk rfl rowPt k7 rfl rfl) rfl ⟨rfl,gb.grown g7 gb.size (fun q hq=>by injection hq with hq;omega)⟩
theorem has2_any (w : World) : Calls Try.prog 33 #[.int .i64 2] w fun e w'=>e = .returned (hasV 2)∧Below w.heap.size w w':=by
  go_enter Try.func33,Try.ntmps33
  go_upto_region 1 with fail
  refine nameW ?_;intro W hW;obtain ⟨G,hG⟩ : ∃ G,G = w.heap.size:=⟨_,rfl⟩;rw [← hG]
  have k0 : Blk W G 73 #[.bool false,.bool false,.bool false,.bool false]:=by rw [hW,hG];exact Blk.new w _ _
  have gb : Below w.heap.size w W:=by rw [hW];exact (Below.refl _ _).alloc (Nat.le_refl _) _
  have hGl : w.heap.size≤G:=by omega
  clear hW hG
  go_upto_region 2 with ((with_reducible refine wpList_st (cs:=KS) rowKs (Blk.new _ _ _) ks_size ?_ ks_one ?_ ?_ ?_);(rfl);rotate_left;(rfl);(rfl);intro w6 k6 g6 z6)
  have gn : Below W.heap.size W w6:=new_below g6;have k0:=k0.below gn k0.lt;have gb:=gb.trans (gn.mono gb.size);obtain ⟨H,hH⟩ : ∃ H,H = W.heap.size:=⟨_,rfl⟩;rw [← hH] at k6 ⊢;clear g6 z6 gn hH;have r4:=rng4 (o:=8) k6 rfl rfl rfl rfl
  go_wp2_with first
    | ((with_reducible refine wpList_ldr rowPt r4 rfl ?_ ?_);rotate_left;(rfl))
    | ((with_reducible refine wpList_st (cs:=#[.bool true,.bool true,.bool false,.bool false]) rowPt k0 rfl rfl (pt_one _ _ _ _) ?_ ?_ ?_);rotate_left;(rfl);(rfl);intro w7 k7 g7 z7)
  exact bodyPost_ret (v:=.agg #[.bool true,.bool true,.bool false,.bool false]) (results_blk rfl rowPt k7 rfl rfl) rfl ⟨rfl,gb.grown g7 gb.size (fun q hq=>by injection hq with hq;omega)⟩
theorem has3_any (w : World) : Calls Try.prog 33 #[.int .i64 3] w fun e w'=>e = .returned (hasV 3)∧Below w.heap.size w w':=by
  go_enter Try.func33,Try.ntmps33
  go_upto_region 1 with fail
  refine nameW ?_;intro W hW;obtain ⟨G,hG⟩ : ∃ G,G = w.heap.size:=⟨_,rfl⟩;rw [← hG]
  have k0 : Blk W G 73 #[.bool false,.bool false,.bool false,.bool false]:=by rw [hW,hG];exact Blk.new w _ _
  have gb : Below w.heap.size w W:=by rw [hW];exact (Below.refl _ _).alloc (Nat.le_refl _) _
  have hGl : w.heap.size≤G:=by omega
  clear hW hG
  go_upto_region 2 with ((with_reducible refine wpList_st (cs:=KS) rowKs (Blk.new _ _ _) ks_size ?_ ks_one ?_ ?_ ?_);(rfl);rotate_left;(rfl);(rfl);intro w6 k6 g6 z6)
  have gn : Below W.heap.size W w6:=new_below g6;have k0:=k0.below gn k0.lt;have gb:=gb.trans (gn.mono gb.size);obtain ⟨H,hH⟩ : ∃ H,H = W.heap.size:=⟨_,rfl⟩;rw [← hH] at k6 ⊢;clear g6 z6 gn hH;have r4:=rng4 (o:=12) k6 rfl rfl rfl rfl
  go_wp2_with first
    | ((with_reducible refine wpList_ldr rowPt r4 rfl ?_ ?_);rotate_left;(rfl))
    | ((with_reducible refine wpList_st (cs:=#[.bool true,.bool true,.bool false,.bool false]) rowPt k0 rfl rfl (pt_one _ _ _ _) ?_ ?_ ?_);rotate_left;(rfl);(rfl);intro w7 k7 g7 z7)
  exact bodyPost_ret (v:=.agg #[.bool true,.bool true,.bool false,.bool false]) (results_blk rfl rowPt k7 rfl rfl) rfl ⟨rfl,gb.grown g7 gb.size (fun q hq=>by injection hq with hq;omega)⟩
theorem has4_any (w : World) : Calls Try.prog 33 #[.int .i64 4] w fun e w'=>e = .returned (hasV 4)∧Below w.heap.size w w':=by
  go_enter Try.func33,Try.ntmps33
  go_upto_region 1 with fail
  refine nameW ?_;intro W hW;obtain ⟨G,hG⟩ : ∃ G,G = w.heap.size:=⟨_,rfl⟩;rw [← hG]
  have k0 : Blk W G 73 #[.bool false,.bool false,.bool false,.bool false]:=by rw [hW,hG];exact Blk.new w _ _
  have gb : Below w.heap.size w W:=by rw [hW];exact (Below.refl _ _).alloc (Nat.le_refl _) _
  have hGl : w.heap.size≤G:=by omega
  clear hW hG
  go_upto_region 2 with ((with_reducible refine wpList_st (cs:=KS) rowKs (Blk.new _ _ _) ks_size ?_ ks_one ?_ ?_ ?_);(rfl);rotate_left;(rfl);(rfl);intro w6 k6 g6 z6)
  have gn : Below W.heap.size W w6:=new_below g6;have k0:=k0.below gn k0.lt;have gb:=gb.trans (gn.mono gb.size);obtain ⟨H,hH⟩ : ∃ H,H = W.heap.size:=⟨_,rfl⟩;rw [← hH] at k6 ⊢;clear g6 z6 gn hH;have r4:=rng4 (o:=16) k6 rfl rfl rfl rfl
  go_wp2_with first
    | ((with_reducible refine wpList_ldr rowPt r4 rfl ?_ ?_);rotate_left;(rfl))
    | ((with_reducible refine wpList_st (cs:=#[.bool true,.bool false,.bool true,.bool false]) rowPt k0 rfl rfl (pt_one _ _ _ _) ?_ ?_ ?_);rotate_left;(rfl);(rfl);intro w7 k7 g7 z7)
  exact bodyPost_ret (v:=.agg #[.bool true,.bool false,.bool true,.bool false]) (results_blk rfl rowPt k7 rfl rfl) rfl ⟨rfl,gb.grown g7 gb.size (fun q hq=>by injection hq with hq;omega)⟩
theorem has5_any (w : World) : Calls Try.prog 33 #[.int .i64 5] w fun e w'=>e = .returned (hasV 5)∧Below w.heap.size w w':=by
  go_enter Try.func33,Try.ntmps33
  go_upto_region 1 with fail
  refine nameW ?_;intro W hW;obtain ⟨G,hG⟩ : ∃ G,G = w.heap.size:=⟨_,rfl⟩;rw [← hG]
  have k0 : Blk W G 73 #[.bool false,.bool false,.bool false,.bool false]:=by rw [hW,hG];exact Blk.new w _ _
  have gb : Below w.heap.size w W:=by rw [hW];exact (Below.refl _ _).alloc (Nat.le_refl _) _
  have hGl : w.heap.size≤G:=by omega
  clear hW hG
  go_upto_region 2 with ((with_reducible refine wpList_st (cs:=KS) rowKs (Blk.new _ _ _) ks_size ?_ ks_one ?_ ?_ ?_);(rfl);rotate_left;(rfl);(rfl);intro w6 k6 g6 z6)
  have gn : Below W.heap.size W w6:=new_below g6;have k0:=k0.below gn k0.lt;have gb:=gb.trans (gn.mono gb.size);obtain ⟨H,hH⟩ : ∃ H,H = W.heap.size:=⟨_,rfl⟩;rw [← hH] at k6 ⊢;clear g6 z6 gn hH;have r4:=rng4 (o:=20) k6 rfl rfl rfl rfl
  go_wp2_with first
    | ((with_reducible refine wpList_ldr rowPt r4 rfl ?_ ?_);rotate_left;(rfl))
    | ((with_reducible refine wpList_st (cs:=#[.bool false,.bool false,.bool false,.bool true]) rowPt k0 rfl rfl (pt_one _ _ _ _) ?_ ?_ ?_);rotate_left;(rfl);(rfl);intro w7 k7 g7 z7)
  exact bodyPost_ret (v:=.agg #[.bool false,.bool false,.bool false,.bool true]) (results_blk rfl rowPt k7 rfl rfl) rfl ⟨rfl,gb.grown g7 gb.size (fun q hq=>by injection hq with hq;omega)⟩
theorem has17_any (k : Int) (w : World) (hk : 1≤k∧k≤5) : Calls Try.prog 33 #[.int .i64 k] w fun e w'=>e = .returned (hasV k)∧Below w.heap.size w w':=by
  obtain rfl | rfl | rfl | rfl | rfl : k = 1∨k = 2∨k = 3∨k = 4∨k = 5:=by omega
  · exact has1_any w
  · exact has2_any w
  · exact has3_any w
  · exact has4_any w
  · exact has5_any w
end Go.Proofs.Ytcgalmnllegnbaa

namespace Go.Proofs.Ytcgalmnllegnbaa
set_option linter.unusedVariables false
set_option linter.unusedSimpArgs false
set_option maxRecDepth 100000
open Go.RowKit
open Dot Evt
theorem askSeq_any (s n q v : Bool) (x : MgV) (w : World) : Calls Try.prog 46 #[pv s n q v,.agg x.cs] w fun e w'=>e = .returned (.bool (inB x.m.seq 0 (if q then 1 else if s then 1099511627776 else 0)))∧Below w.heap.size w w':=by
  obtain ⟨⟨kd,fr,tt,sq,nd,u,more,ev,mem⟩,A1,n1,c1,xs,A2,n2,c2,A3,n3,c3⟩:=x
  unfold MgV.cs mgc
  simp only
  generalize u.getD 0 0 = u0,u.getD 1 0 = u1,u.getD 2 0 = u2,u.getD 3 0 = u3,u.getD 4 0 = u4,u.getD 5 0 = u5,u.getD 6 0 = u6,u.getD 7 0 = u7
  unfold pv
  have hb : Below w.heap.size w ((w.alloc (.cells #[.bool s,.bool n,.bool q,.bool v] 73)).alloc (.cells #[.int .i64 kd,.int .i64 fr,.int .i64 tt,.int .i64 sq,.int .i64 nd,.int .i64 u0,.int .i64 u1,.int .i64 u2,.int .i64 u3,.int .i64 u4,.int .i64 u5,.int .i64 u6,.int .i64 u7,.slice A1 n1 c1,.slice A2 n2 c2,.slice A3 n3 c3] 27)):=((Below.refl _ _).alloc (Nat.le_refl _) _).alloc (by simp) _
  cases q
  case true =>
    cases s
    all_goals (
      go_enter Try.func46,Try.ntmps46
      go_wp2_with fail;refine (mwithin_any _ _ _ _).mono ?_;rintro e w1 ⟨rfl,rfl⟩;go_wp2_with fail;go_ret
      exact ⟨rfl,hb⟩)
  case false =>
    cases s
    all_goals (
      go_enter Try.func46,Try.ntmps46
      go_wp2_with fail;refine (mwithin_any _ _ _ _).mono ?_;rintro e w1 ⟨rfl,rfl⟩;go_wp2_with fail;go_ret
      exact ⟨rfl,hb⟩)
theorem askNode_any (s n q v : Bool) (x : MgV) (w : World) : Calls Try.prog 47 #[pv s n q v,.agg x.cs] w fun e w'=>e = .returned (.bool ((n && Ms.nodeB x.m.node) || decide (x.m.node = 0)))∧Below w.heap.size w w':=by
  obtain ⟨⟨kd,fr,tt,sq,nd,u,more,ev,mem⟩,A1,n1,c1,xs,A2,n2,c2,A3,n3,c3⟩:=x
  unfold MgV.cs mgc
  simp only
  generalize u.getD 0 0 = u0,u.getD 1 0 = u1,u.getD 2 0 = u2,u.getD 3 0 = u3,u.getD 4 0 = u4,u.getD 5 0 = u5,u.getD 6 0 = u6,u.getD 7 0 = u7
  unfold pv
  have hb : Below w.heap.size w ((w.alloc (.cells #[.bool s,.bool n,.bool q,.bool v] 73)).alloc (.cells #[.int .i64 kd,.int .i64 fr,.int .i64 tt,.int .i64 sq,.int .i64 nd,.int .i64 u0,.int .i64 u1,.int .i64 u2,.int .i64 u3,.int .i64 u4,.int .i64 u5,.int .i64 u6,.int .i64 u7,.slice A1 n1 c1,.slice A2 n2 c2,.slice A3 n3 c3] 27)):=((Below.refl _ _).alloc (Nat.le_refl _) _).alloc (by simp) _;have hn:=mnode_any nd
  generalize Ms.nodeB nd = R at *
  have hz : ((nd : Int) == 0) = decide (nd = 0):=rfl
  generalize hdz : decide (nd = 0) = Z at *
  cases n
  case true =>
    cases R
    all_goals (
      go_enter Try.func47,Try.ntmps47
      go_wp2_with fail;refine (hn _).mono ?_;rintro e w1 ⟨rfl,rfl⟩;go_wp2_with fail;go_ret
      exact ⟨rfl,hb⟩)
  case false =>
    go_enter Try.func47,Try.ntmps47
    go_wp2_with fail;go_ret;exact ⟨rfl,hb⟩
theorem mgv_at (x : MgV) : x.cs[0]? = some (.int .i64 x.m.kind)∧x.cs[1]? = some (.int .i64 x.m.frm)∧x.cs[2]? = some (.int .i64 x.m.to)∧x.cs[3]? = some (.int .i64 x.m.seq)∧x.cs[4]? = some (.int .i64 x.m.node)∧x.cs[13]? = some (.slice x.A1 x.n1 x.c1)∧x.cs[14]? = some (.slice x.A2 x.n2 x.c2)∧x.cs[15]? = some (.slice x.A3 x.n3 x.c3):=⟨rfl,rfl,rfl,rfl,rfl,rfl,rfl,rfl⟩
theorem mgv_u (x : MgV) (hu : x.m.u.length = 8) {w : World} {g : Nat} {T : TypeId} (k : Blk w g T x.cs) : w.rangeAt g 5 (x.m.u.map (Value.int .i64)):=fun j v hv=>by
  rw [k.cell];obtain ⟨⟨kd,fr,tt,sq,nd,u,more,ev,mem⟩,A1,n1,c1,xs,A2,n2,c2,A3,n3,c3⟩:=x
  simp only at hu hv
  match u,hu with
  | [u0,u1,u2,u3,u4,u5,u6,u7],_ =>
    match j,hv with
    | 0,hv=>exact hv
    | 1,hv=>exact hv
    | 2,hv=>exact hv
    | 3,hv=>exact hv
    | 4,hv=>exact hv
    | 5,hv=>exact hv
    | 6,hv=>exact hv
    | 7,hv=>exact hv
theorem seen_any (x : MgV) (hu : x.m.u.length = 8) (w : World) : Calls Try.prog 36 #[.agg x.cs] w fun e w'=>e = .returned (.agg (uc x.m.u (.slice x.A1 x.n1 x.c1)))∧Below w.heap.size w w':=by
  obtain ⟨⟨kd,fr,tt,sq,nd,u,more,ev,mem⟩,A1,n1,c1,xs,A2,n2,c2,A3,n3,c3⟩:=x
  simp only at hu
  match u,hu with
  | [u0,u1,u2,u3,u4,u5,u6,u7],_ =>
    unfold MgV.cs mgc uc
    simp only [List.getD_cons_zero,List.getD_cons_succ,List.map_cons,List.map_nil,List.cons_append,List.nil_append]
    go_enter Try.func36,Try.ntmps36
    go_upto_region 1 with fail
    refine nameW ?_;intro W hW;obtain ⟨G,hG⟩ : ∃ G,G = w.heap.size:=⟨_,rfl⟩;rw [← hG]
    have kb : Blk W G 27 #[.int .i64 kd,.int .i64 fr,.int .i64 tt,.int .i64 sq,.int .i64 nd,.int .i64 u0,.int .i64 u1,.int .i64 u2,.int .i64 u3,.int .i64 u4,.int .i64 u5,.int .i64 u6,.int .i64 u7,.slice A1 n1 c1,.slice A2 n2 c2,.slice A3 n3 c3]:=by rw [hW,hG];exact (Blk.new w _ _).alloc _
    have kz : Blk W (G + 1) 79 #[.int .i64 0,.int .i64 0,.int .i64 0,.int .i64 0,.int .i64 0,.int .i64 0,.int .i64 0,.int .i64 0,.slice none 0 0]:=by
      have h:=Blk.new (w.alloc (.cells #[.int .i64 kd,.int .i64 fr,.int .i64 tt,.int .i64 sq,.int .i64 nd,.int .i64 u0,.int .i64 u1,.int .i64 u2,.int .i64 u3,.int .i64 u4,.int .i64 u5,.int .i64 u6,.int .i64 u7,.slice A1 n1 c1,.slice A2 n2 c2,.slice A3 n3 c3] 27)) 79 #[.int .i64 0,.int .i64 0,.int .i64 0,.int .i64 0,.int .i64 0,.int .i64 0,.int .i64 0,.int .i64 0,.slice none 0 0];rw [hW,hG]
      simpa using h
    have gb : Below w.heap.size w W:=by rw [hW];exact ((Below.refl _ _).alloc (Nat.le_refl _) _).alloc (by simp) _
    have hGl : w.heap.size≤G + 1:=by omega
    have r5 : W.rangeAt G 5 (([u0,u1,u2,u3,u4,u5,u6,u7] : List Int).map (Value.int .i64)):=fun j v hv=>by
      rw [kb.cell]
      match j,hv with
      | 0,hv=>exact hv
      | 1,hv=>exact hv
      | 2,hv=>exact hv
      | 3,hv=>exact hv
      | 4,hv=>exact hv
      | 5,hv=>exact hv
      | 6,hv=>exact hv
      | 7,hv=>exact hv
    have k13 : W.cell? ⟨G,13,none⟩ = some (.slice A1 n1 c1):=kb.cell 13;clear hW hG kb
    go_wp2_with first
      | ((with_reducible refine wpList_ldm row8 r5 rfl ?_ ?_);rotate_left;(rfl))
      | ((with_reducible refine wpList_st (cs:=#[.int .i64 u0,.int .i64 u1,.int .i64 u2,.int .i64 u3,.int .i64 u4,.int .i64 u5,.int .i64 u6,.int .i64 u7,.slice A1 n1 c1]) rowS kz rfl rfl ?_ ?_ ?_ ?_);(exact uc_one (U:=[u0,u1,u2,u3,u4,u5,u6,u7]) (s:=.slice A1 n1 c1) rfl);rotate_left;(rfl);(rfl);intro w7 k7 g7 z7)
    exact bodyPost_ret (v:=.agg #[.int .i64 u0,.int .i64 u1,.int .i64 u2,.int .i64 u3,.int .i64 u4,.int .i64 u5,.int .i64 u6,.int .i64 u7,.slice A1 n1 c1]) (results_blk rfl rowS k7 rfl rfl) rfl ⟨rfl,gb.grown g7 gb.size (fun q hq=>by injection hq with hq;omega)⟩
def zeros8 : List Int:=[0,0,0,0,0,0,0,0]
set_option maxHeartbeats 1000000 in
theorem askSeen_any (s n q v : Bool) (x : MgV) (hu : x.m.u.length = 8) (wu : Wf x.m.u) (w : World) (hr : RdD w w.heap.size x.A1 x.n1 x.m.more) :
    Calls Try.prog 48 #[pv s n q v,.agg x.cs] w fun e w'=>e = .returned (.bool (if q then rightB x.m.u x.m.more else Ms.noSeen x.m))∧Below w.heap.size w w':=by
  have hs:=seen_any x hu;have HS:=Lib.hid hs
  have HR:=Lib.hid fun (w' : World) (h : RdD w' w'.heap.size x.A1 x.n1 x.m.more)=>right_any x.m.u hu x.A1 x.n1 x.c1 x.m.more w' h
  have HRD:=Lib.hid fun (w' : World) (h : Below w.heap.size w w')=>(hr.below h).more h.size
  have HN:=Lib.hid hr.1;have H13:=Lib.hid (mgv_at x).2.2.2.2.2.1
  have HU:=Lib.hid fun (w' : World) (g : Nat) (h : Blk w' g 27 x.cs)=>mgv_u x hu h
  have HUL:=Lib.hid hu;have HUM:=Lib.hid (show (x.m.u.map (Value.int .i64)).length = 8 by rw [List.length_map,hu]);have WU:=Lib.hid wu;have SZ:=Lib.hid x.size;have ONE:=Lib.hid x.one;have WZ:=Lib.hid (show Wf zeros8 from fun y hy=>by simp [zeros8] at hy;subst hy;exact wf_of (by omega) (by omega));have NS:=Lib.hid (show Ms.noSeen x.m = (decide (x.m.u = zeros8) && decide (x.m.more = [])) from rfl);clear hs hr hu wu
  unfold pv
  generalize hC : x.cs = C at *
  clear hC
  cases q
  case true =>
    go_enter Try.func48,Try.ntmps48
    go_upto_region 1 with fail
    refine nameW ?_;intro W hW;obtain ⟨G,hG⟩ : ∃ G,G = w.heap.size:=⟨_,rfl⟩;rw [← hG]
    have kb : Blk W (G + 1) 27 C:=by
      have h:=Blk.new (w.alloc (.cells #[.bool s,.bool n,.bool true,.bool v] 73)) 27 C;rw [hW,hG]
      simpa using h
    have kp : W.cell? ⟨G,2,none⟩ = some (.bool true):=by rw [hW,hG];exact ((Blk.new w 73 #[.bool s,.bool n,.bool true,.bool v]).alloc _).cell 2
    have gb : Below w.heap.size w W:=by rw [hW];exact ((Below.refl _ _).alloc (Nat.le_refl _) _).alloc (by simp) _
    clear hW hG
    go_wp2_with ((with_reducible refine wpList_ld rowMg kb SZ.out ?_ ?_);rotate_left;(rfl))
    refine (HS.out _).mono ?_;rintro e w1 ⟨rfl,b1⟩;have gb1:=gb.trans (b1.mono gb.size);clear kb kp gb b1;go_wp2_with fail;refine (HR.out _ (HRD.out _ gb1)).mono ?_;rintro e w2 ⟨rfl,b2⟩;have gb2:=gb1.trans (b2.mono gb1.size);go_wp2_with fail;go_ret;exact ⟨rfl,gb2⟩
  case false =>
    go_enter Try.func48,Try.ntmps48
    go_upto_region 1 with fail
    refine nameW ?_;intro W hW;obtain ⟨G,hG⟩ : ∃ G,G = w.heap.size:=⟨_,rfl⟩;rw [← hG]
    have kb : Blk W (G + 1) 27 C:=by
      have h:=Blk.new (w.alloc (.cells #[.bool s,.bool n,.bool false,.bool v] 73)) 27 C;rw [hW,hG]
      simpa using h
    have kp : W.cell? ⟨G,2,none⟩ = some (.bool false):=by rw [hW,hG];exact ((Blk.new w 73 #[.bool s,.bool n,.bool false,.bool v]).alloc _).cell 2
    have gb : Below w.heap.size w W:=by rw [hW];exact ((Below.refl _ _).alloc (Nat.le_refl _) _).alloc (by simp) _
    have r5:=HU.out _ _ kb;have k13 : W.cell? ⟨G + 1,13,none⟩ = some (.slice x.A1 x.n1 x.c1):=(kb.cell 13).trans H13.out;have hnm : x.n1 = x.m.more.length:=HN.out;clear hW hG kb
    by_cases hz : x.m.u = zeros8
    · by_cases hm : x.n1 = 0
      · have hres : Ms.noSeen x.m = true:=by rw [NS.out,decide_eq_true hz,decide_eq_true (List.eq_nil_of_length_eq_zero (by omega))];rfl
        have HRS:=Lib.hid hres;have hd : decide (x.m.u = zeros8) = true:=decide_eq_true hz;clear hres hz hnm
        go_upto_region 3 with fail
        go_wp2_with first
          | ((with_reducible refine wpList_ldm row8 r5 HUM.out ?_ ?_);rotate_left;(rfl);rw [show (x.m.u.map (Value.int .i64)).toArray = uI x.m.u from rfl])
          | ((with_reducible refine wpList_eq8 (A:=x.m.u) (B:=zeros8) HUL.out rfl WU.out WZ.out ?_ ?_ ?_);rotate_left;(rfl);(rfl);rw [hd])
        go_ret;rw [HRS.out];exact ⟨rfl,gb⟩
      · have hres : Ms.noSeen x.m = false:=by rw [NS.out,decide_eq_true hz,decide_eq_false (fun e=>hm (by rw [hnm,e];rfl))];rfl
        have hq0 : ((x.n1 : Int) == 0) = false:=by rw [beq_eq_false_iff_ne];omega
        have HRS:=Lib.hid hres;have hd : decide (x.m.u = zeros8) = true:=decide_eq_true hz;clear hres hz hnm
        go_upto_region 3 with fail
        go_wp2_with first
          | ((with_reducible refine wpList_ldm row8 r5 HUM.out ?_ ?_);rotate_left;(rfl);rw [show (x.m.u.map (Value.int .i64)).toArray = uI x.m.u from rfl])
          | ((with_reducible refine wpList_eq8 (A:=x.m.u) (B:=zeros8) HUL.out rfl WU.out WZ.out ?_ ?_ ?_);rotate_left;(rfl);(rfl);rw [hd])
        go_ret;rw [HRS.out];exact ⟨rfl,gb⟩
    · have hres : Ms.noSeen x.m = false:=by rw [NS.out,decide_eq_false hz];rfl
      have HRS:=Lib.hid hres;have hd : decide (x.m.u = zeros8) = false:=decide_eq_false hz;clear hres hz hnm
      go_upto_region 3 with fail
      go_wp2_with first
        | ((with_reducible refine wpList_ldm row8 r5 HUM.out ?_ ?_);rotate_left;(rfl);rw [show (x.m.u.map (Value.int .i64)).toArray = uI x.m.u from rfl])
        | ((with_reducible refine wpList_eq8 (A:=x.m.u) (B:=zeros8) HUL.out rfl WU.out WZ.out ?_ ?_ ?_);rotate_left;(rfl);(rfl);rw [hd])
      go_ret;rw [HRS.out];exact ⟨rfl,gb⟩
end Go.Proofs.Ytcgalmnllegnbaa

namespace Go.Proofs.Ytcgalmnllegnbaa
set_option linter.unusedVariables false
set_option linter.unusedSimpArgs false
set_option maxRecDepth 100000
open Go.RowKit
open Dot Evt
open Ms (Mem)
theorem members_bad {l : List Mem} {i : Nat} (h : i < l.length) (hb : Ms.memAt l i = false) : Ms.membersB l = false:=by
  rw [Bool.eq_false_iff];intro h2
  have:=(Ms.members_iff l).1 h2 i h
  rw [hb] at this
  cases this
theorem lastM_succ {l : List Mem} {k : Nat} (h : k < l.length) : Ms.lastM l (k + 1) = (l[k]).1:=by
  unfold Ms.lastM
  rw [if_neg (by omega),Nat.add_sub_cancel,List.getD_eq_getElem?_getD,List.getElem?_eq_getElem h]
  rfl
theorem memAt_eq {l : List Mem} {k : Nat} (h : k < l.length) : Ms.memAt l k = (Ms.nodeB (l[k]).1 && decide (Ms.lastM l k < (l[k]).1) && inB (l[k]).2.1 1 4 && inB (l[k]).2.2 0 1099511627776):=by
  unfold Ms.memAt
  rw [List.getD_eq_getElem?_getD,List.getElem?_eq_getElem h]
  rfl
set_option maxHeartbeats 1000000 in
theorem members_any (A : Option Addr) (n c : Nat) (l : List Mem) (w : World) (hl : RdMb w w.heap.size A n l) (hn : n≤maxLen) :
    Calls Try.prog 45 #[.slice A n c] w fun e w'=>e = .returned (.bool (Ms.membersB l))∧Below w.heap.size w w':=by
  obtain ⟨R,hR⟩ : ∃ R,R = Ms.membersB l:=⟨_,rfl⟩;rw [← hR];have HR:=Lib.hid hR;have HN:=Lib.hid hl.1
  have HRK:=Lib.hid fun (w' : World) (hb : Below w.heap.size w w')=>hl.below hb
  unfold maxLen at hn
  clear hR hl
  go_enter Try.func45,Try.ntmps45
  go_wp2_with fail
  go_loopw [3,8] (fun la i wr=>∃ k : Nat,k≤n∧i = .int .i64 k∧la = .int .i64 (Ms.lastM l k)∧(∀ j,j < k→Ms.memAt l j = true)∧Below w.heap.size w wr) (fun _ i _=>n - (intOf i).toNat)
  case atStart=>exact ⟨0,by omega,rfl,rfl,fun j hj=>by omega,Below.refl _ _⟩
  case round =>
    obtain ⟨k,hk,rfl,rfl,hall,gb⟩:=hrel;have HA:=Lib.hid hall;clear hall
    by_cases hlt : k < n
    · have hkl : k < l.length:=by rw [← HN.out];exact hlt
      obtain ⟨ad,hA,q5,q0,q1,q2⟩:=(HRK.out wr gb).2 k _ (List.getElem?_eq_getElem hkl);have hme:=memAt_eq hkl;have hls:=lastM_succ hkl
      have HB:=Lib.hid fun (h : Ms.memAt l k = false)=>members_bad hkl h
      have hk0 : (0 : Int)≤(k : Int):=by omega
      have hkn : (k : Int) < (n : Int):=by omega
      generalize l[k] = d at *
      obtain ⟨x,y,z⟩:=d
      simp only at q0 q1 q2 hme hls
      generalize Ms.lastM l k = la at *
      subst hA
      have hc1:=fun w=>mnode_any x w
      have hc3:=fun w=>mwithin_any y 1 4 w
      have hc4:=fun w=>mwithin_any z 0 1099511627776 w
      have gb1 : ∀ o : Obj,Below w.heap.size w (wr.alloc o):=fun o=>gb.alloc gb.size o
      have HG:=Lib.hid gb1;have HLS:=Lib.hid hls;clear hls gb1
      cases h1 : Ms.nodeB x
      case false =>
        rw [h1] at hme hc1
        have hr : R = false:=by rw [HR.out];exact HB.out hme
        subst hr;have H1:=Lib.hid hc1;clear hc1 hc3 hc4 hme h1 gb HR;go_wp2_with fail;refine (H1.out _).mono ?_;rintro e w1 ⟨rfl,rfl⟩;go_wp2_with fail;go_ret;exact ⟨rfl,HG.out _⟩
      case true =>
        by_cases h2 : x≤la
        · have hr : R = false:=by rw [HR.out];exact HB.out (by rw [hme,h1,decide_eq_false (by omega)];rfl)
          subst hr;rw [h1] at hc1;have H1:=Lib.hid hc1;have hd : decide (x≤la) = true:=decide_eq_true h2;clear hc1 hc3 hc4 hme h1 gb HR;go_wp2_with fail;refine (H1.out _).mono ?_;rintro e w1 ⟨rfl,rfl⟩;go_wp2_with fail;go_ret;exact ⟨rfl,HG.out _⟩
        · have hd : decide (x≤la) = false:=decide_eq_false h2
          have hme : Ms.memAt l k = (inB y 1 4 && inB z 0 1099511627776):=by rw [hme,h1,decide_eq_true (by omega)];rfl
          rw [h1] at hc1;have H1:=Lib.hid hc1
          cases h3 : inB y 1 4
          case false =>
            rw [h3] at hme hc3
            have hr : R = false:=by rw [HR.out];exact HB.out hme
            subst hr;have H3:=Lib.hid hc3;clear hc1 hc3 hc4 hme h1 h3 gb HR;go_wp2_with fail;refine (H1.out _).mono ?_;rintro e w1 ⟨rfl,rfl⟩;go_wp2_with fail;refine (H3.out _).mono ?_;rintro e w1 ⟨rfl,rfl⟩;go_wp2_with fail;go_ret;exact ⟨rfl,HG.out _⟩
          case true =>
            rw [h3] at hme hc3;have H3:=Lib.hid hc3
            cases h4 : inB z 0 1099511627776
            case false =>
              rw [h4] at hme hc4
              have hr : R = false:=by rw [HR.out];exact HB.out hme
              subst hr;have H4:=Lib.hid hc4;clear hc1 hc3 hc4 hme h1 h3 h4 gb HR;go_wp2_with fail;refine (H1.out _).mono ?_;rintro e w1 ⟨rfl,rfl⟩;go_wp2_with fail;refine (H3.out _).mono ?_;rintro e w1 ⟨rfl,rfl⟩;go_wp2_with fail;refine (H4.out _).mono ?_;rintro e w1 ⟨rfl,rfl⟩;go_wp2_with fail;go_ret;exact ⟨rfl,HG.out _⟩
            case true =>
              rw [h4] at hme hc4;have H4:=Lib.hid hc4;have HM:=Lib.hid hme;clear hc1 hc3 hc4 hme h1 h3 h4 gb;go_wp2_with fail;refine (H1.out _).mono ?_;rintro e w1 ⟨rfl,rfl⟩;go_wp2_with fail;refine (H3.out _).mono ?_;rintro e w1 ⟨rfl,rfl⟩;go_wp2_with fail;refine (H4.out _).mono ?_;rintro e w1 ⟨rfl,rfl⟩;go_wp2_with fail
              go_roundw
              case rel=>exact ⟨k + 1,by omega,by go_num,by rw [HLS.out],fun j hj=>by
                by_cases e : j = k
                · rw [e];exact HM.out
                · exact HA.out j (by omega),HG.out _⟩
              case measure=>simp [intOf];omega
    · have hr : R = true:=by
        rw [HR.out,Ms.members_iff];intro i hi;exact HA.out i (by have:=HN.out;omega)
      subst hr;have hkd : decide ((k : Int) < (n : Int)) = false:=decide_eq_false (by omega);go_wp2_with fail;go_ret;exact ⟨rfl,gb⟩
theorem all_offE {xs : List EvV} {k : Nat} (h : k < xs.length) (hb : rightE (xs[k]).e = false) : (xs.map (·.e)).all rightE = false:=by
  rw [Bool.eq_false_iff];intro h2
  have:=List.all_eq_true.1 h2 (xs[k]).e (List.mem_map.2 ⟨_,List.getElem_mem h,rfl⟩)
  rw [hb] at this
  cases this
set_option maxHeartbeats 1000000 in
theorem askEv_any (s n q v : Bool) (x : MgV) (w : World) (hr : RowEv w w.heap.size x.A2 x.n2 x.xs) (hes : x.m.ev = x.xs.map (·.e)) (hn : x.n2≤10000000000000) :
    Calls Try.prog 49 #[pv s n q v,.agg x.cs] w fun e w'=>e = .returned (.bool (if v then x.m.ev.all rightE && decide (x.m.ev.length≤768) else decide (x.m.ev = [])))∧Below w.heap.size w w':=by
  obtain ⟨R,hR⟩ : ∃ R,R = (if v then x.m.ev.all rightE && decide (x.m.ev.length≤768) else decide (x.m.ev = [])):=⟨_,rfl⟩;rw [← hR]
  have HRK:=Lib.hid fun (w' : World) (h : Below w.heap.size w w')=>hr.below h
  have HN:=Lib.hid hr.1;have H14:=Lib.hid (mgv_at x).2.2.2.2.2.2.1;have SZ:=Lib.hid x.size
  have hl : x.m.ev.length = x.n2:=by rw [hes,List.length_map,hr.1]
  rw [hes] at hR hl;clear hr hes
  unfold pv
  generalize hC : x.cs = C at *
  clear hC
  cases v
  case false =>
    have hz : R = decide ((x.n2 : Int) = 0):=by
      rw [hR,if_neg (by decide)]
      congr 1
      rw [eq_iff_iff]
      constructor
      · intro e;rw [e] at hl;simp at hl;omega
      · intro e;exact List.eq_nil_of_length_eq_zero (by omega)
    have HZ:=Lib.hid hz;clear hz hR
    go_enter Try.func49,Try.ntmps49
    go_upto_region 1 with fail
    refine nameW ?_;intro W hW;obtain ⟨G,hG⟩ : ∃ G,G = w.heap.size:=⟨_,rfl⟩;rw [← hG]
    have kb : Blk W (G + 1) 27 C:=by
      have h:=Blk.new (w.alloc (.cells #[.bool s,.bool n,.bool q,.bool false] 73)) 27 C;rw [hW,hG]
      simpa using h
    have kp : W.cell? ⟨G,3,none⟩ = some (.bool false):=by rw [hW,hG];exact ((Blk.new w 73 #[.bool s,.bool n,.bool q,.bool false]).alloc _).cell 3
    have gb : Below w.heap.size w W:=by rw [hW];exact ((Below.refl _ _).alloc (Nat.le_refl _) _).alloc (by simp) _
    have k14 : W.cell? ⟨G + 1,14,none⟩ = some (.slice x.A2 x.n2 x.c2):=(kb.cell 14).trans H14.out;clear hW hG kb;go_wp2_with fail;go_ret;rw [HZ.out];exact ⟨rfl,gb⟩
  case true =>
    rw [if_pos rfl,hl] at hR;have HR:=Lib.hid hR;clear hR
    go_enter Try.func49,Try.ntmps49
    go_upto_region 1 with fail
    refine nameW ?_;intro W hW;obtain ⟨G,hG⟩ : ∃ G,G = w.heap.size:=⟨_,rfl⟩;rw [← hG]
    have kb : Blk W (G + 1) 27 C:=by
      have h:=Blk.new (w.alloc (.cells #[.bool s,.bool n,.bool q,.bool true] 73)) 27 C;rw [hW,hG]
      simpa using h
    have kp : W.cell? ⟨G,3,none⟩ = some (.bool true):=by rw [hW,hG];exact ((Blk.new w 73 #[.bool s,.bool n,.bool q,.bool true]).alloc _).cell 3
    have gb : Below w.heap.size w W:=by rw [hW];exact ((Below.refl _ _).alloc (Nat.le_refl _) _).alloc (by simp) _
    have k14 : W.cell? ⟨G + 1,14,none⟩ = some (.slice x.A2 x.n2 x.c2):=(kb.cell 14).trans H14.out;have hGW : G + 1 < W.heap.size:=kb.lt;clear hW hG kb;go_wp2_with fail
    go_loopw [17] (fun i wr=>∃ k : Nat,k≤x.n2∧i = .int .i64 k∧(∀ j (h : j < x.xs.length),j < k→rightE (x.xs[j]).e = true)∧Below w.heap.size w wr∧Below W.heap.size W wr) (fun i _=>x.n2 - (intOf i).toNat)
    case atStart=>exact ⟨0,by omega,rfl,fun j _ hj=>by omega,gb,Below.refl _ _⟩
    case round =>
      clear gb;obtain ⟨k,hk,rfl,hall,gb,gW⟩:=hrel;have HA:=Lib.hid hall;clear hall
      by_cases hlt : k < x.n2
      · have hkl : k < x.xs.length:=by rw [← HN.out];exact hlt
        obtain ⟨hok,ad,hA,hab,hcell⟩:=(HRK.out wr gb).2 k _ (List.getElem?_eq_getElem hkl)
        have HOFF:=Lib.hid fun h=>all_offE hkl h
        have HAK:=Lib.hid fun (h : rightE (x.xs[k]).e = true) (j : Nat) (hj : j < x.xs.length) (hjk : j < k + 1)=>(by
          by_cases e : j = k
          · subst e;exact h
          · exact HA.out j hj (by omega) : rightE (x.xs[j]).e = true)
        have hright:=fun (w' : World) (h : RdD w' w'.heap.size (x.xs[k]).A (x.xs[k]).m (x.xs[k]).e.l)=>eright_any (x.xs[k]).e hok.1 (x.xs[k]).A (x.xs[k]).m (x.xs[k]).c w' h
        generalize x.xs[k] = y at *
        rw [hA] at *;obtain ⟨cs,hcs⟩ : ∃ cs,cs = y.cs:=⟨_,rfl⟩;have hec : ec y.e (.slice y.A y.m y.c) = cs:=hcs.symm;rw [← hcs] at hcell;rw [hec] at hright;have HSZ:=Lib.hid (show cs.size = 14 by rw [hcs];rfl);have H1C:=Lib.hid (show cs.all (·.oneCell') = true by rw [hcs];exact y.one);have HC:=Lib.hid hcell;have HRT:=Lib.hid hright
        have HOK:=Lib.hid fun (w' : World) (h : Below wr.heap.size wr w')=>((hok.2.1.below (h.mono gb.size)).more (show w.heap.size≤w'.heap.size by have:=h.size;have:=gb.size;omega))
        have hk0 : (0 : Int)≤(k : Int):=by omega
        have hkm : (k : Int) < (x.n2 : Int):=by omega
        clear hcs hec hcell hok hright
        go_upto_region 5 with fail
        go_upto_region 6 with first
          | ((with_reducible refine wpList_lda rowE HC.out HSZ.out ?_ ?_);rotate_left;(rfl))
          | ((with_reducible refine wpList_st rowE (Blk.new _ _ _) HSZ.out ?_ H1C.out ?_ ?_ ?_);(rfl);rotate_left;(rfl);(rfl);intro w6 k6 g6 z6)
        have bA : Below wr.heap.size wr w6:=new_below g6;have gb6:=gb.trans (bA.mono gb.size);have gW6:=gW.trans (bA.mono gW.size);have rd6:=HOK.out w6 bA;obtain ⟨gr,hgr2⟩ : ∃ gr,gr = wr.heap.size:=⟨_,rfl⟩;rw [← hgr2] at k6 ⊢;clear hgr2 g6 z6 bA gb gW
        cases hx : rightE y.e
        case false =>
          have hr : R = false:=by rw [HR.out,HOFF.out hx];rfl
          subst hr;have hrt:=HRT.out w6 rd6;rw [hx] at hrt;have HRT2:=Lib.hid hrt;clear hx hrt HRT
          go_wp2_with ((with_reducible refine wpList_ld rowE k6 HSZ.out ?_ ?_);rotate_left;(rfl))
          refine HRT2.out.mono ?_;rintro e w7 ⟨rfl,b7⟩;have gb7:=gb6.trans (b7.mono gb6.size);go_wp2_with fail;go_ret;exact ⟨rfl,gb7⟩
        case true =>
          have hrt:=HRT.out w6 rd6;rw [hx] at hrt;have HRT2:=Lib.hid hrt;have HX:=Lib.hid hx;clear hx hrt HRT
          go_wp2_with ((with_reducible refine wpList_ld rowE k6 HSZ.out ?_ ?_);rotate_left;(rfl))
          refine HRT2.out.mono ?_;rintro e w7 ⟨rfl,b7⟩;have gb7:=gb6.trans (b7.mono gb6.size);have gW7:=gW6.trans (b7.mono gW6.size);go_wp2_with fail
          go_roundw
          case rel=>exact ⟨k + 1,by omega,by go_num,HAK.out HX.out,gb7,gW7⟩
          case measure=>simp [intOf];omega
      · have hkd : decide ((k : Int) < (x.n2 : Int)) = false:=decide_eq_false (by omega)
        have k14b : wr.cell? ⟨G + 1,14,none⟩ = some (.slice x.A2 x.n2 x.c2):=(gW.cell hGW).trans k14
        have hr : R = decide ((x.n2 : Int)≤768):=by
          rw [HR.out]
          have h1 : (x.xs.map (·.e)).all rightE = true:=by
            rw [List.all_eq_true];intro e he;obtain ⟨y,hy,rfl⟩:=List.mem_map.1 he;obtain ⟨i,hi,rfl⟩:=List.getElem_of_mem hy;exact HA.out i hi (by have:=HN.out;omega)
          rw [h1,Bool.true_and]
          congr 1
          rw [eq_iff_iff]
          omega
        have HRR:=Lib.hid hr;clear hr;go_wp2_with fail;go_ret;rw [HRR.out];exact ⟨rfl,gb⟩
end Go.Proofs.Ytcgalmnllegnbaa
