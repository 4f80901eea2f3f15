import Derived.Test.YtcgalmnllegnbaaEvRow
import Derived.Test.YtcgalmnllegnbaaDotHas
import Derived.Test.YtcgalmnllegnbaaEvAlive
namespace Go.Proofs.Ytcgalmnllegnbaa
set_option linter.unusedVariables false
set_option linter.unusedSimpArgs false
set_option maxRecDepth 100000
open Go.RowKit
open Dot Evt
theorem own_emptyD {w : World} {g base : Nat} (h : Blk w g 46 #[]) (hb : base≤g) : OwnD w base (some ⟨g,0,none⟩) 0 0 [] :=
  ⟨rfl,rfl,.inr ⟨g,0,#[],rfl,hb,h,Nat.le_refl _,Nat.zero_le _,rfl,rfl⟩⟩
theorem infoEv : (Try.prog.info? 50).map (fun i=>(i.zero,i.size,i.bytes)) = some (some (.agg (cT 0)),14,128):=by kernel_rfl
def ecsL (xs : List EvV) : List Value:=xs.flatMap fun x=>x.cs.toList
theorem ecsL_len (xs : List EvV) : (ecsL xs).length = xs.length * 14:=by
  induction xs with
  | nil=>rfl
  | cons x l ih=>show (x.cs.toList ++ ecsL l).length = _;rw [List.length_append,ih,Array.length_toList,x.size];simp;omega
theorem ecsL_app (l m : List EvV) : ecsL (l ++ m) = ecsL l ++ ecsL m:=by unfold ecsL;rw [List.flatMap_append]
theorem ecsL_one (l : List EvV) : ∀ u ∈ ecsL l,u.oneCell' = true:=by
  intro u hu
  unfold ecsL at hu
  rw [List.mem_flatMap] at hu;obtain ⟨d,_,hd⟩:=hu
  have:=Array.all_eq_true_iff_forall_mem.1 d.one u (by simpa using hd)
  exact this
theorem ecsL_at (l : List EvV) : ∀ (i : Nat) (x : EvV),l[i]? = some x→∀ (j : Nat) v,x.cs[j]? = some v→(ecsL l)[i * 14 + j]? = some v:=by
  induction l with
  | nil=>intro i d h;simp at h
  | cons y l ih =>
    intro i x h j v hv;have e : ecsL (y :: l) = y.cs.toList ++ ecsL l:=rfl
    have hj : j < 14:=by
      have:=(Array.getElem?_eq_some_iff.1 hv).1
      rwa [x.size] at this
    rw [e]
    cases i with
    | zero =>
      simp at h
      subst h;rw [Nat.zero_mul,Nat.zero_add,List.getElem?_append_left (by rw [Array.length_toList,y.size];exact hj),Array.getElem?_toList];exact hv
    | succ i =>
      rw [List.getElem?_append_right (by rw [Array.length_toList,y.size];omega),Array.length_toList,y.size,show (i + 1) * 14 + j - 14 = i * 14 + j by omega];exact ih i x (by simpa using h) j v hv
def OwnEv (w : World) (base : Nat) (A : Option Addr) (n c : Nat) (xs : List EvV) : Prop:=n = xs.length∧w.ownsRow base 50 14 (.slice A n c) n (ecsL xs)
section
variable {w w' : World} {base B n c : Nat} {A : Option Addr} {xs : List EvV}
theorem OwnEv.nil (w : World) (base : Nat) : OwnEv w base none 0 0 []:=⟨rfl,World.ownsRow_nil w base _ 14⟩
theorem OwnEv.alloc (h : OwnEv w base A n c xs) (o : Obj) : OwnEv (w.alloc o) base A n c xs:=⟨h.1,h.2.alloc o⟩
theorem OwnEv.drew (h : OwnEv w base A n c xs) : OwnEv w.drew base A n c xs:=h
theorem OwnEv.mono {base' : Nat} (h : OwnEv w base A n c xs) (hb : base'≤base) : OwnEv w base' A n c xs:=⟨h.1,ownsRow_base h.2 hb⟩
theorem OwnEv.raw (h : OwnEv w base A n c xs) : Rd w w.heap.size A (ecsL xs):=fun j u hu=>by
  rcases h.2.2 with ⟨hv,h0⟩ | ⟨g,cap,cur,hv,hb,hh,hn,hm,hs,hc⟩
  · have:=h.2.1;rw [h0] at this;simp at this;rw [this] at hu;simp at hu
  · injection hv with hA
    subst hA;exact ⟨_,rfl,(h.2.lt g rfl).2,h.2.cells (g:=g) rfl j u hu⟩
theorem OwnEv.lt (h : OwnEv w base A n c xs) : ∀ g,A.map (·.block) = some g→base≤g∧g < w.heap.size:=fun g hg=>h.2.lt g (by
  rcases A with _ | a
  · simp at hg
  · simpa [Value.ownBlock] using hg)
theorem OwnEv.below (h : OwnEv w base A n c xs) (hb : Below B w w') (hB : w.heap.size≤B) : OwnEv w' base A n c xs:=⟨h.1,ownsRow_keep h.2 fun k hk=>hb.block k (by have:=ownsRow_lt h.2 hk;omega)⟩
theorem OwnEv.row (h : OwnEv w base A n c xs) (hx : ∀ x ∈ xs,EvOk w w.heap.size x) : RowEv w w.heap.size A n xs:=⟨h.1,fun i x hi=>by
  have hm:=List.mem_of_getElem? hi;have h0 : (ecsL xs)[i * 14 + 0]? = some (.int .i64 x.e.d.1):=ecsL_at xs i x hi 0 _ rfl;obtain ⟨ad,hA,hb,_⟩:=h.raw _ _ h0;refine ⟨hx x hm,ad,hA,hb,fun j v hv=>?_⟩;obtain ⟨ad',hA',_,hc⟩:=h.raw _ _ (ecsL_at xs i x hi j v hv)
  obtain rfl : ad = ad':=by rw [hA] at hA';injection hA'
  rw [add_add]
  exact hc⟩
end
theorem own2_ne {w : World} {b1 b2 : Nat} {t1 t2 : TypeId} {s1 s2 : Nat} {A1 A2 : Option Addr} {n1 c1 n2 c2 : Nat} {x1 x2 : List Value} (h1 : w.ownsRow b1 t1 s1 (.slice A1 n1 c1) n1 x1) (h2 : w.ownsRow b2 t2 s2 (.slice A2 n2 c2) n2 x2) (hne : t1 ≠ t2) : A1.map (·.block) = none∨A1.map (·.block) ≠ A2.map (·.block):=by
  rcases h : A1.map (·.block) with _ | k
  · exact .inl h
  · refine .inr fun e=>?_
    obtain ⟨cur,hc⟩:=ownsRow_type h1 h;obtain ⟨cur',hc'⟩:=ownsRow_type h2 (e.symm.trans h);rw [hc] at hc'
    injection hc' with hc'
    injection hc' with _ ht
    exact hne ht
def EvOwn (w : World) (base : Nat) (x : EvV) : Prop:=x.e.p.length = 7∧OwnD w base x.A x.m x.c x.e.l∧x.m≤10000000000000
theorem EvOwn.ok {w : World} {base : Nat} {x : EvV} (h : EvOwn w base x) : EvOk w w.heap.size x:=⟨h.1,h.2.1.rd,h.2.2⟩
theorem wpList_appE {w : World} {ops : Array Oper} {rest : List Oper} {o : Oper} {a : Act} {Q : Exit→Act→World→Prop} (hgd : o.guard = none) (s x : Operand)
    (ho : o.op = .call { callee:=.builtin .append,args:=#[s,x],argTypes:=#[24,24] })
    {base : Nat} {A : Option Addr} {n c : Nat} {bs : List EvV} (hs : a.eval s = .slice A n c) (hown : OwnEv w base A n c bs)
    {B : Nat} {D : Option Addr} {m d : Nat} {news : List EvV} (hx : a.eval x = .slice D m d) (hr : Rd w B D (ecsL news)) (hm : m = news.length)
    (hbytes : n + m≤1000000000000) (hbase : base≤w.heap.size)
    (h : ∀ A' c' w',OwnEv w' base A' (n + m) c' (bs ++ news)→w.grownBy w' (A.map (·.block))→Moved A' (A.map (·.block)) w.heap.size→Below base w w' →
      wpList Try.prog ops Q rest (a.put o.dst (.slice A' (n + m) c')) w') : wpList Try.prog ops Q (o :: rest) a w:=by
  obtain ⟨i0,hi,hz0,hz1,hz2⟩:=info_parts infoEv
  have hob : (Value.slice A n c).ownBlock = A.map (·.block):=by cases A <;> rfl
  refine wpList_app w hgd s x 24 ho base 50 i0 (.agg (cT 0)) 14 128 Try.underlying24 hi hz0 hz1 hz2 rfl (by decide) _ _ _ hs hown.2 B D m d (ecsL news) hx hr (by rw [ecsL_len,hm]) (ecsL_one _) (by unfold maxLen;omega) (by omega) hbase ?_;intro A' c' w' h1 h2 h3;rw [hob] at h2 h3;exact h A' c' w' ⟨by rw [List.length_append,hown.1,hm],by rw [ecsL_app];exact h1⟩ h2 h3 ((Below.refl _ _).grown h2 hbase (fun g hg=>(hown.lt g hg).1))
theorem buildE1 (x : EvV) (w : World) : (Instr.buildSlice 24 1 #[(0,.agg x.cs)]).run Try.prog w = .ok (.slice (some ⟨w.heap.size,0,none⟩) 1 1) (w.alloc (.cells x.cs 50)):=by
  obtain ⟨⟨⟨n,q⟩,t,k,wk,v,p,l⟩,A,m,c⟩:=x
  unfold EvV.cs ec
  simp only
  generalize p.getD 0 0 = p0,p.getD 1 0 = p1,p.getD 2 0 = p2,p.getD 3 0 = p3,p.getD 4 0 = p4,p.getD 5 0 = p5,p.getD 6 0 = p6
  kernel_rfl
set_option maxRecDepth 100000 in
theorem rcopy07_any (x : EvV) (w : World) (hx : EvOk w w.heap.size x) (hm : x.m≤100000) :
    Calls Try.prog 66 #[.agg x.cs] w fun e w'=>∃ A' c',e = .returned (.agg (ec x.e (.slice A' x.m c')))∧OwnD w' w.heap.size A' x.m c' x.e.l∧Below w.heap.size w w':=by
  obtain ⟨cs,hcs⟩ : ∃ cs,cs = x.cs:=⟨_,rfl⟩;have HSZ:=Lib.hid (show cs.size = 14 by rw [hcs];rfl);have X13:=Lib.hid (show cs[13]? = some (.slice x.A x.m x.c) by rw [hcs];rfl);have XS:=Lib.hid (fun (A' : Option Addr) (c' : Nat)=>(show cs.setIfInBounds 13 (.slice A' x.m c') = ec x.e (.slice A' x.m c') by rw [hcs];rfl));rw [← hcs];obtain ⟨l,hl⟩ : ∃ l,l = x.e.l:=⟨_,rfl⟩;have HRD:=Lib.hid (show RdD w w.heap.size x.A x.m l by rw [hl];exact hx.2.1);rw [← hl];have HM:=Lib.hid (HRD.out.1);clear hx hcs hl
  go_enter Try.func66,Try.ntmps66
  go_upto_region 1 with fail
  refine nameW ?_;intro wv hwv;obtain ⟨b,hb⟩ : ∃ b,b = w.heap.size:=⟨_,rfl⟩;rw [← hb]
  have kb : Blk wv b 50 cs:=by rw [hwv,hb];exact (Blk.new w _ _).alloc _
  have kz : Blk wv (b + 1) 50 (cT 0):=by
    have h:=Blk.new (w.alloc (.cells cs 50)) 50 (cT 0);rw [show (w.alloc (.cells cs 50)).heap.size = w.heap.size + 1 by simp] at h;rw [hwv,hb];exact h
  have gb : Below b w wv:=by rw [hwv,hb];exact ((Below.refl _ _).alloc (Nat.le_refl _) _).alloc (by simp) _
  have hrd : RdD wv b x.A x.m l:=by
    rw [hb];exact HRD.out.below (by rw [← hb];exact gb)
  have hsz:=kz.lt;have hsb:=kb.lt;have t13 : wv.cell? ⟨b,13,none⟩ = some (.slice x.A x.m x.c):=(kb.cell 13).trans X13.out;have HB:=Lib.hid hb;clear hwv hb HRD;have hrd2 : Rd (wv.alloc (.cells #[] 46)) b x.A (dcs l):=(hrd.below ((Below.refl _ _).alloc (by omega) _)).rd;have HR2:=Lib.hid hrd2;clear hrd hrd2
  go_wp2_with (at_builtin;refine wpList_appD rfl (.tmp 3) (.tmp 5) rfl rfl (own_emptyD (base:=b + 1 + 1) (Blk.new wv _ _) (by omega)) rfl (news:=l) HR2.out HM.out ?hc1 ?hc2 ?_)
  case hc1=>omega
  case hc2=>simp;omega
  intro A' c' w3 o3 g3 m3 b3;have bx : Below (b + 1 + 1) wv w3:=((Below.refl _ _).alloc (by omega) (.cells #[] 46)).trans b3;have kb3:=kb.below bx (by omega);have kz3:=kz.below bx (by omega);have gb3:=gb.trans (bx.mono (by omega));have c3 : w3.cell? ⟨b,13,none⟩ = some (.slice x.A x.m x.c):=(kb3.cell 13).trans X13.out;have f3:=kb3.free 13;have kb4:=kb3.set_ 13 (.slice A' x.m c');rw [XS.out] at kb4;have kz4:=kz3.far (p:=⟨b,13,none⟩) (by simp) (.slice A' x.m c')
  have o4:=o3.setFar (p:=⟨b,13,none⟩) (by
    intro h
    have:=(o3.lt _ h).1
    simp at this
    omega) (.slice A' x.m c')
  have gb4 : Below b w (w3.setCell ⟨b,13,none⟩ (.slice A' x.m c')):=gb3.setCell (by show b≤b;omega) _;obtain ⟨ce,hce⟩ : ∃ ce,ce = ec x.e (.slice A' x.m c'):=⟨_,rfl⟩;have HSE:=Lib.hid (show ce.size = 14 by rw [hce];rfl);have H1E:=Lib.hid (show ce.all (·.oneCell') = true by rw [hce];exact ec_one _ _ _ _);have HCE:=Lib.hid hce;have HZ0:=Lib.hid (show (cT 0).size = 14 from rfl);rw [← hce] at kb4;clear hce kb3 kz3 gb3 kb kz gb g3 m3 b3 bx
  have hs3 : b < w3.heap.size:=by have:=kb4.lt;simpa [World.setCell] using this
  go_upto_region 2 with fail
  refine nameW ?_;intro w4 hw4;rw [← hw4] at kb4 kz4 o4 gb4;clear hw4 c3 f3 o3 hs3
  go_wp2_with first
    | ((with_reducible refine wpList_ld rowE kb4 HSE.out ?_ ?_);rotate_left;(rfl))
    | ((with_reducible refine wpList_st rowE kz4 HSE.out HZ0.out H1E.out ?_ ?_ ?_);rotate_left;(rfl);(rfl);intro w5 k5 g5 z5)
  have o5:=o4.grown g5 (.inr (own_ne o4.2 kz4 (by decide)));exact bodyPost_ret (v:=.agg ce) (results_blk rfl rowE k5 HSE.out rfl) rfl ⟨A',c',by rw [HCE.out],o5.mono (by have:=HB.out;omega),by rw [← HB.out];exact gb4.grown g5 (by have:=gb4.size;have:=HB.out;omega) (fun q hq=>by injection hq;omega)⟩
def CopiesEnd (w : World) (n : Nat) (xs : List EvV) (e : Ending) (w' : World) : Prop:=∃ A' c' ys,e = .returned (.slice A' n c')∧OwnEv w' w.heap.size A' n c' ys∧(∀ y ∈ ys,EvOwn w' w.heap.size y)∧ys.map (·.e) = xs.map (·.e)∧Below w.heap.size w w'
set_option maxRecDepth 100000 in
set_option maxHeartbeats 1000000 in
theorem rcopies07_any (A : Option Addr) (n c : Nat) (xs : List EvV) (w : World) (hn : n≤100000) (hR : RowEv w w.heap.size A n xs) (hm : ∀ x ∈ xs,x.m≤100000) :
    Calls Try.prog 27 #[.slice A n c] w (CopiesEnd w n xs):=by
  have HN:=Lib.hid hR.1
  have HRK:=Lib.hid fun (w' : World) (hb : Below w.heap.size w w')=>hR.below hb
  have HNB:=Lib.hid hn;have HM:=Lib.hid hm;clear hR hn hm;obtain ⟨B,hB⟩ : ∃ B,B = w.heap.size:=⟨_,rfl⟩;have HB:=Lib.hid hB;rw [← hB] at HRK;clear hB
  go_enter Try.func27,Try.ntmps27
  go_wp2_with fail
  go_loopw [3,8] (fun s i wr=>∃ (k : Nat) (A' : Option Addr) (c' : Nat) (ys : List EvV),k≤n∧i = .int .i64 k∧s = .slice A' k c'∧OwnEv wr B A' k c' ys∧(∀ y ∈ ys,EvOwn wr B y)∧ys.map (·.e) = (xs.take k).map (·.e)∧Below B w wr) (fun _ i _=>n - (intOf i).toNat)
  case atStart=>exact ⟨0,none,0,[],by omega,rfl,rfl,OwnEv.nil _ _,fun y hy=>by simp at hy,rfl,by rw [HB.out];exact Below.refl _ _⟩
  case round =>
    obtain ⟨k,A',c',ys,hk,rfl,rfl,ho,hys,hmp,gb⟩:=hrel;have HYS:=Lib.hid hys;have HMP:=Lib.hid hmp;clear hys hmp
    by_cases hlt : k < n
    · have hkl : k < xs.length:=by rw [← HN.out];exact hlt
      have hgs : B≤wr.heap.size:=by have:=gb.size;have:=HB.out;omega
      obtain ⟨hok,ad,hA,hab,hcell⟩:=(HRK.out wr gb).2 k _ (List.getElem?_eq_getElem hkl);have hsn:=take_snoc xs hkl;have hmm:=HM.out _ (List.getElem_mem hkl)
      generalize xs[k] = x at *
      subst hA;obtain ⟨cs,hcs⟩ : ∃ cs,cs = x.cs:=⟨_,rfl⟩;rw [← hcs] at hcell;have HCS:=Lib.hid hcs;have HSZ:=Lib.hid (show cs.size = 14 by rw [hcs];rfl);have H1C:=Lib.hid (show cs.all (·.oneCell') = true by rw [hcs];exact x.one);have HC:=Lib.hid hcell;have HSN:=Lib.hid hsn;have HOK:=Lib.hid hok;have HMM:=Lib.hid hmm
      have hk0 : (0 : Int)≤(k : Int):=by omega
      have hkm : (k : Int) < (n : Int):=by omega
      clear hcell hok hsn hmm hcs
      go_upto_region 4 with fail
      go_upto_region 5 with first
        | ((with_reducible refine wpList_lda rowE HC.out HSZ.out ?_ ?_);rotate_left;(rfl))
        | ((with_reducible refine wpList_st rowE (Blk.new _ _ _) HSZ.out ?_ H1C.out ?_ ?_ ?_);(rfl);rotate_left;(rfl);(rfl);intro w6 k6 g6 z6)
      have bA : Below wr.heap.size wr w6:=(((Below.refl _ _).alloc (Nat.le_refl _) _).grown g6 (by simp) (fun q hq=>by injection hq with hq;omega));have gb6:=gb.trans (bA.mono hgs);have ho6:=ho.below bA (Nat.le_refl _)
      have hys6 : ∀ y ∈ ys,EvOwn w6 B y:=fun y hy=>by
        obtain ⟨q1,q2,q3⟩:=HYS.out y hy;exact ⟨q1,q2.below bA (Nat.le_refl _),q3⟩
      have hok6:=HOK.out.below (bA.mono hgs);obtain ⟨gr,hgr2⟩ : ∃ gr,gr = wr.heap.size:=⟨_,rfl⟩
      have hgr3 : B≤gr:=by omega
      rw [← hgr2] at k6 ⊢;have HYS6:=Lib.hid hys6
      have hs6 : B≤w6.heap.size:=by have:=gb6.size;have:=HB.out;omega
      have hcp:=rcopy07_any x w6 (hok6.more hs6) HMM.out;rw [← HCS.out] at hcp;have HCP:=Lib.hid hcp;clear hgr2 g6 z6 bA gb ho HYS hys6 hcp hok6
      go_wp2_with first
        | ((with_reducible refine wpList_ld rowE k6 HSZ.out ?_ ?_);rotate_left;(rfl))
      refine HCP.out.mono ?_;rintro e w7 ⟨A2,c2,rfl,o7,b7⟩;have ho7:=ho6.below b7 (Nat.le_refl _)
      have hys7 : ∀ y ∈ ys,EvOwn w7 B y:=fun y hy=>by
        obtain ⟨q1,q2,q3⟩:=HYS6.out y hy;exact ⟨q1,q2.below b7 (Nat.le_refl _),q3⟩
      have gb7:=gb6.trans (b7.mono hs6);have hz : EvOwn w7 B ⟨x.e,A2,x.m,c2⟩:=⟨HOK.out.1,o7.mono hs6,HOK.out.2.2⟩;obtain ⟨z,hzz⟩ : ∃ z : EvV,z = ⟨x.e,A2,x.m,c2⟩:=⟨_,rfl⟩
      have hze : z.e = x.e:=by rw [hzz]
      rw [← hzz] at hz
      have hcz : ec x.e (.slice A2 x.m c2) = z.cs:=by rw [hzz];rfl
      rw [hcz];have HZ:=Lib.hid hz;have HZE:=Lib.hid hze;have HBS:=Lib.hid (fun w=>buildE1 z w);have HYS7:=Lib.hid hys7
      have hs7 : B≤w7.heap.size:=by have:=gb7.size;have:=HB.out;omega
      obtain ⟨cz,hcz2⟩ : ∃ cz,cz = z.cs:=⟨_,rfl⟩;have HCZ:=Lib.hid hcz2;rw [← hcz2] at HBS ⊢;clear hz hze hzz hcz hcz2 hys7 HYS6 o7 b7 ho6 gb6
      go_wp2_with first
        | ((refine wpList_bs (v:=.slice (some ⟨w7.heap.size,0,none⟩) 1 1) (w':=w7.alloc (.cells cz 50)) rfl 24 1 #[(0,.tmp 14)] rfl ?_ ?_);(simp only [List.map_toArray,List.map_cons,List.map_nil];exact HBS.out w7))
        | (at_builtin;refine wpList_appE rfl (.tmp 12) (.tmp 15) rfl rfl (ho7.alloc _) rfl (news:=[z]) (B:=w7.heap.size + 1) ?hd1 rfl ?hd2 ?hd3 ?_)
      case hd1 =>
        have h:=Rd.made w7 cz 50 (0,0);rw [show ecsL [z] = cz.toList by rw [HCZ.out];simp [ecsL]];exact h
      case hd2=>have:=HNB.out;omega
      case hd3=>simp;omega
      intro A3 c3 w8 o8 g8 m8 b8;have gb8:=gb7.trans (((Below.refl _ _).alloc hs7 (.cells cz 50)).trans b8)
      have hys8 : ∀ y ∈ ys ++ [z],EvOwn w8 B y:=fun y hy=>by
        have hy2 : EvOwn w7 B y:=by
          rcases List.mem_append.1 hy with h | h
          · exact HYS7.out y h
          · simp at h;rw [h];exact HZ.out
        exact ⟨hy2.1,(hy2.2.1.alloc (.cells cz 50)).grown g8 (own2_ne hy2.2.1.2 ho7.2 (by decide)),hy2.2.2⟩
      have HYS8:=Lib.hid hys8;clear hys8 g8 m8 b8 HYS7;go_wp2_with fail
      go_roundw
      case rel=>exact ⟨k + 1,A3,c3,ys ++ [z],by omega,num_succ k (by have:=HNB.out;omega),rfl,o8,HYS8.out,by rw [HSN.out,List.map_append,List.map_append,HMP.out];simp [HZE.out],gb8⟩
      case measure=>exact meas_succ k n hlt (by have:=HNB.out;omega)
    · have hkn : k = n:=by omega
      have hkd : decide ((k : Int) < (n : Int)) = false:=decide_eq_false (by omega);have hmp:=HMP.out;rw [List.take_of_length_le (by rw [← HN.out];omega)] at hmp;have HMP2:=Lib.hid hmp;clear hmp HMP;subst hkn;go_wp2_with fail;go_ret;exact ⟨A',c',ys,rfl,by rw [← HB.out];exact ho,by rw [← HB.out];exact HYS.out,HMP2.out,by rw [← HB.out];exact gb⟩
end Go.Proofs.Ytcgalmnllegnbaa
