/- ChunkSplits: any message as some that are short enough, and how many events fit, or the error, are the document's; the message stays: the whole statement, without a condition. -/
import Derived.Test.YtcgalmnllegnbaaEvRRight
import Derived.Test.YtcgalmnllegnbaaMsgRight2
import Derived.Test.YtcgalmnllegnbaaMsgRMem
import Derived.Test.YtcgalmnllegnbaaDotRRight
import Derived.Test.YtcgalmnllegnbaaInts
import Derived.Test.YtcgalmnllegnbaaEvWput
import Derived.Test.YtcgalmnllegnbaaVintWalks
import Derived.Test.YtcgalmnllegnbaaBytes
import Derived.Test.YtcgalmnllegnbaaRefPut
import Derived.Laws.CopyOwn
import Derived.Test.YtcgalmnllegnbaaDotRPut
import Derived.Test.YtcgalmnllegnbaaMem
import Derived.Deep.DeepCutAuto
import Derived.Deep.RegionWith
import Derived.Test.YtcgalmnllegnbaaDotPut
namespace Go.Proofs.Ytcgalmnllegnbaa
set_option linter.unusedVariables false
set_option linter.unusedSimpArgs false
set_option maxRecDepth 100000
open Go.RowKit
open Dot Evt
open Ms (Mem)
theorem infoMg : (Try.prog.info? 27).map (fun i=>(i.zero,i.size,i.bytes)) = some (some (.agg ZM),16,176):=by kernel_rfl
def mgsL (xs : List MgV) : List Value:=xs.flatMap fun x=>x.cs.toList
theorem mgsL_len (xs : List MgV) : (mgsL xs).length = xs.length * 16:=by
  induction xs with
  | nil=>rfl
  | cons x l ih=>show (x.cs.toList ++ mgsL l).length = _;rw [List.length_append,ih,Array.length_toList,x.size];simp;omega
theorem mgsL_app (l m : List MgV) : mgsL (l ++ m) = mgsL l ++ mgsL m:=by unfold mgsL;rw [List.flatMap_append]
theorem mgsL_one (l : List MgV) : ∀ u ∈ mgsL l,u.oneCell' = true:=by
  intro u hu
  unfold mgsL at hu
  rw [List.mem_flatMap] at hu;obtain ⟨d,_,hd⟩:=hu
  have:=Array.all_eq_true_iff_forall_mem.1 d.one u (by simpa using hd)
  exact this
theorem mgsL_at (l : List MgV) : ∀ (i : Nat) (x : MgV),l[i]? = some x→∀ (j : Nat) v,x.cs[j]? = some v→(mgsL l)[i * 16 + j]? = some v:=by
  induction l with
  | nil=>intro i d h;simp at h
  | cons y l ih =>
    intro i x h j v hv;have e : mgsL (y :: l) = y.cs.toList ++ mgsL l:=rfl
    have hj : j < 16:=by
      have:=(Array.getElem?_eq_some_iff.1 hv).1
      rwa [x.size] at this
    rw [e]
    cases i with
    | zero =>
      simp at h
      subst h;rw [Nat.zero_mul,Nat.zero_add,List.getElem?_append_left (by rw [Array.length_toList,y.size];exact hj),Array.getElem?_toList];exact hv
    | succ i =>
      rw [List.getElem?_append_right (by rw [Array.length_toList,y.size];omega),Array.length_toList,y.size,show (i + 1) * 16 + j - 16 = i * 16 + j by omega];exact ih i x (by simpa using h) j v hv
def OwnMg (w : World) (base : Nat) (A : Option Addr) (n c : Nat) (xs : List MgV) : Prop:=n = xs.length∧w.ownsRow base 27 16 (.slice A n c) n (mgsL xs)
def RowMg (w : World) (B : Nat) (A : Option Addr) (n : Nat) (xs : List MgV) : Prop :=
  n = xs.length∧∀ i x,xs[i]? = some x→∃ ad,A = some ad∧ad.block < B∧∀ (j : Nat) v,x.cs[j]? = some v→w.cell? ((ad.add (i * 16)).add j) = some v
section
variable {w w' : World} {base B B' n c : Nat} {A : Option Addr} {xs : List MgV}
theorem OwnMg.nil (w : World) (base : Nat) : OwnMg w base none 0 0 []:=⟨rfl,World.ownsRow_nil w base _ 16⟩
theorem OwnMg.alloc (h : OwnMg w base A n c xs) (o : Obj) : OwnMg (w.alloc o) base A n c xs:=⟨h.1,h.2.alloc o⟩
theorem OwnMg.mono {base' : Nat} (h : OwnMg w base A n c xs) (hb : base'≤base) : OwnMg w base' A n c xs:=⟨h.1,ownsRow_base h.2 hb⟩
theorem OwnMg.raw (h : OwnMg w base A n c xs) : Rd w w.heap.size A (mgsL xs):=fun j u hu=>by
  rcases h.2.2 with ⟨hv,h0⟩ | ⟨g,cap,cur,hv,hb,hh,hn,hm,hs,hc⟩
  · have:=h.2.1;rw [h0] at this;simp at this;rw [this] at hu;simp at hu
  · injection hv with hA
    subst hA;exact ⟨_,rfl,(h.2.lt g rfl).2,h.2.cells (g:=g) rfl j u hu⟩
theorem OwnMg.lt (h : OwnMg w base A n c xs) : ∀ g,A.map (·.block) = some g→base≤g∧g < w.heap.size:=fun g hg=>h.2.lt g (by
  rcases A with _ | a
  · simp at hg
  · simpa [Value.ownBlock] using hg)
theorem OwnMg.below (h : OwnMg w base A n c xs) (hb : Below B w w') (hB : w.heap.size≤B) : OwnMg w' base A n c xs:=⟨h.1,ownsRow_keep h.2 fun k hk=>hb.block k (by have:=ownsRow_lt h.2 hk;omega)⟩
theorem OwnMg.kept {q : Nat} (h : OwnMg w base A n c xs) (hg : w.grownBy w' (some q)) (hq : q < base) : OwnMg w' base A n c xs :=
  ⟨h.1,ownsRow_keep h.2 fun k hk=>hg.block k (ownsRow_lt h.2 hk) (fun e=>by
    injection e with e
    have:=(h.lt k (by cases A with
      | none=>cases hk
      | some a=>exact hk)).1
    omega)⟩
theorem OwnMg.far (h : OwnMg w base A n c xs) {p : Addr} (hp : p.block < base) (u : Value) : OwnMg (w.setCell p u) base A n c xs :=
  ⟨h.1,ownsRow_keep h.2 fun k hk=>Below.heap_setCell w p u k (fun e=>by
    have:=(h.lt k (by cases A with
      | none=>cases hk
      | some a=>exact hk)).1
    omega)⟩
theorem RowMg.below (h : RowMg w B A n xs) (hb : Below B w w') : RowMg w' B A n xs:=⟨h.1,fun i x hi=>by
  obtain ⟨ad,e,h2,h3⟩:=h.2 i x hi
  exact ⟨ad,e,h2,fun j v hv=>(hb.cell (by rw [block_add,block_add];exact h2)).trans (h3 j v hv)⟩⟩
theorem RowMg.more (h : RowMg w B A n xs) (hB : B≤B') : RowMg w B' A n xs:=⟨h.1,fun i x hi=>by
  obtain ⟨ad,e,h2,h3⟩:=h.2 i x hi
  exact ⟨ad,e,by omega,h3⟩⟩
theorem OwnMg.row (h : OwnMg w base A n c xs) : RowMg w w.heap.size A n xs:=⟨h.1,fun i x hi=>by
  have h0 : (mgsL xs)[i * 16 + 0]? = some (.int .i64 x.m.kind):=mgsL_at xs i x hi 0 _ rfl;obtain ⟨ad,hA,hb,_⟩:=h.raw _ _ h0;refine ⟨ad,hA,hb,fun j v hv=>?_⟩;obtain ⟨ad',hA',_,hc⟩:=h.raw _ _ (mgsL_at xs i x hi j v hv)
  obtain rfl : ad = ad':=by rw [hA] at hA';injection hA'
  rw [add_add]
  exact hc⟩
end
theorem MgOwn.grownMg {w w' : World} {base b2 n c : Nat} {x : MgV} {A : Option Addr} {xs : List MgV} (h : MgOwn w base x) (o : OwnMg w b2 A n c xs) (hg : w.grownBy w' (A.map (·.block))) : MgOwn w' base x :=
  ⟨h.u,h.wu,h.more.grown hg (own2_ne h.more.2 o.2 (by decide)),⟨h.ev.1,ownsRow_keep h.ev.2 fun k hk=>hg.block k (ownsRow_lt h.ev.2 hk) (fun e=>by
    rcases own2_ne h.ev.2 o.2 (by decide) with q | q
    · rw [hk] at q;cases q
    · exact q (hk.trans e))⟩,fun y hy=>⟨(h.eo y hy).1,(h.eo y hy).2.1.grown hg (own2_ne (h.eo y hy).2.1.2 o.2 (by decide)),(h.eo y hy).2.2⟩,h.es,h.mem.grown hg (own2_ne h.mem.2 o.2 (by decide))⟩
theorem wpList_appMg {w : World} {ops : Array Oper} {rest : List Oper} {o : Oper} {a : Act} {Q : Exit→Act→World→Prop} (hgd : o.guard = none) (s x : Operand)
    (ho : o.op = .call { callee:=.builtin .append,args:=#[s,x],argTypes:=#[52,52] })
    {base : Nat} {A : Option Addr} {n c : Nat} {bs : List MgV} (hs : a.eval s = .slice A n c) (hown : OwnMg w base A n c bs)
    {B : Nat} {D : Option Addr} {m d : Nat} {news : List MgV} (hx : a.eval x = .slice D m d) (hr : Rd w B D (mgsL news)) (hm : m = news.length)
    (hbytes : n + m≤700000000000) (hbase : base≤w.heap.size)
    (h : ∀ A' c' w',OwnMg w' base A' (n + m) c' (bs ++ news)→w.grownBy w' (A.map (·.block))→Moved A' (A.map (·.block)) w.heap.size→Below base w w' →
      wpList Try.prog ops Q rest (a.put o.dst (.slice A' (n + m) c')) w') : wpList Try.prog ops Q (o :: rest) a w:=by
  obtain ⟨i0,hi,hz0,hz1,hz2⟩:=info_parts infoMg
  have hob : (Value.slice A n c).ownBlock = A.map (·.block):=by cases A <;> rfl
  refine wpList_app w hgd s x 52 ho base 27 i0 (.agg ZM) 16 176 Try.underlying52 hi hz0 hz1 hz2 rfl (by decide) _ _ _ hs hown.2 B D m d (mgsL news) hx hr (by rw [mgsL_len,hm]) (mgsL_one _) (by unfold maxLen;omega) (by omega) hbase ?_;intro A' c' w' h1 h2 h3;rw [hob] at h2 h3;exact h A' c' w' ⟨by rw [List.length_append,hown.1,hm],by rw [mgsL_app];exact h1⟩ h2 h3 ((Below.refl _ _).grown h2 hbase (fun g hg=>(hown.lt g hg).1))
theorem buildMg1 (x : MgV) (w : World) : (Instr.buildSlice 52 1 #[(0,.agg x.cs)]).run Try.prog w = .ok (.slice (some ⟨w.heap.size,0,none⟩) 1 1) (w.alloc (.cells x.cs 27)):=by
  obtain ⟨⟨kd,fr,tt,sq,nd,u,more,ev,mem⟩,A1,n1,c1,xs,A2,n2,c2,A3,n3,c3⟩:=x
  unfold MgV.cs mgc
  simp only
  generalize u.getD 0 0 = p0,u.getD 1 0 = p1,u.getD 2 0 = p2,u.getD 3 0 = p3,u.getD 4 0 = p4,u.getD 5 0 = p5,u.getD 6 0 = p6,u.getD 7 0 = p7
  kernel_rfl
theorem RowEv.drop {w : World} {B : Nat} {A A' : Option Addr} {n : Nat} {xs : List EvV} (h : RowEv w B A n xs) {k : Nat} (hA : k < n→A' = A.map (·.add (k * 14))) : RowEv w B A' (n - k) (xs.drop k):=⟨by rw [List.length_drop,h.1],fun i x hi=>by
  rw [List.getElem?_drop] at hi;have hlt : k + i < xs.length:=(List.getElem?_eq_some_iff.1 hi).1;have hn:=h.1;obtain ⟨h1,ad,e,h2,h3⟩:=h.2 (k + i) x hi;refine ⟨h1,ad.add (k * 14),by rw [hA (by omega),e];rfl,by rw [block_add];exact h2,fun j v hv=>?_⟩;rw [add_add ad,show k * 14 + i * 14 = (k + i) * 14 by omega]
  exact h3 j v hv⟩
end Go.Proofs.Ytcgalmnllegnbaa

namespace Go.Proofs.Ytcgalmnllegnbaa
set_option linter.unusedVariables false
set_option linter.unusedSimpArgs false
set_option maxRecDepth 100000
open Go.RowKit
open Dot Evt
open Ms (Mem)
structure RWS (w0 : World) (b g : Nat) (m : Ms.Msg) (A1 A3 AE : Option Addr) (n1 c1 n3 c3 k cE : Nat) (zs : List EvV) (w : World) : Prop where
  kb : Blk w g 27 (mgc m (.slice A1 n1 c1) (.slice AE k cE) (.slice A3 n3 c3))
  kt : Blk w (b + 1) 27 ZM
  gb : Below w0.heap.size w0 w
  hb : w0.heap.size≤b
  hg : b + 1 < g
  oD : OwnD w (b + 2) A1 n1 c1 m.more
  oM : OwnMb 62 w (b + 2) A3 n3 c3 m.mem
  oE : OwnEv w (g + 1) AE k cE zs
  eo : ∀ z ∈ zs,EvOwn w (g + 1) z
section
variable {w0 w w' w2 : World} {b g : Nat} {m : Ms.Msg} {A1 A3 AE A' : Option Addr} {n1 c1 n3 c3 k cE c' : Nat} {zs : List EvV} {z : EvV}
theorem RWS.below (h : RWS w0 b g m A1 A3 AE n1 c1 n3 c3 k cE zs w) (hb : Below w.heap.size w w') : RWS w0 b g m A1 A3 AE n1 c1 n3 c3 k cE zs w' :=
  ⟨h.kb.below hb h.kb.lt,h.kt.below hb h.kt.lt,h.gb.trans (hb.mono h.gb.size),h.hb,h.hg,h.oD.below hb (Nat.le_refl _),h.oM.below hb (Nat.le_refl _),h.oE.below hb (Nat.le_refl _),fun z hz=>⟨(h.eo z hz).1,(h.eo z hz).2.1.below hb (Nat.le_refl _),(h.eo z hz).2.2⟩⟩
theorem RWS.farE {q : Nat} {cq : Array Value} (h : RWS w0 b g m A1 A3 AE n1 c1 n3 c3 k cE zs w) (hq : Blk w q 50 cq) (hgq : g + 1≤q) (v : Value) (hne : AE.map (·.block) ≠ some q) : RWS w0 b g m A1 A3 AE n1 c1 n3 c3 k cE zs (w.setCell ⟨q,13,none⟩ v):=by
  have hgg:=h.hg;have hbb:=h.hb
  have fd : ∀ {A : Option Addr} {n c : Nat} {l : List Dt},OwnD w (g + 1) A n c l→OwnD (w.setCell ⟨q,13,none⟩ v) (g + 1) A n c l:=fun o=>o.setFar (p:=⟨q,13,none⟩) (own_ne o.2 hq (by decide)) v
  exact ⟨h.kb.far (p:=⟨q,13,none⟩) (by show g ≠ q;omega) _,h.kt.far (p:=⟨q,13,none⟩) (by show b + 1 ≠ q;omega) _,h.gb.setCell (p:=⟨q,13,none⟩) (by show w0.heap.size≤q;omega) _,h.hb,h.hg,h.oD.setFar (p:=⟨q,13,none⟩) (own_ne h.oD.2 hq (by decide)) _,h.oM.setFar (p:=⟨q,13,none⟩) (own_ne h.oM.2 hq (by decide)) _,
    ⟨h.oE.1,ownsRow_keep h.oE.2 fun b hb=>Below.heap_setCell w ⟨q,13,none⟩ v b (fun e=>hne (by
      cases AE with
      | none=>cases hb
      | some a=>rw [← (show b = q from e)];exact hb))⟩,fun z hz=>⟨(h.eo z hz).1,fd (h.eo z hz).2.1,(h.eo z hz).2.2⟩⟩
theorem RWS.app (h : RWS w0 b g m A1 A3 AE n1 c1 n3 c3 k cE zs w) (hb : Below w.heap.size w w') (hz : EvOwn w' (g + 1) z) (ho : OwnEv w2 (g + 1) A' (k + 1) c' (zs ++ [z])) (hg : w'.grownBy w2 (AE.map (·.block))) (hB : Below (g + 1) w' w2) :
    Blk w2 g 27 (mgc m (.slice A1 n1 c1) (.slice AE k cE) (.slice A3 n3 c3))∧RWS w0 b g m A1 A3 A' n1 c1 n3 c3 (k + 1) c' (zs ++ [z]) (w2.setCell ⟨g,14,none⟩ (.slice A' (k + 1) c')):=by
  have h1:=h.below hb;have hgg:=h.hg;have hbb:=h.hb;have kb:=h1.kb.grown hg (own_ne h1.oE.2 h1.kb (by decide));have kt:=h1.kt.grown hg (own_ne h1.oE.2 h1.kt (by decide));have oD:=h1.oD.grown hg (own2_ne h1.oD.2 h1.oE.2 (by decide));have oM:=h1.oM.grown hg (own2_ne h1.oM.2 h1.oE.2 (by decide));have gb:=(h1.gb.trans (hB.mono (by omega))).setCell (p:=⟨g,14,none⟩) (by show w0.heap.size≤g;omega) (.slice A' (k + 1) c')
  have far : ∀ {A : Option Addr} {n c : Nat} {l : List Dt},OwnD w2 (g + 1) A n c l→OwnD (w2.setCell ⟨g,14,none⟩ (.slice A' (k + 1) c')) (g + 1) A n c l:=fun o=>o.setFar (p:=⟨g,14,none⟩) (fun e=>by have h9:=(o.lt _ e).1;have h8 : g + 1≤g:=h9;omega) _
  refine ⟨kb,kb.set_ 14 _,kt.far (p:=⟨g,14,none⟩) (by show b + 1 ≠ g;omega) _,gb,h.hb,h.hg,oD.setFar (p:=⟨g,14,none⟩) (own_ne oD.2 kb (by decide)) _,oM.setFar (p:=⟨g,14,none⟩) (own_ne oM.2 kb (by decide)) _,ho.far (p:=⟨g,14,none⟩) (by show g < g + 1;omega) _,fun y hy=>?_⟩
  have hy2 : EvOwn w' (g + 1) y:=by
    rcases List.mem_append.1 hy with q | q
    · exact h1.eo y q
    · rw [List.mem_singleton.1 q];exact hz
  exact ⟨hy2.1,far (hy2.2.1.grown hg (own2_ne hy2.2.1.2 h1.oE.2 (by decide))),hy2.2.2⟩
end
set_option maxHeartbeats 4000000 in
theorem rwith_any (x : MgV) (A : Option Addr) (n c : Nat) (ys : List EvV) (w0 : World) (h : MgC w0 x) (b2 : x.n2≤100000) (hr : RowEv w0 w0.heap.size A n ys) (hn : n≤100000) (hm : ∀ y ∈ ys,y.m≤100000) :
    Calls Try.prog 64 #[.agg x.cs,.slice A n c] w0 fun e w'=>∃ z : MgV,e = .returned (.agg z.cs)∧z.m = Ms.evs x.m (ys.map (·.e))∧MgOwn w' w0.heap.size z∧MgC w' z∧z.n2 = n∧Below w0.heap.size w0 w':=by
  have HCP:=Lib.hid fun (w' : World) (hb : Below w0.heap.size w0 w')=>rcopy17_own x w' (h.below hb).ok h.b1 b2 h.b3 h.hm
  have HRW:=Lib.hid fun (w' : World) (hb : Below w0.heap.size w0 w')=>hr.below hb
  have HYM:=Lib.hid hm;have HNY:=Lib.hid hr.1;have HN1:=Lib.hid (And.intro h.b1 (And.intro h.b3 hn));clear h hr hm;obtain ⟨C,hC⟩ : ∃ C,C = x.cs:=⟨_,rfl⟩;rw [← hC] at HCP ⊢;have SC:=Lib.hid (show C.size = 16 by rw [hC];rfl);clear hC
  go_enter Try.func64,Try.ntmps64
  go_upto_region 1 with fail
  refine nameW ?_;intro W hW;obtain ⟨b,hb⟩ : ∃ b,b = w0.heap.size:=⟨_,rfl⟩;rw [← hb]
  have kb : Blk W b 27 C:=by rw [hW,hb];exact (Blk.new w0 _ _).alloc _
  have kt : Blk W (b + 1) 27 ZM:=by
    have h:=Blk.new (w0.alloc (.cells C 27)) 27 ZM;rw [hW,hb]
    simpa using h
  have gb : Below w0.heap.size w0 W:=by rw [hW];exact ((Below.refl _ _).alloc (Nat.le_refl _) _).alloc (by simp) _
  have hbb : w0.heap.size≤b:=by omega
  have hWs : W.heap.size = b + 2:=by rw [hW,hb];simp
  clear hW hb
  go_wp2_with ((with_reducible refine wpList_ld rowMg kb SC.out ?_ ?_);rotate_left;(rfl))
  refine (HCP.out W gb).mono ?_;rintro e w1 ⟨y,rfl,hym,hyi,e1,e2,e3,bb,_,_,_,oD,oM⟩;rw [hWs] at oD oM;have kt:=kt.below bb kt.lt;have gb:=gb.trans (bb.mono gb.size);have SY:=Lib.hid y.size;have OY:=Lib.hid y.one;obtain ⟨CY,hCY⟩ : ∃ CY,CY = y.cs:=⟨_,rfl⟩;rw [← hCY] at SY OY ⊢;have HCY:=Lib.hid hCY;have HYI:=Lib.hid hyi;have HE:=Lib.hid (And.intro hym (And.intro e1 (And.intro e2 e3)));clear hCY bb hyi hym e1 e2 e3 kb
  go_upto_region 2 with ((with_reducible refine wpList_st (cs:=CY) rowMg (Blk.new _ _ _) SY.out ?_ OY.out ?_ ?_ ?_);(rfl);rotate_left;(rfl);(rfl);intro w5 kg gy zy)
  have bn : Below w1.heap.size w1 w5:=new_below gy;have kt5:=kt.below bn kt.lt;have gb5:=gb.trans (bn.mono gb.size);obtain ⟨g,hg⟩ : ∃ g,g = w1.heap.size:=⟨_,rfl⟩;rw [← hg] at kg ⊢
  have hgb : b + 1 < g:=by have:=kt.lt;omega
  have oD:=oD.below bn (Nat.le_refl _);have oM:=oM.below bn (Nat.le_refl _);have c14 : ∃ v,w5.cell? ⟨g,14,none⟩ = some v:=⟨_,(kg.cell 14).trans (by rw [HCY.out];rfl)⟩;obtain ⟨v14,c14⟩:=c14;have u14:=kg.free 14;have hlb:=kg.lt
  have S : RWS w0 b g y.m y.A1 y.A3 none y.n1 y.c1 y.n3 y.c3 0 0 [] (w5.setCell ⟨g,14,none⟩ (.slice none 0 0)):=by
    have k2:=kg.set_ 14 (.slice none 0 0);rw [HCY.out] at k2;exact ⟨k2,kt5.far (p:=⟨g,14,none⟩) (by show b + 1 ≠ g;omega) _,gb5.setCell (p:=⟨g,14,none⟩) (by show w0.heap.size≤g;omega) _,hbb,hgb,oD.setFar (p:=⟨g,14,none⟩) (own_ne oD.2 kg (by decide)) _,oM.setFar (p:=⟨g,14,none⟩) (own_ne oM.2 kg (by decide)) _,OwnEv.nil _ _,fun z hz=>by simp at hz⟩
  obtain ⟨w2,hw2⟩ : ∃ w2,w2 = w5.setCell ⟨g,14,none⟩ (.slice none 0 0):=⟨_,rfl⟩;rw [← hw2] at S;have HW2:=Lib.hid hw2;clear hw2 kt gb kt5 gb5 kg gy zy bn oD oM hg
  go_upto_region 3 with fail
  rw [← HW2.out];clear c14 u14 hlb HW2;have hn100:=HN1.out.2.2;go_wp2_with fail
  go_loopw [13] (fun i wr=>∃ (k : Nat) (AE : Option Addr) (cE : Nat) (zs : List EvV),k≤n∧i = .int .i64 (k : Nat)∧zs.map (·.e) = (ys.take k).map (·.e)∧RWS w0 b g y.m y.A1 y.A3 AE y.n1 y.c1 y.n3 y.c3 k cE zs wr) (fun i _=>n - (intOf i).toNat)
  case atStart=>exact ⟨0,none,0,[],by omega,rfl,rfl,S⟩
  case round =>
  clear S;obtain ⟨k,AE,cE,zs,hk,rfl,hzs,S⟩:=hrel;have HZS:=Lib.hid hzs;have HS:=Lib.hid S;clear hzs
  by_cases hlt : k < n
  · have hkl : k < ys.length:=by rw [← HNY.out];exact hlt
    obtain ⟨hok,ad,hA,hadb,hcs⟩:=(HRW.out wr S.gb).2 k _ (List.getElem?_eq_getElem hkl);have HYK:=Lib.hid (show ys[k].m≤100000 from HYM.out _ (List.getElem_mem hkl))
    have htk : (ys.take (k + 1)).map (·.e) = (ys.take k).map (·.e) ++ [ys[k].e]:=by rw [take_snoc ys hkl,List.map_append];rfl
    have HTK:=Lib.hid htk
    generalize ys[k] = ye at *
    subst hA;obtain ⟨cs,hcy⟩ : ∃ cs,cs = ye.cs:=⟨_,rfl⟩;rw [← hcy] at hcs;have HCS:=Lib.hid hcs;have HCE:=Lib.hid hcy;have HSZ:=Lib.hid (show cs.size = 14 by rw [hcy];rfl);have H1C:=Lib.hid (show cs.all (·.oneCell') = true by rw [hcy];exact ye.one);have HOK0:=Lib.hid hok
    have hk0 : (0 : Int)≤(k : Int):=by omega
    have hkm : (k : Int) < (n : Int):=by omega
    clear hcs hcy hok htk S
    go_upto_region 5 with fail
    go_upto_region 6 with first
      | ((with_reducible refine wpList_lda rowE HCS.out HSZ.out ?_ ?_);rotate_left;(rfl))
      | ((with_reducible refine wpList_st rowE (Blk.new _ _ _) HSZ.out ?_ H1C.out ?_ ?_ ?_);(rfl);rotate_left;(rfl);(rfl);intro w6 k6 g6 z6)
    have bA : Below wr.heap.size wr w6:=new_below g6;have S6:=HS.out.below bA;obtain ⟨gr,hgr2⟩ : ∃ gr,gr = wr.heap.size:=⟨_,rfl⟩;rw [← hgr2] at k6 ⊢
    have hg1 : g + 1≤gr:=by have:=HS.out.kb.lt;omega
    have hl6:=k6.lt;have hok6 : Rd (w6.alloc (.cells #[] 46)) w6.heap.size ye.A (dcs ye.e.l):=(((HOK0.out.2.1.below (bA.mono HS.out.gb.size)).more S6.gb.size).below ((Below.refl _ _).alloc (Nat.le_refl _) _)).rd;have hml : ye.m = ye.e.l.length:=HOK0.out.2.1.1;have c13 : w6.cell? ⟨gr,13,none⟩ = some (.slice ye.A ye.m ye.c):=(k6.cell 13).trans (by rw [HCE.out];rfl);have HR6:=Lib.hid hok6;have HML:=Lib.hid hml;have hym:=HYK.out;have HS6:=Lib.hid S6;have HGR:=Lib.hid (show ∀ q,AE.map (·.block) = some q→q < gr from fun q hq=>by rw [hgr2];exact (HS.out.oE.lt _ hq).2);clear hgr2 g6 z6 bA hok6 S6 HS hml
    go_wp2_with (at_builtin;refine stop ?_)
    unfold Stop
    refine wpList_appD rfl (.tmp 17) (.tmp 19) rfl rfl (own_emptyD (base:=w6.heap.size) (Blk.new w6 _ _) (by omega)) rfl (news:=ye.e.l) HR6.out HML.out ?hc1 ?hc2 ?_
    case hc1=>omega
    case hc2=>simp
    intro Ac cc w7 oc _ _ b7';have b7 : Below w6.heap.size w6 w7:=((Below.refl _ _).alloc (Nat.le_refl _) (.cells #[] 46)).trans b7';rw [show 0 + ye.m = ye.m from Nat.zero_add _,List.nil_append] at *;have S7:=HS6.out.below b7;have k7:=k6.below b7 k6.lt;have e13 : w7.cell? ⟨gr,13,none⟩ = some (.slice ye.A ye.m ye.c):=(k7.cell 13).trans (by rw [HCE.out];rfl);have u13:=k7.free 13;have hlr:=k7.lt;obtain ⟨z,hzz⟩ : ∃ z : EvV,z = ⟨ye.e,Ac,ye.m,cc⟩:=⟨_,rfl⟩
    have k8 : Blk (w7.setCell ⟨gr,13,none⟩ (.slice Ac ye.m cc)) gr 50 z.cs:=by
      have:=k7.set_ 13 (.slice Ac ye.m cc)
      rw [HCE.out] at this;rw [hzz];exact this
    have S8 : RWS w0 b g y.m y.A1 y.A3 AE y.n1 y.c1 y.n3 y.c3 k cE zs (w7.setCell ⟨gr,13,none⟩ (.slice Ac ye.m cc)):=S7.farE k7 hg1 (.slice Ac ye.m cc) (fun e=>by have h9:=(HS6.out.oE.lt _ e).2;have h8:=HGR.out _ e;omega)
    have hez : EvOwn (w7.setCell ⟨gr,13,none⟩ (.slice Ac ye.m cc)) (g + 1) z:=by
      rw [hzz];exact ⟨HOK0.out.1,(oc.mono (by have:=HS6.out.kb.lt;omega)).setFar (p:=⟨gr,13,none⟩) (fun e=>by have h9:=(oc.lt _ e).1;have h8 : w6.heap.size≤gr:=h9;omega) _,HOK0.out.2.2⟩
    obtain ⟨w8,hw8⟩ : ∃ w8,w8 = w7.setCell ⟨gr,13,none⟩ (.slice Ac ye.m cc):=⟨_,rfl⟩;rw [← hw8] at k8 S8 hez;have HW8:=Lib.hid hw8;have HZE:=Lib.hid (show z.e = ye.e by rw [hzz]);have HBS:=Lib.hid (fun w=>buildE1 z w);obtain ⟨cz,hcz⟩ : ∃ cz,cz = z.cs:=⟨_,rfl⟩;rw [← hcz] at k8 HBS;have HCZ:=Lib.hid hcz;have SZ:=Lib.hid (show cz.size = 14 by rw [hcz];rfl);have HEZ:=Lib.hid hez;clear hw8 hzz hcz hez oc b7 b7' S7 k7 k6 HS6 HR6 c13 hl6
    go_upto_region 7 with fail
    rw [← HW8.out];clear e13 u13 hlr HW8;have e14 : w8.cell? ⟨g,14,none⟩ = some (.slice AE k cE):=S8.kb.cell 14;have HS8:=Lib.hid S8;have HO8:=Lib.hid (S8.oE.alloc (.cells cz 50));have hg8 : g + 1≤w8.heap.size:=S8.kb.lt;clear S8
    go_wp2_with first
      | ((with_reducible refine wpList_ld rowE k8 SZ.out ?_ ?_);rotate_left;(rfl))
      | ((refine wpList_bs (v:=.slice (some ⟨w8.heap.size,0,none⟩) 1 1) (w':=w8.alloc (.cells cz 50)) rfl 24 1 #[(0,.tmp 24)] rfl ?_ ?_);(simp only [List.map_toArray,List.map_cons,List.map_nil];exact HBS.out w8))
      | (at_builtin;refine wpList_appE rfl (.tmp 23) (.tmp 25) rfl rfl HO8.out rfl (news:=[z]) (B:=w8.heap.size + 1) ?hd1 rfl ?hd2 ?hd3 ?_)
    case hd1 =>
      have h:=Rd.made w8 cz 50 (0,0);rw [show ecsL [z] = cz.toList by rw [HCZ.out];simp [ecsL]];exact h
    case hd2=>omega
    case hd3=>simp;omega
    intro A9 c9 w9 o9 g9 m9 b9;obtain ⟨kb9,S9⟩:=HS8.out.app ((Below.refl _ _).alloc (Nat.le_refl _) (.cells cz 50)) (z:=z) ⟨HEZ.out.1,HEZ.out.2.1.alloc _,HEZ.out.2.2⟩ o9 g9 b9;have f14 : w9.cell? ⟨g,14,none⟩ = some (.slice AE k cE):=kb9.cell 14;have u14:=kb9.free 14;have hl9:=kb9.lt;have HS9:=Lib.hid S9;clear kb9 S9 o9 g9 m9 b9 e14 k8 HS8 HO8;go_wp2_with fail
    go_roundw
    case rel=>exact ⟨k + 1,A9,c9,zs ++ [z],by omega,by go_num,by rw [List.map_append,HZS.out,HTK.out,List.map_cons,List.map_nil,HZE.out],HS9.out⟩
    case measure=>simp [intOf];omega
  obtain rfl : k = n:=by omega
  have hkk : ¬ (k : Int) < (k : Int):=by omega
  obtain ⟨z,hz⟩ : ∃ z : MgV,z = ⟨{ y.m with ev:=ys.map (·.e) },y.A1,y.n1,y.c1,zs,AE,k,cE,y.A3,y.n3,y.c3⟩:=⟨_,rfl⟩
  have kz : Blk wr g 27 z.cs:=by rw [hz];exact HS.out.kb
  have hzs : zs.map (·.e) = ys.map (·.e):=by rw [HZS.out,HNY.out,List.take_length]
  have SZ:=Lib.hid z.size;have OZ:=Lib.hid z.one;have HZ:=Lib.hid (And.intro hz hzs);have kt:=HS.out.kt;have gb:=HS.out.gb;have hgg:=HS.out.hg;have hbb:=HS.out.hb;obtain ⟨CZ,hCZ⟩ : ∃ CZ,CZ = z.cs:=⟨_,rfl⟩;rw [← hCZ] at kz SZ OZ;have HCZ:=Lib.hid hCZ;clear hz hzs hCZ
  go_wp2_with first
    | ((with_reducible refine wpList_ld rowMg kz SZ.out ?_ ?_);rotate_left;(rfl))
    | ((with_reducible refine wpList_st rowMg kt SZ.out zm_size OZ.out ?_ ?_ ?_);rotate_left;(rfl);(rfl);intro wZ kZ gZ zZ)
  have gb2:=gb.grown gZ (by exact gb.size) (fun q hq=>by injection hq;omega);have hlt2:=kz.lt;have hyu:=HYI.out.ok.u;have o1:=HS.out.oD.grown gZ (.inr (own_ne HS.out.oD.2 kt (by decide)));have o3:=HS.out.oM.grown gZ (.inr (own_ne HS.out.oM.2 kt (by decide)));have o2:=HS.out.oE.kept gZ (by omega)
  have e2 : ∀ y ∈ zs,EvOwn wZ (g + 1) y:=fun y hy=>(HS.out.eo y hy).kept gZ (by omega)
  have hle:=ownsRow_le o2.2;refine bodyPost_ret (v:=.agg CZ) (results_blk rfl rowMg kZ SZ.out rfl) rfl ⟨z,by rw [HCZ.out],?_,?_,?_,by rw [HZ.out.1],gb2⟩
  · rw [HZ.out.1,← HE.out.1]
    rfl
  · rw [HZ.out.1]
    exact ⟨hyu,HYI.out.wu,o1.mono (by omega),o2.mono (by omega),fun y hy=>⟨(e2 y hy).1,(e2 y hy).2.1.mono (by omega),(e2 y hy).2.2⟩,HZ.out.2.symm,o3.mono (by omega)⟩
  · rw [HZ.out.1]
    refine ⟨⟨⟨hyu,o1.rd,o2.row (fun y hy=>(e2 y hy).ok),HZ.out.2.symm,o3.rd⟩,HYI.out.wu,by show k≤_;omega,HYI.out.b3⟩,hle.1,hle.2,by show y.n1≤_;rw [HE.out.2.1];exact HN1.out.1,by show y.n3≤_;rw [HE.out.2.2.2];exact HN1.out.2.1,fun v hv=>?_⟩;rw [(e2 v hv).2.1.1]
    have hv2 : v.e ∈ ys.map (·.e):=by rw [← HZ.out.2];exact List.mem_map_of_mem hv
    obtain ⟨u,hu,hue⟩:=List.mem_map.1 hv2;obtain ⟨i,hi,rfl⟩:=List.getElem_of_mem hu;have hq:=((HRW.out wr gb).2 i _ (List.getElem?_eq_getElem hi)).1;rw [← hue,← hq.2.1.1];exact HYM.out _ hu
end Go.Proofs.Ytcgalmnllegnbaa

namespace Go.Proofs.Ytcgalmnllegnbaa.Ms
set_option linter.unusedVariables false
set_option linter.unusedSimpArgs false
set_option maxRecDepth 100000
open Dot
open Evt (Ev rightE)
def Parts (m : Msg) (mtu : Nat) : List Ev→List (List Ev)→Prop
  | l,[]=>l = []
  | l,p :: ps=>l ≠ []∧p = l.take (fitN m mtu l)∧Parts m mtu (l.drop (fitN m mtu l)) ps
theorem Parts.one {m : Msg} {mtu : Nat} : ∀ {p q : List (List Ev)} {l : List Ev},Parts m mtu l p→Parts m mtu l q→p = q:=by
  intro p
  induction p with
  | nil =>
    intro q l h1 h2
    cases q with
    | nil=>rfl
    | cons y q=>exact absurd h1 h2.1
  | cons x p ih =>
    intro q l h1 h2
    cases q with
    | nil=>exact absurd h2 h1.1
    | cons y q=>rw [h1.2.1,h2.2.1,ih h1.2.2 h2.2.2]
theorem Parts.step {m : Msg} {mtu : Nat} {l r : List Ev} {done : List (List Ev)} (h : ∀ ps,Parts m mtu r ps→Parts m mtu l (done ++ ps)) (h0 : r ≠ []) : ∀ ps,Parts m mtu (r.drop (fitN m mtu r)) ps→Parts m mtu l (done ++ [r.take (fitN m mtu r)] ++ ps):=fun ps hp=>by
  rw [List.append_assoc];exact h _ ⟨h0,rfl,hp⟩
end Go.Proofs.Ytcgalmnllegnbaa.Ms

namespace Go.Proofs.Ytcgalmnllegnbaa
set_option linter.unusedVariables false
set_option linter.unusedSimpArgs false
set_option maxRecDepth 100000
open Go.RowKit
open Dot Evt
theorem rset_any (x : MgV) (hu : x.m.u.length = 8) (w : World) : Calls Try.prog 40 #[.agg x.cs] w fun e w'=>e = .returned (.agg (uc x.m.u (.slice x.A1 x.n1 x.c1)))∧Below w.heap.size w w':=by
  obtain ⟨⟨kd,fr,tt,sq,nd,u,more,ev,mem⟩,A1,n1,c1,xs,A2,n2,c2,A3,n3,c3⟩:=x
  simp only at hu
  match u,hu with
  | [u0,u1,u2,u3,u4,u5,u6,u7],_ =>
    unfold MgV.cs mgc uc
    simp only [List.getD_cons_zero,List.getD_cons_succ,List.map_cons,List.map_nil,List.cons_append,List.nil_append]
    go_enter Try.func40,Try.ntmps40
    go_upto_region 1 with fail
    refine nameW ?_;intro W hW;obtain ⟨G,hG⟩ : ∃ G,G = w.heap.size:=⟨_,rfl⟩;rw [← hG]
    have kb : Blk W G 27 #[.int .i64 kd,.int .i64 fr,.int .i64 tt,.int .i64 sq,.int .i64 nd,.int .i64 u0,.int .i64 u1,.int .i64 u2,.int .i64 u3,.int .i64 u4,.int .i64 u5,.int .i64 u6,.int .i64 u7,.slice A1 n1 c1,.slice A2 n2 c2,.slice A3 n3 c3]:=by rw [hW,hG];exact (Blk.new w _ _).alloc _
    have kz : Blk W (G + 1) 84 #[.int .i64 0,.int .i64 0,.int .i64 0,.int .i64 0,.int .i64 0,.int .i64 0,.int .i64 0,.int .i64 0,.slice none 0 0]:=by
      have h:=Blk.new (w.alloc (.cells #[.int .i64 kd,.int .i64 fr,.int .i64 tt,.int .i64 sq,.int .i64 nd,.int .i64 u0,.int .i64 u1,.int .i64 u2,.int .i64 u3,.int .i64 u4,.int .i64 u5,.int .i64 u6,.int .i64 u7,.slice A1 n1 c1,.slice A2 n2 c2,.slice A3 n3 c3] 27)) 84 #[.int .i64 0,.int .i64 0,.int .i64 0,.int .i64 0,.int .i64 0,.int .i64 0,.int .i64 0,.int .i64 0,.slice none 0 0];rw [hW,hG]
      simpa using h
    have gb : Below w.heap.size w W:=by rw [hW];exact ((Below.refl _ _).alloc (Nat.le_refl _) _).alloc (by simp) _
    have hGl : w.heap.size≤G + 1:=by omega
    have r5 : W.rangeAt G 5 (([u0,u1,u2,u3,u4,u5,u6,u7] : List Int).map (Value.int .i64)):=fun j v hv=>by
      rw [kb.cell]
      match j,hv with
      | 0,hv=>exact hv
      | 1,hv=>exact hv
      | 2,hv=>exact hv
      | 3,hv=>exact hv
      | 4,hv=>exact hv
      | 5,hv=>exact hv
      | 6,hv=>exact hv
      | 7,hv=>exact hv
    have k13 : W.cell? ⟨G,13,none⟩ = some (.slice A1 n1 c1):=kb.cell 13;clear hW hG kb
    go_wp2_with first
      | ((with_reducible refine wpList_ldm row8 r5 rfl ?_ ?_);rotate_left;(rfl))
      | ((with_reducible refine wpList_st (cs:=#[.int .i64 u0,.int .i64 u1,.int .i64 u2,.int .i64 u3,.int .i64 u4,.int .i64 u5,.int .i64 u6,.int .i64 u7,.slice A1 n1 c1]) rowRS kz rfl rfl ?_ ?_ ?_ ?_);(exact uc_one (U:=[u0,u1,u2,u3,u4,u5,u6,u7]) (s:=.slice A1 n1 c1) rfl);rotate_left;(rfl);(rfl);intro w7 k7 g7 z7)
    exact bodyPost_ret (v:=.agg #[.int .i64 u0,.int .i64 u1,.int .i64 u2,.int .i64 u3,.int .i64 u4,.int .i64 u5,.int .i64 u6,.int .i64 u7,.slice A1 n1 c1]) (results_blk rfl rowRS k7 rfl rfl) rfl ⟨rfl,gb.grown g7 gb.size (fun q hq=>by injection hq with hq;omega)⟩
end Go.Proofs.Ytcgalmnllegnbaa

namespace Go.Proofs.Ytcgalmnllegnbaa
set_option linter.unusedVariables false
set_option linter.unusedSimpArgs false
set_option maxRecDepth 100000
open Go.RowKit
open Dot Evt
open Ms (Mem)
def hdD (m : Ms.Msg) : Bool:=Ms.nodeB m.frm && (Ms.nodeB m.to && (!decide (m.frm = m.to) && (Ms.membersB m.mem && inB m.seq 0 1099511627776)))
def kdD (m : Ms.Msg) : Bool :=
  if m.kind = 1 then decide (m.node = 0) && (Ms.noSeen m && decide (m.ev = []))
  else if m.kind = 2∨m.kind = 3 then Ms.nodeB m.node && (Ms.noSeen m && decide (m.ev = []))
  else if m.kind = 4 then decide (m.seq≤1) && (decide (m.node = 0) && (rightB m.u m.more && decide (m.ev = [])))
  else if m.kind = 5 then decide (m.seq = 0) && (decide (m.node = 0) && (Ms.noSeen m && (decide (m.ev.length≤768) && m.ev.all rightE)))
  else false
theorem right_hk (m : Ms.Msg) : Ms.rightM m = (hdD m && kdD m):=by
  rw [← Ms.right_D]
  unfold Ms.rightD hdD kdD
  have hml : (decide (m.mem.length≤8) && Ms.membersB m.mem) = Ms.membersB m.mem:=by
    cases h : Ms.membersB m.mem with
    | false=>simp
    | true=>simp [Ms.members_len h]
  rw [hml,show Ms.top = 1099511627776 from rfl]
  simp only [Bool.and_assoc]
theorem rright06_b (x : MgV) (w : World) (h : MgIn w x) : Calls Try.prog 52 #[.agg (uc x.m.u (.slice x.A1 x.n1 x.c1))] w fun e w'=>e = .returned (.bool (rightB x.m.u x.m.more))∧Below w.heap.size w w':=rright_any x.m.u h.ok.u x.A1 x.n1 x.c1 x.m.more w h.ok.more
set_option maxHeartbeats 8000000 in
theorem rright17_any (x : MgV) (w : World) (h : MgIn w x) : Calls Try.prog 15 #[.agg x.cs] w fun e w'=>e = .returned (.bool (Ms.rightM x.m))∧Below w.heap.size w w':=by
  obtain ⟨R,hR⟩ : ∃ R,R = Ms.rightM x.m:=⟨_,rfl⟩;rw [← hR];rw [right_hk] at hR;have HR:=Lib.hid hR;have HIN:=Lib.hid h;have HAT:=Lib.hid (mgv_at x);have SZ:=Lib.hid x.size
  have h2:=fun w=>rnode_bel x.m.frm w
  have h3:=fun w=>rnode_bel x.m.to w
  have HN:=Lib.hid fun w=>rnode_bel x.m.node w
  have h5:=fun (w' : World) (hb : Below w.heap.size w w')=>rmembers_any x.A3 x.n3 x.c3 x.m.mem w' (h.below hb).ok.mem
  have HU:=Lib.hid fun (w' : World) (g : Nat) (k : Blk w' g 27 x.cs)=>mgv_u x h.ok.u k
  have HUL:=Lib.hid h.ok.u;have HUM:=Lib.hid (show (x.m.u.map (Value.int .i64)).length = 8 by rw [List.length_map,h.ok.u]);have WU:=Lib.hid h.wu;have WZ:=Lib.hid (show Wf zeros8 from fun y hy=>by simp [zeros8] at hy;subst hy;exact wf_of (by omega) (by omega));have NS:=Lib.hid (show Ms.noSeen x.m = (decide (x.m.u = zeros8) && decide (x.m.more = [])) from rfl)
  have HSET:=Lib.hid fun (w' : World)=>rset_any x h.ok.u w'
  have HR6:=Lib.hid fun (w' : World) (hb : Below w.heap.size w w')=>rright06_b x w' (h.below hb)
  have HRK:=Lib.hid fun (w' : World) (hb : Below w.heap.size w w')=>h.ok.ev.below hb
  have HN2:=Lib.hid h.ok.ev.1;have hnm:=h.ok.more.1
  have hel : x.m.ev.length = x.n2:=by rw [h.ok.es,List.length_map,h.ok.ev.1]
  have HEL:=Lib.hid hel;have HES:=Lib.hid h.ok.es;have hh : hdD x.m = (Ms.nodeB x.m.frm && (Ms.nodeB x.m.to && (!decide (x.m.frm = x.m.to) && (Ms.membersB x.m.mem && inB x.m.seq 0 1099511627776)))):=rfl;clear h hR hel
  generalize hC : x.cs = C at *
  clear hC;have b1:=HAT.out
  go_enter Try.func15,Try.ntmps15
  go_upto_region 1 with fail
  refine nameW ?_;intro W hW;obtain ⟨g,hg⟩ : ∃ g,g = w.heap.size:=⟨_,rfl⟩;rw [← hg]
  have kb : Blk W g 27 C:=by rw [hW,hg];exact Blk.new w _ _
  have gb : Below w.heap.size w W:=by rw [hW];exact (Below.refl _ _).alloc (Nat.le_refl _) _
  clear hW hg
  have cells : ∀ w',Below W.heap.size W w'→w'.cell? ⟨g,1,none⟩ = some (.int .i64 x.m.frm)∧w'.cell? ⟨g,2,none⟩ = some (.int .i64 x.m.to)∧w'.cell? ⟨g,3,none⟩ = some (.int .i64 x.m.seq)∧w'.cell? ⟨g,15,none⟩ = some (.slice x.A3 x.n3 x.c3):=fun w' hb=>by
    have k:=kb.below hb kb.lt;exact ⟨(k.cell 1).trans b1.2.1,(k.cell 2).trans b1.2.2.1,(k.cell 3).trans b1.2.2.2.1,(k.cell 15).trans b1.2.2.2.2.2.2.2⟩
  have HCL:=Lib.hid cells;obtain ⟨t1,t2,t3,t15⟩:=cells W (Below.refl _ _);have H5:=Lib.hid h5;clear b1 h5 cells;have gW : Below W.heap.size W W:=Below.refl _ _
  cases c2 : Ms.nodeB x.m.frm
  case false =>
    have hr : R = false:=by rw [HR.out,hh,c2];rfl
    subst hr;clear HR;rw [c2] at h2;have H2:=Lib.hid h2;clear h2 h3 hh c2 kb;go_wp2_with fail;refine (H2.out _).mono ?_;rintro e w1 ⟨rfl,bb⟩;have gb:=gb.trans (bb.mono gb.size);have gW:=gW.trans (bb.mono gW.size);obtain ⟨t1,t2,t3,t15⟩:=HCL.out w1 gW;clear bb;go_wp2_with fail;go_ret;exact ⟨rfl,gb⟩
  rw [c2] at h2 hh;have H2:=Lib.hid h2;clear h2 c2
  cases c3 : Ms.nodeB x.m.to
  case false =>
    have hr : R = false:=by rw [HR.out,hh,c3];rfl
    subst hr;clear HR;rw [c3] at h3;have H3:=Lib.hid h3;clear h3 hh c3 kb;go_wp2_with fail;refine (H2.out _).mono ?_;rintro e w1 ⟨rfl,bb⟩;have gb:=gb.trans (bb.mono gb.size);have gW:=gW.trans (bb.mono gW.size);obtain ⟨t1,t2,t3,t15⟩:=HCL.out w1 gW;clear bb;go_wp2_with fail;refine (H3.out _).mono ?_;rintro e w2 ⟨rfl,bb⟩;have gb:=gb.trans (bb.mono gb.size);have gW:=gW.trans (bb.mono gW.size);obtain ⟨t1,t2,t3,t15⟩:=HCL.out w2 gW;clear bb;go_wp2_with fail;go_ret;exact ⟨rfl,gb⟩
  rw [c3] at h3 hh;have H3:=Lib.hid h3;clear h3 c3
  by_cases c4 : x.m.frm = x.m.to
  · have hr : R = false:=by rw [HR.out,hh,decide_eq_true c4];rfl
    subst hr;clear HR
    have hq : ((x.m.frm : Int) == x.m.to) = true:=by rw [c4];simp
    clear hh c4 kb;go_wp2_with fail;refine (H2.out _).mono ?_;rintro e w1 ⟨rfl,bb⟩;have gb:=gb.trans (bb.mono gb.size);have gW:=gW.trans (bb.mono gW.size);obtain ⟨t1,t2,t3,t15⟩:=HCL.out w1 gW;clear bb;go_wp2_with fail;refine (H3.out _).mono ?_;rintro e w2 ⟨rfl,bb⟩;have gb:=gb.trans (bb.mono gb.size);have gW:=gW.trans (bb.mono gW.size);obtain ⟨t1,t2,t3,t15⟩:=HCL.out w2 gW;clear bb;go_wp2_with fail;go_ret;exact ⟨rfl,gb⟩
  have hq : ((x.m.frm : Int) == x.m.to) = false:=by rw [beq_eq_false_iff_ne];exact c4
  rw [decide_eq_false c4] at hh;clear c4
  cases c5 : Ms.membersB x.m.mem
  case false =>
    have hr : R = false:=by rw [HR.out,hh,c5];rfl
    subst hr;clear HR;clear hh kb;go_wp2_with fail;refine (H2.out _).mono ?_;rintro e w1 ⟨rfl,bb⟩;have gb:=gb.trans (bb.mono gb.size);have gW:=gW.trans (bb.mono gW.size);obtain ⟨t1,t2,t3,t15⟩:=HCL.out w1 gW;clear bb;go_wp2_with fail;refine (H3.out _).mono ?_;rintro e w2 ⟨rfl,bb⟩;have gb:=gb.trans (bb.mono gb.size);have gW:=gW.trans (bb.mono gW.size);obtain ⟨t1,t2,t3,t15⟩:=HCL.out w2 gW;clear bb;have h5:=H5.out w2 gb;rw [c5] at h5;have H6:=Lib.hid h5;clear h5 c5;go_wp2_with fail;refine (H6.out).mono ?_;rintro e w4 ⟨rfl,bb⟩;have gb:=gb.trans (bb.mono gb.size);have gW:=gW.trans (bb.mono gW.size);obtain ⟨t1,t2,t3,t15⟩:=HCL.out w4 gW;clear bb;go_wp2_with fail;go_ret;exact ⟨rfl,gb⟩
  rw [c5] at hh;have hs0 : inB x.m.seq 0 1099511627776 = (decide (0≤x.m.seq) && decide (x.m.seq≤1099511627776)):=rfl;go_wp2_with fail;refine (H2.out _).mono ?_;rintro e w1 ⟨rfl,bb⟩;have gb:=gb.trans (bb.mono gb.size);have gW:=gW.trans (bb.mono gW.size);obtain ⟨t1,t2,t3,t15⟩:=HCL.out w1 gW;clear bb;go_wp2_with fail;refine (H3.out _).mono ?_;rintro e w2 ⟨rfl,bb⟩;have gb:=gb.trans (bb.mono gb.size);have gW:=gW.trans (bb.mono gW.size);obtain ⟨t1,t2,t3,t15⟩:=HCL.out w2 gW;clear bb;have h5:=H5.out w2 gb;rw [c5] at h5;have H6:=Lib.hid h5;clear h5 c5 H2 H3;go_wp2_with fail;refine (H6.out).mono ?_;rintro e w4 ⟨rfl,bb⟩;have gb:=gb.trans (bb.mono gb.size);have gW:=gW.trans (bb.mono gW.size);obtain ⟨t1,t2,t3,t15⟩:=HCL.out w4 gW;clear bb
  by_cases c6 : x.m.seq < 0
  · have hr : R = false:=by rw [HR.out,hh,hs0,decide_eq_false (by omega)];rfl
    subst hr;clear HR hh hs0 kb;go_wp2_with fail;go_ret;exact ⟨rfl,gb⟩
  by_cases c7 : (1099511627776 : Int) < x.m.seq
  · have hr : R = false:=by rw [HR.out,hh,hs0,decide_eq_true (show 0≤x.m.seq by omega),decide_eq_false (by omega)];rfl
    subst hr;clear HR hh hs0 kb;go_wp2_with fail;go_ret;exact ⟨rfl,gb⟩
  have hr : R = kdD x.m:=by rw [HR.out,hh,hs0,decide_eq_true (show 0≤x.m.seq by omega),decide_eq_true (show x.m.seq≤1099511627776 by omega)];rfl
  have HRK2:=Lib.hid hr;have kb:=kb.below gW kb.lt;have r5:=HU.out _ _ kb;have k13 : w4.cell? ⟨g,13,none⟩ = some (.slice x.A1 x.n1 x.c1):=(kb.cell 13).trans HAT.out.2.2.2.2.2.1;clear hr HR hh hs0 t1 t2 t15 H5 H6 HCL gW
  go_upto_region 3 with fail
  obtain ⟨NSb,hNS⟩ : ∃ b,b = Ms.noSeen x.m:=⟨_,rfl⟩;have HNS:=Lib.hid hNS;clear hNS
  go_cut [3] (fun s wx=>s = .bool NSb∧wx = w4)
  case first =>
    by_cases hz : x.m.u = zeros8
    · have hd : decide (x.m.u = zeros8) = true:=decide_eq_true hz
      have hres : NSb = ((x.n1 : Int) == 0):=by
        rw [HNS.out,NS.out,hd,Bool.true_and];rw [Bool.eq_iff_iff,decide_eq_true_eq,beq_iff_eq]
        constructor
        · intro e;rw [e] at hnm;simp at hnm;omega
        · intro e;exact List.eq_nil_of_length_eq_zero (by omega)
      clear hz hnm
      go_wp2_with first
        | ((with_reducible refine wpList_ldm row8 r5 HUM.out ?_ ?_);rotate_left;(rfl);rw [show (x.m.u.map (Value.int .i64)).toArray = uI x.m.u from rfl])
        | ((with_reducible refine wpList_eq8 (A:=x.m.u) (B:=zeros8) HUL.out rfl WU.out WZ.out ?_ ?_ ?_);rotate_left;(rfl);(rfl);rw [hd])
      go_meet;exact ⟨by rw [hres],rfl⟩
    · have hd : decide (x.m.u = zeros8) = false:=decide_eq_false hz
      have hres : NSb = false:=by rw [HNS.out,NS.out,hd];rfl
      clear hz hnm
      go_wp2_with first
        | ((with_reducible refine wpList_ldm row8 r5 HUM.out ?_ ?_);rotate_left;(rfl);rw [show (x.m.u.map (Value.int .i64)).toArray = uI x.m.u from rfl])
        | ((with_reducible refine wpList_eq8 (A:=x.m.u) (B:=zeros8) HUL.out rfl WU.out WZ.out ?_ ?_ ?_);rotate_left;(rfl);(rfl);rw [hd])
      go_meet;exact ⟨by rw [hres],rfl⟩
  case rest =>
    obtain ⟨rfl,rfl⟩:=hcut;clear r5 k13 hnm;have t4 : wc.cell? ⟨g,4,none⟩ = some (.int .i64 x.m.node):=(kb.cell 4).trans HAT.out.2.2.2.2.1;have t14 : wc.cell? ⟨g,14,none⟩ = some (.slice x.A2 x.n2 x.c2):=(kb.cell 14).trans HAT.out.2.2.2.2.2.2.1;obtain ⟨Zb,hZb⟩ : ∃ b,b = decide (x.m.node = 0):=⟨_,rfl⟩;have hz : ((x.m.node : Int) == 0) = Zb:=hZb.symm;obtain ⟨Eb,hEb⟩ : ∃ b,b = decide (x.m.ev = []):=⟨_,rfl⟩
    have he : ((x.n2 : Int) == 0) = Eb:=by
      rw [hEb,Bool.eq_iff_iff,decide_eq_true_eq,beq_iff_eq]
      have:=HEL.out
      constructor
      · intro e;exact List.eq_nil_of_length_eq_zero (by omega)
      · intro e;rw [e] at this;simp at this;omega
    have HZ:=Lib.hid hZb;have HE:=Lib.hid hEb;clear hZb hEb
    have hkd : kdD x.m = (if x.m.kind = 1 then Zb && (NSb && Eb) else if x.m.kind = 2∨x.m.kind = 3 then Ms.nodeB x.m.node && (NSb && Eb) else if x.m.kind = 4 then decide (x.m.seq≤1) && (Zb && (rightB x.m.u x.m.more && Eb)) else if x.m.kind = 5 then decide (x.m.seq = 0) && (Zb && (NSb && (decide (x.m.ev.length≤768) && x.m.ev.all rightE))) else false):=by
      rw [HZ.out,HE.out,HNS.out];rfl
    rw [hkd] at HRK2;clear hkd
    by_cases k1 : x.m.kind = 1
    · rw [if_pos k1] at HRK2
      have t0 : wc.cell? ⟨g,0,none⟩ = some (.int .i64 1):=by rw [kb.cell,HAT.out.1,k1]
      clear k1 kb
      cases Zb <;> cases NSb <;> cases Eb
      all_goals (
        go_wp2_with fail;go_ret;rw [HRK2.out]
        exact ⟨rfl,gb⟩)
    rw [if_neg k1] at HRK2
    have q1 : ((x.m.kind : Int) == 1) = false:=by rw [beq_eq_false_iff_ne];exact k1
    by_cases k2 : x.m.kind = 2∨x.m.kind = 3
    · rw [if_pos k2] at HRK2
      have hn:=HN.out
      generalize Ms.nodeB x.m.node = NB at *
      have HN:=Lib.hid hn;clear hn q1 k1
      rcases k2 with k2 | k2
      · have t0 : wc.cell? ⟨g,0,none⟩ = some (.int .i64 2):=by rw [kb.cell,HAT.out.1,k2]
        clear k2 kb
        cases NB <;> cases NSb <;> cases Eb
        all_goals (
          go_wp2_with fail;refine (HN.out _).mono ?_;rintro e w5 ⟨rfl,b5⟩;have gb:=gb.trans (b5.mono gb.size);have t14 : w5.cell? ⟨g,14,none⟩ = some (.slice x.A2 x.n2 x.c2):=(b5.cell (World.block_lt_of_cell? _ _ t14)).trans t14;go_wp2_with fail;go_ret;rw [HRK2.out]
          exact ⟨rfl,gb⟩)
      · have t0 : wc.cell? ⟨g,0,none⟩ = some (.int .i64 3):=by rw [kb.cell,HAT.out.1,k2]
        clear k2 kb
        cases NB <;> cases NSb <;> cases Eb
        all_goals (
          go_wp2_with fail;refine (HN.out _).mono ?_;rintro e w5 ⟨rfl,b5⟩;have gb:=gb.trans (b5.mono gb.size);have t14 : w5.cell? ⟨g,14,none⟩ = some (.slice x.A2 x.n2 x.c2):=(b5.cell (World.block_lt_of_cell? _ _ t14)).trans t14;go_wp2_with fail;go_ret;rw [HRK2.out]
          exact ⟨rfl,gb⟩)
    rw [if_neg k2] at HRK2
    by_cases k4 : x.m.kind = 4
    · rw [if_pos k4] at HRK2
      have t0 : wc.cell? ⟨g,0,none⟩ = some (.int .i64 4):=by rw [kb.cell,HAT.out.1,k4]
      clear k4 k2 k1 q1
      by_cases hs : x.m.seq≤1
      · rw [decide_eq_true hs] at HRK2
        cases Zb
        case false =>
          go_wp2_with fail;go_ret;rw [HRK2.out];exact ⟨rfl,gb⟩
        case true =>
          have h6:=fun (w' : World) (hb : Below w.heap.size w w')=>HR6.out w' hb
          generalize rightB x.m.u x.m.more = RB at *
          have H6:=Lib.hid h6;clear h6 HR6
          cases RB <;> cases Eb
          all_goals (
            go_wp2_with ((with_reducible refine wpList_ldg rowMg kb SZ.out ?_ ?_ ?_);rotate_left;(rfl);(rfl))
            refine (HSET.out _).mono ?_;rintro e w5 ⟨rfl,b5⟩;have gb:=gb.trans (b5.mono gb.size);have kb:=kb.below b5 kb.lt;go_wp2_with fail;refine (H6.out _ gb).mono ?_;rintro e w6 ⟨rfl,b6⟩;have gb:=gb.trans (b6.mono gb.size);have kb:=kb.below b6 kb.lt;have t14 : w6.cell? ⟨g,14,none⟩ = some (.slice x.A2 x.n2 x.c2):=(kb.cell 14).trans HAT.out.2.2.2.2.2.2.1;go_wp2_with fail;go_ret;rw [HRK2.out]
            exact ⟨rfl,gb⟩)
      · rw [decide_eq_false hs] at HRK2
        go_wp2_with fail;go_ret;rw [HRK2.out];exact ⟨rfl,gb⟩
    rw [if_neg k4] at HRK2
    have q2 : ((x.m.kind : Int) == 2) = false:=by rw [beq_eq_false_iff_ne];exact fun e=>k2 (.inl e)
    have q3 : ((x.m.kind : Int) == 3) = false:=by rw [beq_eq_false_iff_ne];exact fun e=>k2 (.inr e)
    have q4 : ((x.m.kind : Int) == 4) = false:=by rw [beq_eq_false_iff_ne];exact k4
    by_cases k5 : x.m.kind = 5
    · rw [if_pos k5] at HRK2
      have t0 : wc.cell? ⟨g,0,none⟩ = some (.int .i64 5):=by rw [kb.cell,HAT.out.1,k5]
      clear k5 k4 k2 k1 q1 q2 q3 q4
      by_cases hs : x.m.seq = 0
      · have hs2 : ((x.m.seq : Int) != 0) = false:=by rw [hs];rfl
        rw [decide_eq_true hs] at HRK2
        have hz2 : ((x.m.node : Int) != 0) = !Zb:=by rw [← hz];rfl
        cases Zb
        case false =>
          go_wp2_with fail;go_ret;rw [HRK2.out];exact ⟨rfl,gb⟩
        case true =>
          cases NSb
          case false =>
            go_wp2_with fail;go_ret;rw [HRK2.out];exact ⟨rfl,gb⟩
          case true =>
            by_cases hbig : 768 < x.n2
            · rw [decide_eq_false (show ¬ x.m.ev.length≤768 by rw [HEL.out];omega)] at HRK2
              have hd : decide ((768 : Int) < (x.n2 : Int)) = true:=decide_eq_true (by omega);go_wp2_with fail;go_ret;rw [HRK2.out];exact ⟨rfl,gb⟩
            · rw [decide_eq_true (show x.m.ev.length≤768 by rw [HEL.out];omega)] at HRK2
              have hd : decide ((768 : Int) < (x.n2 : Int)) = false:=decide_eq_false (by omega)
              have hr : R = x.m.ev.all rightE:=by rw [HRK2.out];rfl
              rw [HES.out] at hr;have HR:=Lib.hid hr;clear hr HRK2 kb hs;go_wp2_with fail
              go_loopw [124] (fun i wr=>∃ k : Nat,k≤x.n2∧i = .int .i64 k∧(∀ j (h : j < x.xs.length),j < k→rightE (x.xs[j]).e = true)∧Below w.heap.size w wr) (fun i _=>x.n2 - (intOf i).toNat)
              case atStart=>exact ⟨0,by omega,rfl,fun j _ hj=>by omega,gb⟩
              case round =>
                clear gb;obtain ⟨k,hk,rfl,hall,gb⟩:=hrel;have HA:=Lib.hid hall;clear hall
                by_cases hlt : k < x.n2
                · have hkl : k < x.xs.length:=by rw [← HN2.out];exact hlt
                  obtain ⟨hok,ad,hA,hab,hcell⟩:=(HRK.out wr gb).2 k _ (List.getElem?_eq_getElem hkl)
                  have HOFF:=Lib.hid fun h=>all_offE hkl h
                  have HAK:=Lib.hid fun (h : rightE (x.xs[k]).e = true) (j : Nat) (hj : j < x.xs.length) (hjk : j < k + 1)=>(by
                    by_cases e : j = k
                    · subst e;exact h
                    · exact HA.out j hj (by omega) : rightE (x.xs[j]).e = true)
                  have hright:=fun (w' : World) (h : RdD w' w'.heap.size (x.xs[k]).A (x.xs[k]).m (x.xs[k]).e.l)=>eright07_any (x.xs[k]).e hok.1 (x.xs[k]).A (x.xs[k]).m (x.xs[k]).c w' h (by have:=hok.2.2;omega)
                  generalize x.xs[k] = y at *
                  rw [hA] at *;obtain ⟨cs,hcs⟩ : ∃ cs,cs = y.cs:=⟨_,rfl⟩;have hec : ec y.e (.slice y.A y.m y.c) = cs:=hcs.symm;rw [← hcs] at hcell;rw [hec] at hright;have HSZ:=Lib.hid (show cs.size = 14 by rw [hcs];rfl);have H1C:=Lib.hid (show cs.all (·.oneCell') = true by rw [hcs];exact y.one);have HC:=Lib.hid hcell;have HRT:=Lib.hid hright
                  have HOK:=Lib.hid fun (w' : World) (h : Below wr.heap.size wr w')=>((hok.2.1.below (h.mono gb.size)).more (show w.heap.size≤w'.heap.size by have:=h.size;have:=gb.size;omega))
                  have hk0 : (0 : Int)≤(k : Int):=by omega
                  have hkm : (k : Int) < (x.n2 : Int):=by omega
                  clear hcs hec hcell hok hright
                  go_upto_region 17 with fail
                  go_upto_region 18 with first
                    | ((with_reducible refine wpList_lda rowE HC.out HSZ.out ?_ ?_);rotate_left;(rfl))
                    | ((with_reducible refine wpList_st rowE (Blk.new _ _ _) HSZ.out ?_ H1C.out ?_ ?_ ?_);(rfl);rotate_left;(rfl);(rfl);intro w6 k6 g6 z6)
                  have bA : Below wr.heap.size wr w6:=new_below g6;have gb6:=gb.trans (bA.mono gb.size);have rd6:=HOK.out w6 bA;obtain ⟨gr,hgr2⟩ : ∃ gr,gr = wr.heap.size:=⟨_,rfl⟩;rw [← hgr2] at k6 ⊢;clear hgr2 g6 z6 bA gb
                  cases hx : rightE y.e
                  case false =>
                    have hr : R = false:=by rw [HR.out,HOFF.out hx]
                    subst hr;have hrt:=HRT.out w6 rd6;rw [hx] at hrt;have HRT2:=Lib.hid hrt;clear hx hrt HRT HR
                    go_wp2_with ((with_reducible refine wpList_ld rowE k6 HSZ.out ?_ ?_);rotate_left;(rfl))
                    refine HRT2.out.mono ?_;rintro e w7 ⟨rfl,b7⟩;have gb7:=gb6.trans (b7.mono gb6.size);go_wp2_with fail;go_ret;exact ⟨rfl,gb7⟩
                  case true =>
                    have hrt:=HRT.out w6 rd6;rw [hx] at hrt;have HRT2:=Lib.hid hrt;have HX:=Lib.hid hx;clear hx hrt HRT
                    go_wp2_with ((with_reducible refine wpList_ld rowE k6 HSZ.out ?_ ?_);rotate_left;(rfl))
                    refine HRT2.out.mono ?_;rintro e w7 ⟨rfl,b7⟩;have gb7:=gb6.trans (b7.mono gb6.size);go_wp2_with fail
                    go_roundw
                    case rel=>exact ⟨k + 1,by omega,by go_num,HAK.out HX.out,gb7⟩
                    case measure=>simp [intOf];omega
                · have hkd : decide ((k : Int) < (x.n2 : Int)) = false:=decide_eq_false (by omega)
                  have hr : R = true:=by
                    rw [HR.out,List.all_eq_true];intro e he;obtain ⟨y,hy,rfl⟩:=List.mem_map.1 he;obtain ⟨i,hi,rfl⟩:=List.getElem_of_mem hy;exact HA.out i hi (by have:=HN2.out;omega)
                  subst hr;go_wp2_with fail;go_ret;exact ⟨rfl,gb⟩
      · have hs2 : ((x.m.seq : Int) != 0) = true:=by rw [bne_iff_ne];exact hs
        rw [decide_eq_false hs] at HRK2;go_wp2_with fail;go_ret;rw [HRK2.out];exact ⟨rfl,gb⟩
    · rw [if_neg k5] at HRK2
      have q5 : ((x.m.kind : Int) == 5) = false:=by rw [beq_eq_false_iff_ne];exact k5
      have t0 : wc.cell? ⟨g,0,none⟩ = some (.int .i64 x.m.kind):=(kb.cell 0).trans HAT.out.1;go_wp2_with fail;go_ret;rw [HRK2.out];exact ⟨rfl,gb⟩
end Go.Proofs.Ytcgalmnllegnbaa

namespace Go.Proofs.Ytcgalmnllegnbaa
set_option linter.unusedVariables false
set_option linter.unusedSimpArgs false
set_option maxRecDepth 100000
open Go.RowKit
open Dot Evt
set_option maxRecDepth 100000 in
set_option maxHeartbeats 4000000 in
theorem rnums_any (x : Ev) (hp : x.p.length = 7) (A : Option Addr) (m c : Nat) (w : World) (hl : RdD w w.heap.size A m x.l) (h96 : m≤96) :
    Calls Try.prog 107 #[.agg (ec x (.slice A m c))] w fun e w'=>∃ A' n' c',e = .returned (.slice A' n' c')∧OwnI w' w.heap.size A' n' c' (numsE x)∧Below w.heap.size w w':=by
  obtain ⟨⟨n,q⟩,t,k,wk,v,p,l⟩:=x
  simp only at hl hp
  have hE : numsE ⟨(n,q),t,k,wk,v,p,l⟩ = [n,q,t,k,wk] ++ (if k = 1 then [v] else (if k = 2 then [p.getD 0 0,p.getD 1 0,p.getD 2 0,p.getD 3 0,p.getD 4 0,p.getD 5 0,p.getD 6 0] else []) ++ [(m : Int)] ++ dotNums l):=by
    unfold numsE
    match p,hp with
    | [a,b,c,d,e,f,g],_=>rw [hl.1];rfl
  obtain ⟨R,hR⟩ : ∃ R,R = numsE ⟨(n,q),t,k,wk,v,p,l⟩:=⟨_,rfl⟩;rw [← hR];rw [hE] at hR;clear hE;have HM:=Lib.hid hl.1
  unfold ec
  simp only
  generalize p.getD 0 0 = p0,p.getD 1 0 = p1,p.getD 2 0 = p2,p.getD 3 0 = p3,p.getD 4 0 = p4,p.getD 5 0 = p5,p.getD 6 0 = p6 at *
  have HR:=Lib.hid hR;have HL:=Lib.hid hl;have H96:=Lib.hid h96;clear hR hl h96 hp
  go_enter Try.func107,Try.ntmps107
  go_upto_region 1 with fail
  refine nameW ?_;intro wv hwv;obtain ⟨b,hb⟩ : ∃ b,b = w.heap.size:=⟨_,rfl⟩;rw [← hb]
  have kb : Blk wv b 50 #[.int .i64 n,.int .i64 q,.int .i64 t,.int .i64 k,.int .i64 wk,.int .i64 v,.int .i64 p0,.int .i64 p1,.int .i64 p2,.int .i64 p3,.int .i64 p4,.int .i64 p5,.int .i64 p6,.slice A m c]:=by rw [hwv,hb];exact Blk.new _ _ _
  have gb : Below b w wv:=by rw [hwv,hb];exact (Below.refl _ _).alloc (Nat.le_refl _) _
  have hl : RdD wv b A m l:=by
    rw [hb];exact HL.out.below (by rw [← hb];exact gb)
  have HB:=Lib.hid hb;clear hwv hb HL;obtain ⟨c0,c1,c2,c3,c4,c5,c6,c7,c8,c9,c10,c11,c12,c13⟩:=ecells kb;have hbl:=kb.lt
  go_upto_region 3 with fail
  refine nameW ?_;intro w1 hw1;obtain ⟨g5,hg5⟩ : ∃ g5,g5 = wv.heap.size:=⟨_,rfl⟩;rw [← hg5]
  have o5 : OwnI w1 (b + 1) (some ⟨g5,0,none⟩) 5 5 [n,q,t,k,wk]:=by
    rw [hw1,hg5];exact (OwnI.made wv (b + 1) [n,q,t,k,wk] _ 5 rfl rfl (by have:=kb.lt;omega) (by unfold maxLen;omega)).alloc _
  have kp : Blk w1 (g5 + 1) 48 #[.int .i64 p0,.int .i64 p1,.int .i64 p2,.int .i64 p3,.int .i64 p4,.int .i64 p5,.int .i64 p6]:=by
    have h:=Blk.new (wv.alloc (.cells #[.int .i64 n,.int .i64 q,.int .i64 t,.int .i64 k,.int .i64 wk] 3)) 48 #[.int .i64 p0,.int .i64 p1,.int .i64 p2,.int .i64 p3,.int .i64 p4,.int .i64 p5,.int .i64 p6];rw [show (wv.alloc (.cells #[.int .i64 n,.int .i64 q,.int .i64 t,.int .i64 k,.int .i64 wk] 3)).heap.size = wv.heap.size + 1 by simp] at h;rw [hw1,hg5];exact h
  have bA : Below wv.heap.size wv w1:=by rw [hw1];exact ((Below.refl _ _).alloc (Nat.le_refl _) _).alloc (by simp) _
  have kb1:=kb.below bA kb.lt;have gb1:=gb.trans (bA.mono (by have:=kb.lt;omega));have hl1:=hl.below (bA.mono (by have:=kb.lt;omega))
  have hbg : b < g5:=by have:=kb.lt;omega
  clear hw1 hg5 bA kb gb hl c0 c1 c2 c3 c4 c5 c6 c7 c8 c9 c10 c11 c12 c13;obtain ⟨c0,c1,c2,c3,c4,c5,c6,c7,c8,c9,c10,c11,c12,c13⟩:=ecells kb1;have hs1:=kp.lt
  by_cases k1 : k = 1
  · have hq : (k == (1 : Int)) = true:=by rw [beq_iff_eq];exact k1
    have hf:=HR.out;rw [if_pos k1] at hf;have HF:=Lib.hid hf;clear hf HR k1 kp
    go_wp2_with (at_builtin;refine wpList_appI rfl (.tmp 26) (.tmp 29) rfl rfl (o5.alloc _) (news:=[v]) rfl ⟨rfl,Rd.made _ _ _ _⟩ ?h2 ?h3 ?h4)
    case h2=>omega
    case h3=>simp;omega
    intro A' c' w2 o2 g2 m2 b2;have gb2:=(gb1.alloc (by have:=gb1.size;have:=HB.out;omega) (.cells #[.int .i64 v] 3)).trans (b2.mono (by omega));have HO:=Lib.hid (o2.mono (base':=b) (by omega));have HG:=Lib.hid gb2;clear o2 g2 m2 b2 gb2 o5;go_wp2_with fail;go_ret;exact ⟨A',_,c',rfl,by rw [HF.out,← HB.out];exact HO.out,by rw [← HB.out];exact HG.out⟩
  have hq : (k == (1 : Int)) = false:=by rw [beq_eq_false_iff_ne];exact k1
  have hf:=HR.out;rw [if_neg k1] at hf;have HF:=Lib.hid hf;clear hf HR k1
  by_cases k2 : k = 2
  · have hq2 : (k == (2 : Int)) = true:=by rw [beq_iff_eq];exact k2
    have hf:=HF.out;rw [if_pos k2] at hf;clear HF;have HF:=Lib.hid hf;clear hf k2;have hp0 : w1.cell? ⟨g5 + 1,0,none⟩ = some (.int .i64 p0):=kp.cell 0;have hp1 : w1.cell? ⟨g5 + 1,1,none⟩ = some (.int .i64 p1):=kp.cell 1;have hp2 : w1.cell? ⟨g5 + 1,2,none⟩ = some (.int .i64 p2):=kp.cell 2;have hp3 : w1.cell? ⟨g5 + 1,3,none⟩ = some (.int .i64 p3):=kp.cell 3;have hp4 : w1.cell? ⟨g5 + 1,4,none⟩ = some (.int .i64 p4):=kp.cell 4;have hp5 : w1.cell? ⟨g5 + 1,5,none⟩ = some (.int .i64 p5):=kp.cell 5;have hp6 : w1.cell? ⟨g5 + 1,6,none⟩ = some (.int .i64 p6):=kp.cell 6
    go_wp2_with (at_builtin;refine wpList_appI rfl (.tmp 33) (.tmp 48) rfl rfl (o5.alloc _) (news:=[p0,p1,p2,p3,p4,p5,p6]) rfl ⟨rfl,Rd.made _ _ _ _⟩ ?h12 ?h13 ?h14)
    case h12=>omega
    case h13=>simp;omega
    intro A2 c2' w2 o2 g2 m2 b2;have bx : Below (b + 1) w1 w2:=((Below.refl _ _).alloc (by omega) (.cells #[.int .i64 p0,.int .i64 p1,.int .i64 p2,.int .i64 p3,.int .i64 p4,.int .i64 p5,.int .i64 p6] 3)).trans b2;have kb2:=kb1.below bx (by omega);have hl2:=hl1.below (bx.mono (by omega));have gb2:=gb1.trans (bx.mono (by omega));clear g2 m2 b2 bx kb1 hl1 gb1 o5 hp0 hp1 hp2 hp3 hp4 hp5 hp6 kp c0 c1 c2 c3 c4 c5 c6 c7 c8 c9 c10 c11 c12 c13;have s13 : w2.cell? ⟨b,13,none⟩ = some (.slice A m c):=kb2.cell 13;have hsz : b + 1≤w2.heap.size:=kb2.lt
    go_wp2_with (at_builtin;refine wpList_appI rfl (.tmp 50) (.tmp 54) rfl rfl (o2.alloc _) (news:=[(m : Int)]) rfl ⟨rfl,Rd.made _ _ _ _⟩ ?h5_2 ?h6_2 ?h7_2)
    case h5_2=>omega
    case h6_2=>simp;omega
    intro A3 c3' w3 o3 g3 m3 b3;have bx : Below (b + 1) w2 w3:=((Below.refl _ _).alloc hsz (.cells #[.int .i64 m] 3)).trans b3;have kb3:=kb2.below bx (by omega);have hl3:=hl2.below (bx.mono (by omega));have gb3:=gb2.trans (bx.mono (by omega));have s13 : w3.cell? ⟨b,13,none⟩ = some (.slice A m c):=kb3.cell 13;obtain ⟨pr,hpr⟩ : ∃ pr,pr = [n,q,t,k,wk,p0,p1,p2,p3,p4,p5,p6,(m : Int)]:=⟨_,rfl⟩;rw [← hpr] at o3;have HPR:=Lib.hid hpr;have HPL:=Lib.hid (show pr.length≤13 by rw [hpr];simp);clear g3 m3 b3 bx hpr kb2 hl2 gb2 o2 hsz;go_wp2_with fail
    go_loopw [3,59] (fun s i wr=>∃ (j : Nat) (A' : Option Addr) (n' c' : Nat),j≤m∧i = .int .i64 j∧s = .slice A' n' c'∧OwnI wr (b + 1) A' n' c' (pr ++ dotNums (l.take j))∧Blk wr b 50 #[.int .i64 n,.int .i64 q,.int .i64 t,.int .i64 k,.int .i64 wk,.int .i64 v,.int .i64 p0,.int .i64 p1,.int .i64 p2,.int .i64 p3,.int .i64 p4,.int .i64 p5,.int .i64 p6,.slice A m c]∧RdD wr b A m l∧Below b w wr) (fun _ i _=>m - (intOf i).toNat)
    case atStart=>exact ⟨0,A3,_,c3',by omega,rfl,rfl,by simpa [dotNums] using o3,kb3,hl3,gb3⟩
    case round =>
      clear o3 kb3 hl3 gb3 s13;obtain ⟨j,A',n',c',hj,rfl,rfl,ho,kb,hl,gb⟩:=hrel
      by_cases hlt : j < m
      · have hjl : j < l.length:=by rw [← HM.out];exact hlt
        obtain ⟨ad,rfl,q5,q0,q1⟩:=hl.2 j _ (List.getElem?_eq_getElem hjl);have hsn:=take_snoc l hjl;have hnl:=ho.1;rw [List.length_append] at hnl
        have hdl : (dotNums (l.take j)).length = 2 * j:=by rw [← List.length_map (f:=Int.toNat),dotNums_nat,dotN_len,List.length_take];omega
        have HNL:=Lib.hid (show n'≤1000 by have:=HPL.out;have:=H96.out;omega)
        generalize l[j] = d at *
        obtain ⟨x,y⟩:=d
        simp only at q0 q1
        have HSN:=Lib.hid hsn
        have hj0 : (0 : Int)≤(j : Int):=by omega
        have hjm : (j : Int) < (m : Int):=by omega
        have hsz : b + 1≤wr.heap.size:=kb.lt
        have hmd : RdI ((wr.alloc (.cells #[.int .i64 x,.int .i64 y] 46)).alloc (.cells #[.int .i64 x,.int .i64 y] 3)) (wr.heap.size + 1 + 1) (some ⟨wr.heap.size + 1,0,none⟩) 2 [x,y]:=by
          have h:=RdI.made (wr.alloc (.cells #[.int .i64 x,.int .i64 y] 46)) [x,y] #[.int .i64 x,.int .i64 y] 3 (0,0) rfl;rw [show (wr.alloc (.cells #[.int .i64 x,.int .i64 y] 46)).heap.size = wr.heap.size + 1 by simp] at h;exact h
        have HMD:=Lib.hid hmd;clear hsn hnl hdl hmd
        go_wp2_with (at_builtin;refine wpList_appI rfl (.tmp 63) (.tmp 68) rfl rfl ((ho.alloc _).alloc _) (news:=[x,y]) rfl HMD.out ?h8_2 ?h9_2 ?h10_2)
        case h8_2=>have:=HNL.out;omega
        case h9_2=>simp;omega
        intro A4 c4' w4 o4 g4 m4 b4;have bx : Below (b + 1) wr w4:=(((Below.refl _ _).alloc hsz (.cells #[.int .i64 x,.int .i64 y] 46)).alloc (by simp;omega) (.cells #[.int .i64 x,.int .i64 y] 3)).trans b4;have kb4:=kb.below bx (by omega);have hl4:=hl.below (bx.mono (by omega));have gb4:=gb.trans (bx.mono (by omega));clear g4 m4 b4 bx;go_wp2_with fail
        go_roundw
        case rel=>exact ⟨j + 1,A4,_,c4',by omega,num_succ j (by have:=H96.out;omega),rfl,by rw [HSN.out];simpa [dotNums] using o4,kb4,hl4,gb4⟩
        case measure=>exact meas_succ j m hlt (by have:=H96.out;omega)
      · have hje : l.take j = l:=List.take_of_length_le (by rw [← HM.out];omega)
        rw [hje] at ho;have HO:=Lib.hid (ho.mono (base':=b) (by omega));have hkd : decide ((j : Int) < (m : Int)) = false:=decide_eq_false (by omega);clear hje ho;go_wp2_with fail;go_ret;refine ⟨A',n',c',rfl,?_,by rw [← HB.out];exact gb⟩;rw [HF.out,← HB.out]
        have e : [n,q,t,k,wk] ++ ([p0,p1,p2,p3,p4,p5,p6] ++ [(m : Int)] ++ dotNums l) = pr ++ dotNums l:=by rw [HPR.out];simp
        rw [e];exact HO.out
  have hq2 : (k == (2 : Int)) = false:=by rw [beq_eq_false_iff_ne];exact k2
  have hf:=HF.out;rw [if_neg k2] at hf;clear HF;have HF:=Lib.hid hf;clear hf k2;have s13 : w1.cell? ⟨b,13,none⟩ = some (.slice A m c):=kb1.cell 13;have hsz : b + 1≤w1.heap.size:=kb1.lt
  go_wp2_with (at_builtin;refine wpList_appI rfl (.tmp 50) (.tmp 54) rfl rfl (o5.alloc _) (news:=[(m : Int)]) rfl ⟨rfl,Rd.made _ _ _ _⟩ ?h5_1 ?h6_1 ?h7_1)
  case h5_1=>omega
  case h6_1=>simp;omega
  intro A3 c3' w3 o3 g3 m3 b3;have bx : Below (b + 1) w1 w3:=((Below.refl _ _).alloc hsz (.cells #[.int .i64 m] 3)).trans b3;have kb3:=kb1.below bx (by omega);have hl3:=hl1.below (bx.mono (by omega));have gb3:=gb1.trans (bx.mono (by omega));have s13 : w3.cell? ⟨b,13,none⟩ = some (.slice A m c):=kb3.cell 13;obtain ⟨pr,hpr⟩ : ∃ pr,pr = [n,q,t,k,wk,(m : Int)]:=⟨_,rfl⟩;rw [← hpr] at o3;have HPR:=Lib.hid hpr;have HPL:=Lib.hid (show pr.length≤13 by rw [hpr];simp);clear g3 m3 b3 bx hpr kb1 hl1 gb1 o5 hsz;go_wp2_with fail
  go_loopw [3,59] (fun s i wr=>∃ (j : Nat) (A' : Option Addr) (n' c' : Nat),j≤m∧i = .int .i64 j∧s = .slice A' n' c'∧OwnI wr (b + 1) A' n' c' (pr ++ dotNums (l.take j))∧Blk wr b 50 #[.int .i64 n,.int .i64 q,.int .i64 t,.int .i64 k,.int .i64 wk,.int .i64 v,.int .i64 p0,.int .i64 p1,.int .i64 p2,.int .i64 p3,.int .i64 p4,.int .i64 p5,.int .i64 p6,.slice A m c]∧RdD wr b A m l∧Below b w wr) (fun _ i _=>m - (intOf i).toNat)
  case atStart=>exact ⟨0,A3,_,c3',by omega,rfl,rfl,by simpa [dotNums] using o3,kb3,hl3,gb3⟩
  case round =>
    clear o3 kb3 hl3 gb3 s13;obtain ⟨j,A',n',c',hj,rfl,rfl,ho,kb,hl,gb⟩:=hrel
    by_cases hlt : j < m
    · have hjl : j < l.length:=by rw [← HM.out];exact hlt
      obtain ⟨ad,rfl,q5,q0,q1⟩:=hl.2 j _ (List.getElem?_eq_getElem hjl);have hsn:=take_snoc l hjl;have hnl:=ho.1;rw [List.length_append] at hnl
      have hdl : (dotNums (l.take j)).length = 2 * j:=by rw [← List.length_map (f:=Int.toNat),dotNums_nat,dotN_len,List.length_take];omega
      have HNL:=Lib.hid (show n'≤1000 by have:=HPL.out;have:=H96.out;omega)
      generalize l[j] = d at *
      obtain ⟨x,y⟩:=d
      simp only at q0 q1
      have HSN:=Lib.hid hsn
      have hj0 : (0 : Int)≤(j : Int):=by omega
      have hjm : (j : Int) < (m : Int):=by omega
      have hsz : b + 1≤wr.heap.size:=kb.lt
      have hmd : RdI ((wr.alloc (.cells #[.int .i64 x,.int .i64 y] 46)).alloc (.cells #[.int .i64 x,.int .i64 y] 3)) (wr.heap.size + 1 + 1) (some ⟨wr.heap.size + 1,0,none⟩) 2 [x,y]:=by
        have h:=RdI.made (wr.alloc (.cells #[.int .i64 x,.int .i64 y] 46)) [x,y] #[.int .i64 x,.int .i64 y] 3 (0,0) rfl;rw [show (wr.alloc (.cells #[.int .i64 x,.int .i64 y] 46)).heap.size = wr.heap.size + 1 by simp] at h;exact h
      have HMD:=Lib.hid hmd;clear hsn hnl hdl hmd
      go_wp2_with (at_builtin;refine wpList_appI rfl (.tmp 63) (.tmp 68) rfl rfl ((ho.alloc _).alloc _) (news:=[x,y]) rfl HMD.out ?h8_1 ?h9_1 ?h10_1)
      case h8_1=>have:=HNL.out;omega
      case h9_1=>simp;omega
      intro A4 c4' w4 o4 g4 m4 b4;have bx : Below (b + 1) wr w4:=(((Below.refl _ _).alloc hsz (.cells #[.int .i64 x,.int .i64 y] 46)).alloc (by simp;omega) (.cells #[.int .i64 x,.int .i64 y] 3)).trans b4;have kb4:=kb.below bx (by omega);have hl4:=hl.below (bx.mono (by omega));have gb4:=gb.trans (bx.mono (by omega));clear g4 m4 b4 bx;go_wp2_with fail
      go_roundw
      case rel=>exact ⟨j + 1,A4,_,c4',by omega,num_succ j (by have:=H96.out;omega),rfl,by rw [HSN.out];simpa [dotNums] using o4,kb4,hl4,gb4⟩
      case measure=>exact meas_succ j m hlt (by have:=H96.out;omega)
    · have hje : l.take j = l:=List.take_of_length_le (by rw [← HM.out];omega)
      rw [hje] at ho;have HO:=Lib.hid (ho.mono (base':=b) (by omega));have hkd : decide ((j : Int) < (m : Int)) = false:=decide_eq_false (by omega);clear hje ho;go_wp2_with fail;go_ret;refine ⟨A',n',c',rfl,?_,by rw [← HB.out];exact gb⟩;rw [HF.out,← HB.out]
      have e : [n,q,t,k,wk] ++ ([] ++ [(m : Int)] ++ dotNums l) = pr ++ dotNums l:=by rw [HPR.out];simp
      rw [e];exact HO.out
end Go.Proofs.Ytcgalmnllegnbaa

namespace Go.Proofs.Ytcgalmnllegnbaa
set_option linter.unusedVariables false
set_option linter.unusedSimpArgs false
set_option maxRecDepth 100000
open Go.RowKit
open Dot Evt
theorem encN_take (l : List Int) {k : Nat} (h : k < l.length) : encN ((l.take (k + 1)).map Int.toNat) = encN ((l.take k).map Int.toNat) ++ Vint.enc (l[k]).toNat:=by
  rw [take_snoc l h,List.map_append,encN_app]
  simp [encN]
set_option maxRecDepth 100000 in
set_option maxHeartbeats 2000000 in
theorem rput07_any (x : Ev) (hp : x.p.length = 7) (A : Option Addr) (m c : Nat) (w : World) (hl : RdD w w.heap.size A m x.l) (hmb : m≤10000000000000) :
    Calls Try.prog 78 #[.agg (ec x (.slice A m c))] w (GiveBE w (putE x).1 (putE x).2):=by
  obtain ⟨cs,hcs⟩ : ∃ cs,cs = ec x (.slice A m c):=⟨_,rfl⟩
  have hright:=fun (w' : World) (h : Below w.heap.size w w')=>eright07_any x hp A m c w' (hl.below h).size (by omega)
  have hnums:=fun (w' : World) (h : Below w.heap.size w w') (h96 : m≤96)=>rnums_any x hp A m c w' (hl.below h).size h96
  have hcz : cs.size = 14:=by rw [hcs];rfl
  rw [← hcs] at hright hnums ⊢;have HRT:=Lib.hid hright;have HNU:=Lib.hid hnums;have HCZ:=Lib.hid hcz;have HM:=Lib.hid hl.1;have HP:=Lib.hid hp;clear hright hnums hcz hcs hl hp
  go_enter Try.func78,Try.ntmps78
  go_upto_region 1 with fail
  refine nameW ?_;intro wv hwv;obtain ⟨b,hb⟩ : ∃ b,b = w.heap.size:=⟨_,rfl⟩;rw [← hb]
  have kb : Blk wv b 50 cs:=by rw [hwv,hb];exact Blk.new _ _ _
  have gb : Below w.heap.size w wv:=by rw [hwv];exact (Below.refl _ _).alloc (Nat.le_refl _) _
  have HB:=Lib.hid hb;clear hwv hb;have hr:=HRT.out wv gb
  cases hx : rightE x
  case false =>
    rw [hx] at hr
    have he : putE x = ([],2):=by unfold putE;rw [hx];rfl
    have HE:=Lib.hid he;have HR:=Lib.hid hr;clear hr hx he
    go_wp2_with first
      | ((with_reducible refine wpList_ld rowE kb HCZ.out ?_ ?_);rotate_left;(rfl))
    refine HR.out.mono ?_;rintro e w1 ⟨rfl,b1⟩;go_wp2_with fail;go_ret2;exact ⟨none,0,0,by rw [HE.out];rfl,by rw [HE.out];exact OwnB.nil _ _,gb.trans (b1.mono gb.size)⟩
  case true =>
    rw [hx] at hr
    have he : putE x = (encE x,0):=by unfold putE;rw [hx];rfl
    have HE:=Lib.hid he;have hf:=right_facts HP.out hx;have hbd:=numsE_bd HP.out hx;have hlen:=numsE_len x HP.out
    have h96 : m≤96:=by rw [HM.out];exact hf.2.2.1
    have HNL:=Lib.hid (show (numsE x).length≤205 by have:=hf.2.2.1;omega);have hEE : encE x = encN ((numsE x).map Int.toNat):=rfl;obtain ⟨L,hL⟩ : ∃ L,L = numsE x:=⟨_,rfl⟩
    have hnu:=fun w' h=>HNU.out w' h h96
    rw [← hL] at hbd HNL hnu;rw [← hL] at hEE;have HEE:=Lib.hid hEE;have HR:=Lib.hid hr;have HBD:=Lib.hid hbd;have HN2:=Lib.hid hnu;clear hr hx he hf hbd hlen h96 hEE hL HNU hnu
    go_wp2_with first
      | ((with_reducible refine wpList_ld rowE kb HCZ.out ?_ ?_);rotate_left;(rfl))
    refine HR.out.mono ?_;rintro e w1 ⟨rfl,b1⟩;have kb1:=kb.below b1 kb.lt;have gb1:=gb.trans (b1.mono gb.size);clear HR kb gb b1
    go_wp2_with first
      | ((with_reducible refine wpList_ld rowE kb1 HCZ.out ?_ ?_);rotate_left;(rfl))
    refine (HN2.out w1 gb1).mono ?_;rintro e w2 ⟨A2,n2,c2,rfl,ho,b2⟩;have gb2:=gb1.trans (b2.mono gb1.size);have hrd:=ho.rd;have HN:=Lib.hid ho.1;clear HN2 gb1 b2 ho kb1;go_wp2_with fail
    go_loopw [4,13] (fun s i wr=>∃ (j : Nat) (A' : Option Addr) (n' c' : Nat),j≤n2∧i = .int .i64 j∧s = .slice A' n' c'∧OwnB wr w.heap.size A' n' c' (encN ((L.take j).map Int.toNat))∧Below w2.heap.size w2 wr) (fun _ i _=>n2 - (intOf i).toNat)
    case atStart=>exact ⟨0,none,0,0,by omega,rfl,rfl,by simpa [encN] using OwnB.nil w2 w.heap.size,Below.refl _ _⟩
    case round =>
      obtain ⟨j,A',n',c',hj,rfl,rfl,ho,gb⟩:=hrel
      by_cases hlt : j < n2
      · have hjl : j < L.length:=by rw [← HN.out];exact hlt
        obtain ⟨ad,hA,hab,hc⟩:=(hrd.below gb).at_ hjl;have hst:=encN_take L hjl;have hz:=HBD.out _ (List.getElem_mem hjl)
        generalize L[j] = z at *
        obtain ⟨z,rfl⟩:=Int.eq_ofNat_of_zero_le hz.1;have HZ:=Lib.hid (show z≤1099511627776 by have:=hz.2;unfold top at this;omega);rw [Int.toNat_natCast] at hst;have HST:=Lib.hid hst;have hln:=encN_len ((L.take j).map Int.toNat);rw [List.length_map,List.length_take] at hln;have HLN:=Lib.hid (show n'≤140737488355000 by rw [ho.1];have:=HNL.out;omega)
        have hj0 : (0 : Int)≤(j : Int):=by omega
        have hjm : (j : Int) < (n2 : Int):=by omega
        have hc' : wr.cell? (ad.add j) = some (.int .i64 (z : Int)):=hc;subst hA;have HO:=Lib.hid ho;have HRP:=Lib.hid (rput_ok A' n' c' _ z wr.heap.size wr ho.rd (Nat.le_refl _) HLN.out HZ.out);clear hz hst hln hc ho;go_wp2_with fail;refine HRP.out.mono ?_;rintro e w3 ⟨A3,n3,c3,rfl,o3,b3⟩;have gb3:=gb.trans (b3.mono gb.size);go_wp2_with fail
        go_roundw
        case rel=>exact ⟨j + 1,A3,n3,c3,by omega,num_succ j (by have:=HN.out;have:=HNL.out;omega),rfl,by rw [HST.out];exact o3.mono (by have:=gb.size;have:=gb2.size;omega),gb3⟩
        case measure=>exact meas_succ j n2 hlt (by have:=HN.out;have:=HNL.out;omega)
      · rw [List.take_of_length_le (by rw [← HN.out];omega)] at ho
        have HO:=Lib.hid ho;have hkd : decide ((j : Int) < (n2 : Int)) = false:=decide_eq_false (by omega);clear ho;go_wp2_with fail;go_ret2;exact ⟨A',n',c',by rw [HE.out];rfl,by rw [HE.out,HEE.out];exact HO.out,gb2.trans (gb.mono gb2.size)⟩
set_option maxRecDepth 100000 in
set_option maxHeartbeats 2000000 in
theorem rputAll07_any (A : Option Addr) (n c : Nat) (xs : List EvV) (w : World) (hn : n≤10000000000000) (hR : RowEv w w.heap.size A n xs) :
    Calls Try.prog 41 #[.slice A n c] w (GiveBE w (putAllE xs).1 (putAllE xs).2):=by
  have HN:=Lib.hid hR.1
  have HRK:=Lib.hid fun (w' : World) (hb : Below w.heap.size w w')=>hR.below hb
  have HNB:=Lib.hid hn;clear hR;obtain ⟨B,hB⟩ : ∃ B,B = w.heap.size:=⟨_,rfl⟩;have HB:=Lib.hid hB;rw [← hB] at HRK;clear hB
  by_cases hbig : 768 < n
  · have hd : decide ((768 : Int) < (n : Int)) = true:=decide_eq_true (by omega)
    have he : putAllE xs = ([],6):=by unfold putAllE;rw [if_pos (by rw [← HN.out];exact hbig)]
    have HE:=Lib.hid he;clear hbig he
    go_enter Try.func41,Try.ntmps41
    go_wp2_with fail;go_ret2;exact ⟨none,0,0,by rw [HE.out];rfl,by rw [HE.out];exact OwnB.nil _ _,Below.refl _ _⟩
  have hd : decide ((768 : Int) < (n : Int)) = false:=decide_eq_false (by omega);have H768:=Lib.hid (show n≤768 by omega);have HP:=Lib.hid (rput_ok none 0 0 [] n w.heap.size w (RdB.nil _ _ _) (Nat.le_refl _) (by omega) (by omega));clear hbig
  go_enter Try.func41,Try.ntmps41
  go_wp2_with fail;refine HP.out.mono ?_;rintro e w1 ⟨A1,n1,c1,rfl,o1,b1⟩;rw [← HB.out] at o1 b1;clear hd HP;go_wp2_with fail
  go_loopw [4,21] (fun s i wr=>∃ (k : Nat) (A' : Option Addr) (n' c' : Nat),k≤n∧i = .int .i64 k∧s = .slice A' n' c'∧(∀ j x,j < k→xs[j]? = some x→rightE x.e = true)∧OwnB wr B A' n' c' (Vint.enc n ++ (xs.take k).flatMap fun x=>encE x.e)∧Below B w wr) (fun _ i _=>n - (intOf i).toNat)
  case atStart=>exact ⟨0,A1,n1,c1,by omega,rfl,rfl,fun j x hj=>by omega,by simpa using o1,b1⟩
  case round =>
    clear o1 b1;obtain ⟨k,A',n',c',hk,rfl,rfl,hall,ho,gb⟩:=hrel;have HA:=Lib.hid hall;clear hall
    have hgs : B≤wr.heap.size:=by have:=gb.size;have:=HB.out;omega
    by_cases hlt : k < n
    · have hkl : k < xs.length:=by rw [← HN.out];exact hlt
      obtain ⟨hok,ad,hA,hab,hcell⟩:=(HRK.out wr gb).2 k _ (List.getElem?_eq_getElem hkl);have hsn:=take_snoc xs hkl;have hkg:=List.getElem?_eq_getElem hkl
      generalize xs[k] = x at *
      have hpr : ∀ y ∈ xs.take k,y.e.p.length = 7∧rightE y.e = true:=fun y hy=>by
        obtain ⟨i,hi,rfl⟩:=List.getElem_of_mem hy;rw [List.length_take] at hi
        have e1 : xs[i]? = some (xs.take k)[i]:=by rw [List.getElem_take,List.getElem?_eq_getElem]
        exact ⟨((HRK.out wr gb).2 i _ e1).1.1,HA.out i _ (by omega) e1⟩
      have hlen:=encAll_len _ hpr;rw [List.length_take] at hlen;have hl6:=enc_len6 n;have HLL:=Lib.hid (show n'≤140737488350000 by rw [ho.1,List.length_append];have:=H768.out;omega);subst hA;obtain ⟨cs,hcs⟩ : ∃ cs,cs = x.cs:=⟨_,rfl⟩;have hec : ec x.e (.slice x.A x.m x.c) = cs:=hcs.symm;rw [← hcs] at hcell;have HSZ:=Lib.hid (show cs.size = 14 by rw [hcs];rfl);have H1C:=Lib.hid (show cs.all (·.oneCell') = true by rw [hcs];exact x.one);have HC:=Lib.hid hcell;have HOK:=Lib.hid hok;have HSN:=Lib.hid hsn;have HKG:=Lib.hid hkg;have HEC:=Lib.hid hec
      have hk0 : (0 : Int)≤(k : Int):=by omega
      have hkm : (k : Int) < (n : Int):=by omega
      clear hcs hec hcell hok hsn hkg hlen hl6 hpr
      go_upto_region 6 with fail
      go_upto_region 7 with first
        | ((with_reducible refine wpList_lda rowE HC.out HSZ.out ?_ ?_);rotate_left;(rfl))
        | ((with_reducible refine wpList_st rowE (Blk.new _ _ _) HSZ.out ?_ H1C.out ?_ ?_ ?_);(rfl);rotate_left;(rfl);(rfl);intro w6 k6 g6 z6)
      have bA : Below wr.heap.size wr w6:=(((Below.refl _ _).alloc (Nat.le_refl _) _).grown g6 (by simp) (fun q hq=>by injection hq with hq;omega));have gb6:=gb.trans (bA.mono hgs);have o6:=ho.below bA (Nat.le_refl _);have hok6:=HOK.out.below (bA.mono hgs);obtain ⟨gr,hgr2⟩ : ∃ gr,gr = wr.heap.size:=⟨_,rfl⟩;rw [← hgr2] at k6 ⊢
      have hs6 : B≤w6.heap.size:=by have:=gb6.size;have:=HB.out;omega
      have hrp:=rput07_any x.e hok6.1 x.A x.m x.c w6 (hok6.more hs6).2.1 (hok6.2.2);rw [HEC.out] at hrp;have HRP:=Lib.hid hrp;clear hgr2 g6 z6 bA gb ho hok6 hrp
      go_wp2_with first
        | ((with_reducible refine wpList_ld rowE k6 HSZ.out ?_ ?_);rotate_left;(rfl))
      refine HRP.out.mono ?_;rintro e w7 ⟨A7,n7,c7,rfl,o7,b7⟩;have gb7:=gb6.trans (b7.mono hs6);have o67:=o6.below b7 (Nat.le_refl _)
      cases hx : rightE x.e
      case false =>
        have he : putAllE xs = ([],2):=by
          unfold putAllE
          rw [if_neg (by rw [← HN.out];have:=H768.out;omega),if_neg];intro h
          have:=List.all_eq_true.1 h x (List.mem_of_getElem? HKG.out)
          rw [hx] at this
          cases this
        have he2 : (putE x.e).2 = 2:=by unfold putE;rw [hx];rfl
        have HE:=Lib.hid he;rw [he2];clear he hx he2 o7 b7;go_wp2_with fail;go_ret2;exact ⟨none,0,0,by rw [HE.out];rfl,by rw [HE.out];exact OwnB.nil _ _,by rw [← HB.out];exact gb7⟩
      case true =>
        have he2 : putE x.e = (encE x.e,0):=by unfold putE;rw [hx];rfl
        rw [he2] at o7 ⊢;have hle:=encE_len HOK.out.1 hx;have HO7:=Lib.hid (show RdB w7 w7.heap.size A7 n7 (encE x.e) from o7.rd);have H7:=Lib.hid (show n7≤1230 by rw [o7.1];exact hle);have HX:=Lib.hid hx
        have hs7 : B≤w7.heap.size:=by have:=gb7.size;have:=HB.out;omega
        clear hx he2 hle o7 b7
        go_wp2_with (at_builtin;refine wpList_appB rfl (.tmp 33) (.tmp 34) rfl rfl o67 rfl HO7.out ?he1 ?he2 ?_)
        case he1=>have:=HLL.out;have:=H7.out;omega
        case he2=>exact hs7
        intro A8 c8 w8 o8 g8 m8 b8;have gb8:=gb7.trans b8;clear g8 m8 b8;go_wp2_with fail
        go_roundw
        case rel=>exact ⟨k + 1,A8,_,c8,by omega,by go_num,rfl,fun j y hj hy=>by
          by_cases e : j = k
          · subst e;rw [HKG.out] at hy;injection hy with hy;rw [← hy];exact HX.out
          · exact HA.out j y (by omega) hy,by rw [HSN.out,List.flatMap_append];simpa using o8,gb8⟩
        case measure=>simp [intOf];omega
    · have he : putAllE xs = (Vint.enc n ++ xs.flatMap fun x=>encE x.e,0):=by
        unfold putAllE
        rw [if_neg (by rw [← HN.out];have:=H768.out;omega),if_pos,← HN.out];rw [List.all_eq_true];intro x hx;obtain ⟨i,hi,rfl⟩:=List.getElem_of_mem hx;exact HA.out i _ (by have:=HN.out;omega) (List.getElem?_eq_getElem hi)
      have HE:=Lib.hid he;rw [List.take_of_length_le (by rw [← HN.out];omega)] at ho;have hkd : decide ((k : Int) < (n : Int)) = false:=decide_eq_false (by omega);have HO:=Lib.hid ho;clear he ho;go_wp2_with fail;go_ret2;exact ⟨A',n',c',by rw [HE.out];rfl,by rw [HE.out,← HB.out];exact HO.out,by rw [← HB.out];exact gb⟩
end Go.Proofs.Ytcgalmnllegnbaa

namespace Go.Proofs.Ytcgalmnllegnbaa
set_option linter.unusedVariables false
set_option linter.unusedSimpArgs false
set_option maxRecDepth 100000
open Go.RowKit
namespace Frame
theorem rput_long (A : Option Addr) (n c : Nat) (w : World) (hl : 4096 < n) :
    Calls Try.prog 42 #[.slice A n c] w fun e w'=>e = .returned (.tuple #[.slice none 0 0,.int .i64 6])∧w = w':=by
  have hd : decide ((4096 : Int) < (n : Int)) = true:=decide_eq_true (by omega)
  go_enter Try.func42,Try.ntmps42
  go_wp2_with fail;go_ret2;exact ⟨rfl,rfl⟩
theorem rput_ok (A : Option Addr) (n c : Nat) (bs : List UInt8) (B : Nat) (w : World) (hb : RdB w B A n bs) (hB : B≤w.heap.size) (hl : n≤4096) :
    Calls Try.prog 42 #[.slice A n c] w (GiveBE w (frm bs) 0):=by
  obtain rfl:=hb.1;have hd : decide ((4096 : Int) < (bs.length : Int)) = false:=decide_eq_false (by omega);have hel:=Vint.enc_length bs.length
  go_enter Try.func42,Try.ntmps42
  go_wp2_with fail;refine (Go.Proofs.Ytcgalmnllegnbaa.rput_ok _ _ _ [1] bs.length _ _ (RdB.made _ [1] _ _ _ ?hx1) (by simp) (by simp) (by omega)).mono ?_
  case hx1=>rfl
  rintro e w1 ⟨A1,n1,c1,rfl,ho1,hb1⟩;have hbl1 : Below w.heap.size w w1:=((Below.refl _ _).alloc (Nat.le_refl _) _).trans (hb1.mono (by simp));have hr1:=(hb.more hB).below hbl1;have ho1':=ho1.mono (base':=w.heap.size) (by simp);have hn1:=ho1.1;rw [List.length_append] at hn1
  simp only [List.length_cons,List.length_nil] at hn1
  have hn7 : n1≤7:=by omega
  clear ho1 hel hn1
  go_wp2_with (at_builtin;refine wpList_appB rfl (.tmp 17) (.tmp 18) rfl rfl ho1' rfl hr1 ?hy0 hbl1.size ?_)
  case hy0=>omega
  intro A2 c2 w2 ho2 _ _ hbl2;have hb2:=hbl1.trans hbl2;have hd2 : OwnB w2 w.heap.size A2 (n1 + bs.length) c2 (head bs):=ho2;clear ho2;go_wp2_with fail;refine (Crc.rsum_any _ _ _ _ _ _ hd2.rd (by unfold maxLen;omega)).mono ?_;rintro e w3 ⟨rfl,rfl⟩;have hs:=Crc.sum_lt (head bs);obtain ⟨s,hs0⟩ : ∃ s,s = Crc.sum (head bs):=⟨_,rfl⟩;rw [← hs0] at hs ⊢;have HS0:=Lib.hid hs0;clear hs0
  go_wp2_with (at_builtin;refine wpList_appB rfl (.tmp 22) (.tmp 34) rfl rfl (hd2.alloc _) rfl (RdB.made _ (be s) _ _ _ ?hz1) ?hz0 ?hz2 ?_)
  case hz1=>simp [be,bv,Vint.toNat_ofNat];omega
  case hz0=>show n1 + bs.length + 4≤_;omega
  case hz2=>have:=hb2.size;simp;omega
  intro A4 c4 w4 ho4 _ _ hbl4;have hb4:=(hb2.alloc hb2.size _).trans hbl4;go_wp2_with fail;go_ret2;refine ⟨_,_,_,rfl,?_,hb4⟩;rw [HS0.out] at ho4;exact ho4
end Frame
end Go.Proofs.Ytcgalmnllegnbaa

namespace Go.Proofs.Ytcgalmnllegnbaa
set_option linter.unusedVariables false
set_option linter.unusedSimpArgs false
set_option maxRecDepth 100000
open Go.RowKit
open Dot Evt
open Ms (Mem)
theorem rput17_bad (x : MgV) (w : World) (h : MgIn w x) (hR : Ms.rightM x.m = false) : Calls Try.prog 12 #[.agg x.cs] w (GiveBE w (Ms.putM x.m).1 (Ms.putM x.m).2):=by
  have HAT:=Lib.hid (mgv_at x);have SZ:=Lib.hid x.size
  have HRT:=Lib.hid fun (w' : World) (hb : Below w.heap.size w w')=>rright17_any x w' (h.below hb)
  have hp : Ms.putM x.m = ([],2):=by unfold Ms.putM;rw [hR,if_neg (by decide)]
  have HP:=Lib.hid hp;rw [hR] at HRT;clear hp h hR
  generalize hC : x.cs = C at *
  clear hC
  go_enter Try.func12,Try.ntmps12
  go_upto_region 1 with fail
  refine nameW ?_;intro W hW;obtain ⟨g,hg⟩ : ∃ g,g = w.heap.size:=⟨_,rfl⟩;rw [← hg]
  have kb : Blk W g 27 C:=by rw [hW,hg];exact Blk.new w _ _
  have gb : Below w.heap.size w W:=by rw [hW];exact (Below.refl _ _).alloc (Nat.le_refl _) _
  have hge : w.heap.size≤g:=by omega
  clear hW hg
  go_wp2_with ((with_reducible refine wpList_ld rowMg kb SZ.out ?_ ?_);rotate_left;(rfl))
  refine (HRT.out W gb).mono ?_;rintro e w1 ⟨rfl,b1⟩;have kb:=kb.below b1 kb.lt;have gb:=gb.trans (b1.mono gb.size);clear b1;go_wp2_with fail;go_ret2;rw [HP.out];exact ⟨none,0,0,rfl,OwnB.nil _ _,gb⟩
set_option maxHeartbeats 4000000 in
theorem rput17_k1 (x : MgV) (w : World) (h : MgIn w x) (hk : x.m.kind = 1) (hR : Ms.rightM x.m = true) : Calls Try.prog 12 #[.agg x.cs] w (GiveBE w (Ms.putM x.m).1 (Ms.putM x.m).2):=by
  have HAT:=Lib.hid (mgv_at x);have SZ:=Lib.hid x.size
  have HRT:=Lib.hid fun (w' : World) (hb : Below w.heap.size w w')=>rright17_any x w' (h.below hb)
  have HMB:=Lib.hid fun (w' : World) (hb : Below w.heap.size w w')=>(h.below hb).ok.mem
  have HN3:=Lib.hid (h.ok.mem.1);have hrh:=Ms.right_head hR;have hml:=Ms.members_len hrh.2.2.2.1;have HBD:=Lib.hid (Ms.headN_bd hR);have HHL:=Lib.hid (Ms.headN_len hR);have HRR:=Lib.hid hR;have HTN:=Lib.hid (tail_len h.ok.ev h.ok.es h.ok.u hR);have hasks:=((Ms.right_iff x.m).1 hR).2.2.2
  have htm : Ms.tailM x.m = []:=by unfold Ms.tailM;rw [if_neg (by omega),if_neg (by omega)]
  have HTM:=Lib.hid htm
  have hHN : Ms.headN x.m = [x.m.kind,x.m.frm,x.m.to,(x.n3 : Int)] ++ (x.m.mem.flatMap fun v : Mem=>[v.1,v.2.1,v.2.2]) ++ [x.m.seq] ++ []:=by
    rw [Ms.headN_eq,HN3.out,if_pos (by omega),if_neg (by omega)]
  have HHN:=Lib.hid hHN
  have hn38 : x.n3≤8:=by rw [HN3.out];exact hml
  have HN8:=Lib.hid hn38;rw [hR] at HRT;have HK:=Lib.hid hk;clear h hR hrh hml hn38 hasks hHN hk;clear htm
  generalize hC : x.cs = C at *
  clear hC
  go_enter Try.func12,Try.ntmps12
  go_upto_region 1 with fail
  refine nameW ?_;intro W hW;obtain ⟨g,hg⟩ : ∃ g,g = w.heap.size:=⟨_,rfl⟩;rw [← hg]
  have kb : Blk W g 27 C:=by rw [hW,hg];exact Blk.new w _ _
  have gb : Below w.heap.size w W:=by rw [hW];exact (Below.refl _ _).alloc (Nat.le_refl _) _
  have hge : w.heap.size≤g:=by omega
  clear hW hg
  go_wp2_with ((with_reducible refine wpList_ld rowMg kb SZ.out ?_ ?_);rotate_left;(rfl))
  refine (HRT.out W gb).mono ?_;rintro e w1 ⟨rfl,b1⟩;have kb:=kb.below b1 kb.lt;have gb:=gb.trans (b1.mono gb.size)
  have t0 : w1.cell? ⟨g,0,none⟩ = some (.int .i64 1):=by rw [kb.cell,HAT.out.1,HK.out]
  have t1 : w1.cell? ⟨g,1,none⟩ = some (.int .i64 x.m.frm):=(kb.cell 1).trans HAT.out.2.1;have t2 : w1.cell? ⟨g,2,none⟩ = some (.int .i64 x.m.to):=(kb.cell 2).trans HAT.out.2.2.1;have t15 : w1.cell? ⟨g,15,none⟩ = some (.slice x.A3 x.n3 x.c3):=(kb.cell 15).trans HAT.out.2.2.2.2.2.2.2;clear b1
  go_upto_region 4 with fail
  have o0:=OwnI.made w1 w1.heap.size [1,x.m.frm,x.m.to,(x.n3 : Int)] #[.int .i64 1,.int .i64 x.m.frm,.int .i64 x.m.to,.int .i64 x.n3] 4 rfl rfl (Nat.le_refl _) (by unfold maxLen;omega);have bn : Below w1.heap.size w1 (w1.alloc (.cells #[.int .i64 1,.int .i64 x.m.frm,.int .i64 x.m.to,.int .i64 x.n3] 3)):=(Below.refl _ _).alloc (Nat.le_refl _) _;obtain ⟨D,hD⟩ : ∃ D,D = w1.heap.size:=⟨_,rfl⟩
  have hgD : g < D:=by rw [hD];exact kb.lt
  have k4:=kb.below bn kb.lt;have gb4:=gb.trans (bn.mono gb.size);rw [← hD] at o0 bn ⊢
  have hDs : D≤(w1.alloc (.cells #[.int .i64 1,.int .i64 x.m.frm,.int .i64 x.m.to,.int .i64 x.n3] 3)).heap.size:=by rw [hD];simp
  generalize w1.alloc (.cells #[.int .i64 1,.int .i64 x.m.frm,.int .i64 x.m.to,.int .i64 x.n3] 3) = w4 at *
  have t15 : w4.cell? ⟨g,15,none⟩ = some (.slice x.A3 x.n3 x.c3):=(k4.cell 15).trans HAT.out.2.2.2.2.2.2.2
  have hwD : w.heap.size≤D:=by omega
  have HKB:=Lib.hid (And.intro k4 gb4);have HO0:=Lib.hid o0;clear bn hD o0 t0 t1 t2 kb gb k4 gb4;go_wp2_with fail
  go_loopw [4,30] (fun s i wr=>∃ (k : Nat) (A : Option Addr) (nc cc : Nat),k≤x.n3∧i = .int .i64 (k : Nat)∧s = .slice A nc cc∧OwnI wr D A nc cc ([1,x.m.frm,x.m.to,(x.n3 : Int)] ++ (x.m.mem.take k).flatMap fun v=>[v.1,v.2.1,v.2.2])∧Below D w4 wr) (fun _ i _=>x.n3 - (intOf i).toNat)
  case atStart=>exact ⟨0,_,4,4,by omega,rfl,rfl,by simpa using HO0.out,Below.refl _ _⟩
  case round =>
    obtain ⟨k,A5,n5,c5,hk,rfl,rfl,ho,bk⟩:=hrel;have hm8:=HN8.out
    have hn5 : n5≤28:=by
      rw [ho.1,List.length_append,Ms.trip_len,List.length_take]
      simp only [List.length_cons,List.length_nil]
      omega
    by_cases hlt : k < x.n3
    · have hkl : k < x.m.mem.length:=by rw [← HN3.out];exact hlt
      obtain ⟨ad,hA,q5,q0,q1,q2⟩:=(HMB.out wr (HKB.out.2.trans (bk.mono hwD))).2 k _ (List.getElem?_eq_getElem hkl);have hst:=Ms.trip_snoc x.m.mem hkl
      have hk0 : (0 : Int)≤(k : Int):=by omega
      have hkn : (k : Int) < (x.n3 : Int):=by omega
      have HO5:=Lib.hid ho
      generalize x.m.mem[k] = d at *
      obtain ⟨a1,a2,a3⟩:=d
      simp only at q0 q1 q2 hst
      have HST:=Lib.hid hst;clear hst ho;rw [hA]
      go_upto_region 7 with ((with_reducible refine wpList_st (cs:=#[.int .i64 a1,.int .i64 a2,.int .i64 a3]) rowMb (Blk.new _ _ _) (th_sizeM _ _ _) ?_ (th_oneM _ _ _) ?_ ?_ ?_);(rfl);rotate_left;(rfl);(rfl);intro w7 kq g7 z7)
      have bq : Below wr.heap.size wr w7:=new_below g7;have HO6:=Lib.hid (HO5.out.below bq (Nat.le_refl _));have hDr : D≤wr.heap.size:=Nat.le_trans hDs bk.size;have b7:=bk.trans (bq.mono hDr);have hD7 : D≤w7.heap.size:=Nat.le_trans hDr bq.size;have d0:=kq.cell 0;have d1:=kq.cell 1;have d2:=kq.cell 2;clear g7 z7 bq bk HO5 q5 q0 q1 q2
      go_wp2_with (at_builtin;refine stop ?_)
      unfold Stop
      have ba:=b7.alloc hD7 (.cells #[.int .i64 a1,.int .i64 a2,.int .i64 a3] 3);refine wpList_appI rfl (.tmp 34) (.tmp 41) rfl (by rfl) (HO6.out.alloc _) (by rfl) (RdI.made w7 [a1,a2,a3] _ _ _ rfl) (by simp;omega) (Nat.le_trans hD7 (by simp)) ?_;intro A8 c8 w8 ho8 _ _ b8;have HO8:=Lib.hid ho8;have b9:=ba.trans b8;clear ho8 b8 ba b7;go_wp2_with fail
      go_roundw
      case rel=>exact ⟨k + 1,A8,_,c8,by omega,by go_num,rfl,by rw [HST.out,← List.append_assoc];exact HO8.out,b9⟩
      case measure=>simp [intOf];omega
    · obtain rfl : k = x.n3:=by omega
      have hfull : x.m.mem.take x.n3 = x.m.mem:=List.take_of_length_le (by rw [← HN3.out];omega);rw [hfull] at ho;have hkd : decide ((x.n3 : Int) < (x.n3 : Int)) = false:=decide_eq_false (by omega);have kb:=HKB.out.1.below bk hgD;have gb:=HKB.out.2.trans (bk.mono hwD);have hDr : D≤wr.heap.size:=Nat.le_trans hDs bk.size
      obtain ⟨L1,hL1⟩ : ∃ L1,L1 = [(1 : Int),x.m.frm,x.m.to,(x.n3 : Int)] ++ x.m.mem.flatMap fun v : Mem=>[v.1,v.2.1,v.2.2]:=⟨_,rfl⟩
      rw [← hL1] at ho
      have hh2 : Ms.headN x.m = L1 ++ [x.m.seq] ++ []:=by rw [HHN.out,hL1,HK.out]
      have HHN2:=Lib.hid hh2;obtain ⟨ws,hws⟩ : ∃ ws,ws = wr:=⟨_,rfl⟩
      have t0 : wr.cell? ⟨g,0,none⟩ = some (.int .i64 1):=by rw [kb.cell,HAT.out.1,HK.out]
      have s3 : wr.cell? ⟨g,3,none⟩ = some (.int .i64 x.m.seq):=(kb.cell 3).trans HAT.out.2.2.2.1;have hnn : n5≤28:=hn5;clear hfull hL1 hh2 bk hlt hk HKB HO0 HMB t15 hws hn5
      go_wp2_with (at_builtin;refine stop ?_)
      unfold Stop
      have ba:=(Below.refl D wr).alloc hDr (.cells #[.int .i64 x.m.seq] 3);refine wpList_appI rfl (.tmp 47) (.tmp 50) rfl (by rfl) (ho.alloc _) (by rfl) (RdI.made wr [x.m.seq] _ _ _ rfl) (by simp;omega) (Nat.le_trans hDr (by simp)) ?_;intro wuA wuc wu wuo _ _ wub;have hq : n5 + [x.m.seq].length = (L1 ++ [x.m.seq]).length:=wuo.1;have hq2 : n5 + 1 = (L1 ++ [x.m.seq]).length:=hq;rw [hq] at wuo ⊢;obtain ⟨L2,hL2⟩ : ∃ L2,L2 = L1 ++ [x.m.seq]:=⟨_,rfl⟩;rw [← hL2] at wuo hq2 ⊢
      generalize hn8 : L2.length = n8 at wuo hq2 ⊢
      have hnn : n8≤29:=by omega
      have bb:=ba.trans wub;have kb:=kb.below bb hgD;have gb:=gb.trans (bb.mono hwD);have hDr : D≤wu.heap.size:=Nat.le_trans hDr bb.size;have ho:=wuo
      have t0 : wu.cell? ⟨g,0,none⟩ = some (.int .i64 1):=by rw [kb.cell,HAT.out.1,HK.out]
      have s4 : wu.cell? ⟨g,4,none⟩ = some (.int .i64 x.m.node):=(kb.cell 4).trans HAT.out.2.2.2.2.1;clear ba bb wub wuo hq hn8 hq2
      have hms : L2 = Ms.headN x.m:=by rw [HHN2.out,hL2,List.append_nil]
      have HMS:=Lib.hid hms;have HBD2:=Lib.hid (show ∀ z ∈ L2,0≤z∧z≤1099511627776 by rw [hms];exact HBD.out);have hg6 : g < wu.heap.size:=kb.lt
      have hww : w.heap.size≤wu.heap.size:=by omega
      have HKB:=Lib.hid (And.intro kb gb);have HO:=Lib.hid ho;clear hms HBD HHN HHN2 kb gb ho s4 s3;go_wp2_with fail
      go_loopw [7,67] (fun s i wq=>∃ (j : Nat) (A' : Option Addr) (nc cc : Nat),j≤n8∧i = .int .i64 (j : Nat)∧s = .slice A' nc cc∧OwnB wq wu.heap.size A' nc cc (encs (L2.take j))∧Below wu.heap.size wu wq) (fun _ i _=>n8 - (intOf i).toNat)
      case atStart=>exact ⟨0,none,0,0,by omega,rfl,rfl,OwnB.nil _ _,Below.refl _ _⟩
      case round =>
        obtain ⟨j,A',nc,cc,hj,rfl,rfl,ob,bl⟩:=hrel
        by_cases hjm : j < n8
        · have hjl : j < L2.length:=by rw [← HO.out.1];exact hjm
          obtain ⟨ad,hA7,_,c1⟩:=(HO.out.rd.below bl).at_ hjl;have hxb:=HBD2.out _ (List.getElem_mem hjl);have hes:=encs_snoc L2 hjl;have HES:=Lib.hid hes;have hel:=encs_len (L2.take j)
          have hnb : nc≤600:=by
            have h1:=ob.1;have h2 : (L2.take j).length≤j:=List.length_take_le _ _
            omega
          clear hes hel
          generalize L2[j] = z at *
          obtain ⟨z,rfl⟩:=Int.eq_ofNat_of_zero_le hxb.1;rw [Int.toNat_natCast] at HES
          have hj0 : (0 : Int)≤(j : Int):=by omega
          have hj1 : (j : Int) < (n8 : Int):=by omega
          have HOB:=Lib.hid ob;clear ob;rw [hA7];go_wp2_with fail;refine (rput_ok A' nc cc _ z _ _ HOB.out.rd (Nat.le_refl _) (by omega) (by omega)).mono ?_;rintro e w7 ⟨A8,n8',c8,rfl,o8,b8⟩
          have o9 : OwnB w7 wu.heap.size A8 n8' c8 (encs (L2.take (j + 1))):=by rw [HES.out];exact o8.mono bl.size
          have B9:=bl.trans (b8.mono bl.size);have H9:=Lib.hid (And.intro o9 B9);clear o9 B9 o8 b8 HOB;go_wp2_with fail
          go_roundw
          case rel=>exact ⟨j + 1,A8,n8',c8,by omega,by go_num,rfl,H9.out⟩
          case measure=>simp [intOf];omega
        · have hfull : L2.take j = L2:=List.take_of_length_le (by rw [← HO.out.1];omega)
          rw [hfull,HMS.out] at ob
          have hnb : nc≤180:=by
            have h1:=ob.1;have h2:=encs_len (Ms.headN x.m);have h3:=HHL.out
            omega
          have hkd : decide ((j : Int) < (n8 : Int)) = false:=decide_eq_false (by omega);obtain ⟨w7,rfl⟩ : ∃ w7,w7 = wr:=⟨_,rfl⟩;have kb:=HKB.out.1.below bl hg6;have gb:=HKB.out.2.trans (bl.mono hww)
          have t0 : w7.cell? ⟨g,0,none⟩ = some (.int .i64 1):=by rw [kb.cell,HAT.out.1,HK.out]
          have hb9 : wu.heap.size≤w7.heap.size:=bl.size;clear hfull HKB HO
          have hbody : encs (Ms.headN x.m) = Ms.bodyM x.m:=by show _ = encs (Ms.headN x.m) ++ Ms.tailM x.m;rw [HTM.out,List.append_nil]
          rw [hbody] at ob;have hla : nc = (Ms.bodyM x.m).length:=ob.1;have HOa:=Lib.hid ob;clear ob hbody
          by_cases hlong : nc≤4096
          · have hp : Ms.putM x.m = (Frame.frm (Ms.bodyM x.m),0):=by unfold Ms.putM;rw [if_pos HRR.out,if_pos (by rw [← hla];exact hlong)]
            have HP:=Lib.hid hp;clear hp hla;go_wp2_with fail;refine (Frame.rput_ok _ _ _ (Ms.bodyM x.m) w7.heap.size w7 HOa.out.rd (Nat.le_refl _) hlong).mono ?_;rintro e wf ⟨Af,nf,cf,rfl,of,bf⟩;have gbf:=gb.trans (bf.mono gb.size);have of':=of.mono (base':=w.heap.size) gb.size;clear of bf;go_wp2_with fail;go_ret2;rw [HP.out];exact ⟨Af,nf,cf,rfl,of',gbf⟩
          · exact absurd (show nc≤4096 by omega) hlong
set_option maxHeartbeats 4000000 in
theorem rput17_k2 (x : MgV) (w : World) (h : MgIn w x) (hk : x.m.kind = 2) (hR : Ms.rightM x.m = true) : Calls Try.prog 12 #[.agg x.cs] w (GiveBE w (Ms.putM x.m).1 (Ms.putM x.m).2):=by
  have HAT:=Lib.hid (mgv_at x);have SZ:=Lib.hid x.size
  have HRT:=Lib.hid fun (w' : World) (hb : Below w.heap.size w w')=>rright17_any x w' (h.below hb)
  have HMB:=Lib.hid fun (w' : World) (hb : Below w.heap.size w w')=>(h.below hb).ok.mem
  have HN3:=Lib.hid (h.ok.mem.1);have hrh:=Ms.right_head hR;have hml:=Ms.members_len hrh.2.2.2.1;have HBD:=Lib.hid (Ms.headN_bd hR);have HHL:=Lib.hid (Ms.headN_len hR);have HRR:=Lib.hid hR;have HTN:=Lib.hid (tail_len h.ok.ev h.ok.es h.ok.u hR);have hasks:=((Ms.right_iff x.m).1 hR).2.2.2
  have htm : Ms.tailM x.m = []:=by unfold Ms.tailM;rw [if_neg (by omega),if_neg (by omega)]
  have HTM:=Lib.hid htm
  have hHN : Ms.headN x.m = [x.m.kind,x.m.frm,x.m.to,(x.n3 : Int)] ++ (x.m.mem.flatMap fun v : Mem=>[v.1,v.2.1,v.2.2]) ++ [x.m.seq] ++ [x.m.node]:=by
    rw [Ms.headN_eq,HN3.out,if_pos (by omega),if_pos (by omega)]
  have HHN:=Lib.hid hHN
  have hn38 : x.n3≤8:=by rw [HN3.out];exact hml
  have HN8:=Lib.hid hn38;rw [hR] at HRT;have HK:=Lib.hid hk;clear h hR hrh hml hn38 hasks hHN hk;clear htm
  generalize hC : x.cs = C at *
  clear hC
  go_enter Try.func12,Try.ntmps12
  go_upto_region 1 with fail
  refine nameW ?_;intro W hW;obtain ⟨g,hg⟩ : ∃ g,g = w.heap.size:=⟨_,rfl⟩;rw [← hg]
  have kb : Blk W g 27 C:=by rw [hW,hg];exact Blk.new w _ _
  have gb : Below w.heap.size w W:=by rw [hW];exact (Below.refl _ _).alloc (Nat.le_refl _) _
  have hge : w.heap.size≤g:=by omega
  clear hW hg
  go_wp2_with ((with_reducible refine wpList_ld rowMg kb SZ.out ?_ ?_);rotate_left;(rfl))
  refine (HRT.out W gb).mono ?_;rintro e w1 ⟨rfl,b1⟩;have kb:=kb.below b1 kb.lt;have gb:=gb.trans (b1.mono gb.size)
  have t0 : w1.cell? ⟨g,0,none⟩ = some (.int .i64 2):=by rw [kb.cell,HAT.out.1,HK.out]
  have t1 : w1.cell? ⟨g,1,none⟩ = some (.int .i64 x.m.frm):=(kb.cell 1).trans HAT.out.2.1;have t2 : w1.cell? ⟨g,2,none⟩ = some (.int .i64 x.m.to):=(kb.cell 2).trans HAT.out.2.2.1;have t15 : w1.cell? ⟨g,15,none⟩ = some (.slice x.A3 x.n3 x.c3):=(kb.cell 15).trans HAT.out.2.2.2.2.2.2.2;clear b1
  go_upto_region 4 with fail
  have o0:=OwnI.made w1 w1.heap.size [2,x.m.frm,x.m.to,(x.n3 : Int)] #[.int .i64 2,.int .i64 x.m.frm,.int .i64 x.m.to,.int .i64 x.n3] 4 rfl rfl (Nat.le_refl _) (by unfold maxLen;omega);have bn : Below w1.heap.size w1 (w1.alloc (.cells #[.int .i64 2,.int .i64 x.m.frm,.int .i64 x.m.to,.int .i64 x.n3] 3)):=(Below.refl _ _).alloc (Nat.le_refl _) _;obtain ⟨D,hD⟩ : ∃ D,D = w1.heap.size:=⟨_,rfl⟩
  have hgD : g < D:=by rw [hD];exact kb.lt
  have k4:=kb.below bn kb.lt;have gb4:=gb.trans (bn.mono gb.size);rw [← hD] at o0 bn ⊢
  have hDs : D≤(w1.alloc (.cells #[.int .i64 2,.int .i64 x.m.frm,.int .i64 x.m.to,.int .i64 x.n3] 3)).heap.size:=by rw [hD];simp
  generalize w1.alloc (.cells #[.int .i64 2,.int .i64 x.m.frm,.int .i64 x.m.to,.int .i64 x.n3] 3) = w4 at *
  have t15 : w4.cell? ⟨g,15,none⟩ = some (.slice x.A3 x.n3 x.c3):=(k4.cell 15).trans HAT.out.2.2.2.2.2.2.2
  have hwD : w.heap.size≤D:=by omega
  have HKB:=Lib.hid (And.intro k4 gb4);have HO0:=Lib.hid o0;clear bn hD o0 t0 t1 t2 kb gb k4 gb4;go_wp2_with fail
  go_loopw [4,30] (fun s i wr=>∃ (k : Nat) (A : Option Addr) (nc cc : Nat),k≤x.n3∧i = .int .i64 (k : Nat)∧s = .slice A nc cc∧OwnI wr D A nc cc ([2,x.m.frm,x.m.to,(x.n3 : Int)] ++ (x.m.mem.take k).flatMap fun v=>[v.1,v.2.1,v.2.2])∧Below D w4 wr) (fun _ i _=>x.n3 - (intOf i).toNat)
  case atStart=>exact ⟨0,_,4,4,by omega,rfl,rfl,by simpa using HO0.out,Below.refl _ _⟩
  case round =>
    obtain ⟨k,A5,n5,c5,hk,rfl,rfl,ho,bk⟩:=hrel;have hm8:=HN8.out
    have hn5 : n5≤28:=by
      rw [ho.1,List.length_append,Ms.trip_len,List.length_take]
      simp only [List.length_cons,List.length_nil]
      omega
    by_cases hlt : k < x.n3
    · have hkl : k < x.m.mem.length:=by rw [← HN3.out];exact hlt
      obtain ⟨ad,hA,q5,q0,q1,q2⟩:=(HMB.out wr (HKB.out.2.trans (bk.mono hwD))).2 k _ (List.getElem?_eq_getElem hkl);have hst:=Ms.trip_snoc x.m.mem hkl
      have hk0 : (0 : Int)≤(k : Int):=by omega
      have hkn : (k : Int) < (x.n3 : Int):=by omega
      have HO5:=Lib.hid ho
      generalize x.m.mem[k] = d at *
      obtain ⟨a1,a2,a3⟩:=d
      simp only at q0 q1 q2 hst
      have HST:=Lib.hid hst;clear hst ho;rw [hA]
      go_upto_region 7 with ((with_reducible refine wpList_st (cs:=#[.int .i64 a1,.int .i64 a2,.int .i64 a3]) rowMb (Blk.new _ _ _) (th_sizeM _ _ _) ?_ (th_oneM _ _ _) ?_ ?_ ?_);(rfl);rotate_left;(rfl);(rfl);intro w7 kq g7 z7)
      have bq : Below wr.heap.size wr w7:=new_below g7;have HO6:=Lib.hid (HO5.out.below bq (Nat.le_refl _));have hDr : D≤wr.heap.size:=Nat.le_trans hDs bk.size;have b7:=bk.trans (bq.mono hDr);have hD7 : D≤w7.heap.size:=Nat.le_trans hDr bq.size;have d0:=kq.cell 0;have d1:=kq.cell 1;have d2:=kq.cell 2;clear g7 z7 bq bk HO5 q5 q0 q1 q2
      go_wp2_with (at_builtin;refine stop ?_)
      unfold Stop
      have ba:=b7.alloc hD7 (.cells #[.int .i64 a1,.int .i64 a2,.int .i64 a3] 3);refine wpList_appI rfl (.tmp 34) (.tmp 41) rfl (by rfl) (HO6.out.alloc _) (by rfl) (RdI.made w7 [a1,a2,a3] _ _ _ rfl) (by simp;omega) (Nat.le_trans hD7 (by simp)) ?_;intro A8 c8 w8 ho8 _ _ b8;have HO8:=Lib.hid ho8;have b9:=ba.trans b8;clear ho8 b8 ba b7;go_wp2_with fail
      go_roundw
      case rel=>exact ⟨k + 1,A8,_,c8,by omega,by go_num,rfl,by rw [HST.out,← List.append_assoc];exact HO8.out,b9⟩
      case measure=>simp [intOf];omega
    · obtain rfl : k = x.n3:=by omega
      have hfull : x.m.mem.take x.n3 = x.m.mem:=List.take_of_length_le (by rw [← HN3.out];omega);rw [hfull] at ho;have hkd : decide ((x.n3 : Int) < (x.n3 : Int)) = false:=decide_eq_false (by omega);have kb:=HKB.out.1.below bk hgD;have gb:=HKB.out.2.trans (bk.mono hwD);have hDr : D≤wr.heap.size:=Nat.le_trans hDs bk.size
      obtain ⟨L1,hL1⟩ : ∃ L1,L1 = [(2 : Int),x.m.frm,x.m.to,(x.n3 : Int)] ++ x.m.mem.flatMap fun v : Mem=>[v.1,v.2.1,v.2.2]:=⟨_,rfl⟩
      rw [← hL1] at ho
      have hh2 : Ms.headN x.m = L1 ++ [x.m.seq] ++ [x.m.node]:=by rw [HHN.out,hL1,HK.out]
      have HHN2:=Lib.hid hh2;obtain ⟨ws,hws⟩ : ∃ ws,ws = wr:=⟨_,rfl⟩
      have t0 : wr.cell? ⟨g,0,none⟩ = some (.int .i64 2):=by rw [kb.cell,HAT.out.1,HK.out]
      have s3 : wr.cell? ⟨g,3,none⟩ = some (.int .i64 x.m.seq):=(kb.cell 3).trans HAT.out.2.2.2.1;have hnn : n5≤28:=hn5;clear hfull hL1 hh2 bk hlt hk HKB HO0 HMB t15 hws hn5
      go_wp2_with (at_builtin;refine stop ?_)
      unfold Stop
      have ba:=(Below.refl D wr).alloc hDr (.cells #[.int .i64 x.m.seq] 3);refine wpList_appI rfl (.tmp 47) (.tmp 50) rfl (by rfl) (ho.alloc _) (by rfl) (RdI.made wr [x.m.seq] _ _ _ rfl) (by simp;omega) (Nat.le_trans hDr (by simp)) ?_;intro wuA wuc wu wuo _ _ wub;have hq : n5 + [x.m.seq].length = (L1 ++ [x.m.seq]).length:=wuo.1;have hq2 : n5 + 1 = (L1 ++ [x.m.seq]).length:=hq;rw [hq] at wuo ⊢;obtain ⟨L2,hL2⟩ : ∃ L2,L2 = L1 ++ [x.m.seq]:=⟨_,rfl⟩;rw [← hL2] at wuo hq2 ⊢
      generalize hn8 : L2.length = n8 at wuo hq2 ⊢
      have hnn : n8≤29:=by omega
      have bb:=ba.trans wub;have kb:=kb.below bb hgD;have gb:=gb.trans (bb.mono hwD);have hDr : D≤wu.heap.size:=Nat.le_trans hDr bb.size;have ho:=wuo
      have t0 : wu.cell? ⟨g,0,none⟩ = some (.int .i64 2):=by rw [kb.cell,HAT.out.1,HK.out]
      have s4 : wu.cell? ⟨g,4,none⟩ = some (.int .i64 x.m.node):=(kb.cell 4).trans HAT.out.2.2.2.2.1;clear ba bb wub wuo hq hn8 hq2
      go_wp2_with (at_builtin;refine stop ?_)
      unfold Stop
      have ba:=(Below.refl D wu).alloc hDr (.cells #[.int .i64 x.m.node] 3);refine wpList_appI rfl (.tmp 60) (.tmp 63) rfl (by rfl) (ho.alloc _) (by rfl) (RdI.made wu [x.m.node] _ _ _ rfl) (by simp;omega) (Nat.le_trans hDr (by simp)) ?_;intro wvA wvc wv wvo _ _ wvb;have hq : n8 + [x.m.node].length = (L2 ++ [x.m.node]).length:=wvo.1;have hq2 : n8 + 1 = (L2 ++ [x.m.node]).length:=hq;rw [hq] at wvo ⊢;obtain ⟨L3,hL3⟩ : ∃ L3,L3 = L2 ++ [x.m.node]:=⟨_,rfl⟩;rw [← hL3] at wvo hq2 ⊢
      generalize hn9 : L3.length = n9 at wvo hq2 ⊢
      have hnn : n9≤30:=by omega
      have bb:=ba.trans wvb;have kb:=kb.below bb hgD;have gb:=gb.trans (bb.mono hwD);have hDr : D≤wv.heap.size:=Nat.le_trans hDr bb.size;have ho:=wvo
      have t0 : wv.cell? ⟨g,0,none⟩ = some (.int .i64 2):=by rw [kb.cell,HAT.out.1,HK.out]
      have s4 : wv.cell? ⟨g,4,none⟩ = some (.int .i64 x.m.node):=(kb.cell 4).trans HAT.out.2.2.2.2.1;clear ba bb wvb wvo hq hn9 hq2
      have hms : L3 = Ms.headN x.m:=by rw [HHN2.out,hL3,hL2]
      have HMS:=Lib.hid hms;have HBD2:=Lib.hid (show ∀ z ∈ L3,0≤z∧z≤1099511627776 by rw [hms];exact HBD.out);have hg6 : g < wv.heap.size:=kb.lt
      have hww : w.heap.size≤wv.heap.size:=by omega
      have HKB:=Lib.hid (And.intro kb gb);have HO:=Lib.hid ho;clear hms HBD HHN HHN2 kb gb ho s4 s3;go_wp2_with fail
      go_loopw [7,67] (fun s i wq=>∃ (j : Nat) (A' : Option Addr) (nc cc : Nat),j≤n9∧i = .int .i64 (j : Nat)∧s = .slice A' nc cc∧OwnB wq wv.heap.size A' nc cc (encs (L3.take j))∧Below wv.heap.size wv wq) (fun _ i _=>n9 - (intOf i).toNat)
      case atStart=>exact ⟨0,none,0,0,by omega,rfl,rfl,OwnB.nil _ _,Below.refl _ _⟩
      case round =>
        obtain ⟨j,A',nc,cc,hj,rfl,rfl,ob,bl⟩:=hrel
        by_cases hjm : j < n9
        · have hjl : j < L3.length:=by rw [← HO.out.1];exact hjm
          obtain ⟨ad,hA7,_,c1⟩:=(HO.out.rd.below bl).at_ hjl;have hxb:=HBD2.out _ (List.getElem_mem hjl);have hes:=encs_snoc L3 hjl;have HES:=Lib.hid hes;have hel:=encs_len (L3.take j)
          have hnb : nc≤600:=by
            have h1:=ob.1;have h2 : (L3.take j).length≤j:=List.length_take_le _ _
            omega
          clear hes hel
          generalize L3[j] = z at *
          obtain ⟨z,rfl⟩:=Int.eq_ofNat_of_zero_le hxb.1;rw [Int.toNat_natCast] at HES
          have hj0 : (0 : Int)≤(j : Int):=by omega
          have hj1 : (j : Int) < (n9 : Int):=by omega
          have HOB:=Lib.hid ob;clear ob;rw [hA7];go_wp2_with fail;refine (rput_ok A' nc cc _ z _ _ HOB.out.rd (Nat.le_refl _) (by omega) (by omega)).mono ?_;rintro e w7 ⟨A8,n8',c8,rfl,o8,b8⟩
          have o9 : OwnB w7 wv.heap.size A8 n8' c8 (encs (L3.take (j + 1))):=by rw [HES.out];exact o8.mono bl.size
          have B9:=bl.trans (b8.mono bl.size);have H9:=Lib.hid (And.intro o9 B9);clear o9 B9 o8 b8 HOB;go_wp2_with fail
          go_roundw
          case rel=>exact ⟨j + 1,A8,n8',c8,by omega,by go_num,rfl,H9.out⟩
          case measure=>simp [intOf];omega
        · have hfull : L3.take j = L3:=List.take_of_length_le (by rw [← HO.out.1];omega)
          rw [hfull,HMS.out] at ob
          have hnb : nc≤180:=by
            have h1:=ob.1;have h2:=encs_len (Ms.headN x.m);have h3:=HHL.out
            omega
          have hkd : decide ((j : Int) < (n9 : Int)) = false:=decide_eq_false (by omega);obtain ⟨w7,rfl⟩ : ∃ w7,w7 = wr:=⟨_,rfl⟩;have kb:=HKB.out.1.below bl hg6;have gb:=HKB.out.2.trans (bl.mono hww)
          have t0 : w7.cell? ⟨g,0,none⟩ = some (.int .i64 2):=by rw [kb.cell,HAT.out.1,HK.out]
          have hb9 : wv.heap.size≤w7.heap.size:=bl.size;clear hfull HKB HO
          have hbody : encs (Ms.headN x.m) = Ms.bodyM x.m:=by show _ = encs (Ms.headN x.m) ++ Ms.tailM x.m;rw [HTM.out,List.append_nil]
          rw [hbody] at ob;have hla : nc = (Ms.bodyM x.m).length:=ob.1;have HOa:=Lib.hid ob;clear ob hbody
          by_cases hlong : nc≤4096
          · have hp : Ms.putM x.m = (Frame.frm (Ms.bodyM x.m),0):=by unfold Ms.putM;rw [if_pos HRR.out,if_pos (by rw [← hla];exact hlong)]
            have HP:=Lib.hid hp;clear hp hla;go_wp2_with fail;refine (Frame.rput_ok _ _ _ (Ms.bodyM x.m) w7.heap.size w7 HOa.out.rd (Nat.le_refl _) hlong).mono ?_;rintro e wf ⟨Af,nf,cf,rfl,of,bf⟩;have gbf:=gb.trans (bf.mono gb.size);have of':=of.mono (base':=w.heap.size) gb.size;clear of bf;go_wp2_with fail;go_ret2;rw [HP.out];exact ⟨Af,nf,cf,rfl,of',gbf⟩
          · exact absurd (show nc≤4096 by omega) hlong
set_option maxHeartbeats 4000000 in
theorem rput17_k3 (x : MgV) (w : World) (h : MgIn w x) (hk : x.m.kind = 3) (hR : Ms.rightM x.m = true) : Calls Try.prog 12 #[.agg x.cs] w (GiveBE w (Ms.putM x.m).1 (Ms.putM x.m).2):=by
  have HAT:=Lib.hid (mgv_at x);have SZ:=Lib.hid x.size
  have HRT:=Lib.hid fun (w' : World) (hb : Below w.heap.size w w')=>rright17_any x w' (h.below hb)
  have HMB:=Lib.hid fun (w' : World) (hb : Below w.heap.size w w')=>(h.below hb).ok.mem
  have HN3:=Lib.hid (h.ok.mem.1);have hrh:=Ms.right_head hR;have hml:=Ms.members_len hrh.2.2.2.1;have HBD:=Lib.hid (Ms.headN_bd hR);have HHL:=Lib.hid (Ms.headN_len hR);have HRR:=Lib.hid hR;have HTN:=Lib.hid (tail_len h.ok.ev h.ok.es h.ok.u hR);have hasks:=((Ms.right_iff x.m).1 hR).2.2.2
  have htm : Ms.tailM x.m = []:=by unfold Ms.tailM;rw [if_neg (by omega),if_neg (by omega)]
  have HTM:=Lib.hid htm
  have hHN : Ms.headN x.m = [x.m.kind,x.m.frm,x.m.to,(x.n3 : Int)] ++ (x.m.mem.flatMap fun v : Mem=>[v.1,v.2.1,v.2.2]) ++ [x.m.seq] ++ [x.m.node]:=by
    rw [Ms.headN_eq,HN3.out,if_pos (by omega),if_pos (by omega)]
  have HHN:=Lib.hid hHN
  have hn38 : x.n3≤8:=by rw [HN3.out];exact hml
  have HN8:=Lib.hid hn38;rw [hR] at HRT;have HK:=Lib.hid hk;clear h hR hrh hml hn38 hasks hHN hk;clear htm
  generalize hC : x.cs = C at *
  clear hC
  go_enter Try.func12,Try.ntmps12
  go_upto_region 1 with fail
  refine nameW ?_;intro W hW;obtain ⟨g,hg⟩ : ∃ g,g = w.heap.size:=⟨_,rfl⟩;rw [← hg]
  have kb : Blk W g 27 C:=by rw [hW,hg];exact Blk.new w _ _
  have gb : Below w.heap.size w W:=by rw [hW];exact (Below.refl _ _).alloc (Nat.le_refl _) _
  have hge : w.heap.size≤g:=by omega
  clear hW hg
  go_wp2_with ((with_reducible refine wpList_ld rowMg kb SZ.out ?_ ?_);rotate_left;(rfl))
  refine (HRT.out W gb).mono ?_;rintro e w1 ⟨rfl,b1⟩;have kb:=kb.below b1 kb.lt;have gb:=gb.trans (b1.mono gb.size)
  have t0 : w1.cell? ⟨g,0,none⟩ = some (.int .i64 3):=by rw [kb.cell,HAT.out.1,HK.out]
  have t1 : w1.cell? ⟨g,1,none⟩ = some (.int .i64 x.m.frm):=(kb.cell 1).trans HAT.out.2.1;have t2 : w1.cell? ⟨g,2,none⟩ = some (.int .i64 x.m.to):=(kb.cell 2).trans HAT.out.2.2.1;have t15 : w1.cell? ⟨g,15,none⟩ = some (.slice x.A3 x.n3 x.c3):=(kb.cell 15).trans HAT.out.2.2.2.2.2.2.2;clear b1
  go_upto_region 4 with fail
  have o0:=OwnI.made w1 w1.heap.size [3,x.m.frm,x.m.to,(x.n3 : Int)] #[.int .i64 3,.int .i64 x.m.frm,.int .i64 x.m.to,.int .i64 x.n3] 4 rfl rfl (Nat.le_refl _) (by unfold maxLen;omega);have bn : Below w1.heap.size w1 (w1.alloc (.cells #[.int .i64 3,.int .i64 x.m.frm,.int .i64 x.m.to,.int .i64 x.n3] 3)):=(Below.refl _ _).alloc (Nat.le_refl _) _;obtain ⟨D,hD⟩ : ∃ D,D = w1.heap.size:=⟨_,rfl⟩
  have hgD : g < D:=by rw [hD];exact kb.lt
  have k4:=kb.below bn kb.lt;have gb4:=gb.trans (bn.mono gb.size);rw [← hD] at o0 bn ⊢
  have hDs : D≤(w1.alloc (.cells #[.int .i64 3,.int .i64 x.m.frm,.int .i64 x.m.to,.int .i64 x.n3] 3)).heap.size:=by rw [hD];simp
  generalize w1.alloc (.cells #[.int .i64 3,.int .i64 x.m.frm,.int .i64 x.m.to,.int .i64 x.n3] 3) = w4 at *
  have t15 : w4.cell? ⟨g,15,none⟩ = some (.slice x.A3 x.n3 x.c3):=(k4.cell 15).trans HAT.out.2.2.2.2.2.2.2
  have hwD : w.heap.size≤D:=by omega
  have HKB:=Lib.hid (And.intro k4 gb4);have HO0:=Lib.hid o0;clear bn hD o0 t0 t1 t2 kb gb k4 gb4;go_wp2_with fail
  go_loopw [4,30] (fun s i wr=>∃ (k : Nat) (A : Option Addr) (nc cc : Nat),k≤x.n3∧i = .int .i64 (k : Nat)∧s = .slice A nc cc∧OwnI wr D A nc cc ([3,x.m.frm,x.m.to,(x.n3 : Int)] ++ (x.m.mem.take k).flatMap fun v=>[v.1,v.2.1,v.2.2])∧Below D w4 wr) (fun _ i _=>x.n3 - (intOf i).toNat)
  case atStart=>exact ⟨0,_,4,4,by omega,rfl,rfl,by simpa using HO0.out,Below.refl _ _⟩
  case round =>
    obtain ⟨k,A5,n5,c5,hk,rfl,rfl,ho,bk⟩:=hrel;have hm8:=HN8.out
    have hn5 : n5≤28:=by
      rw [ho.1,List.length_append,Ms.trip_len,List.length_take]
      simp only [List.length_cons,List.length_nil]
      omega
    by_cases hlt : k < x.n3
    · have hkl : k < x.m.mem.length:=by rw [← HN3.out];exact hlt
      obtain ⟨ad,hA,q5,q0,q1,q2⟩:=(HMB.out wr (HKB.out.2.trans (bk.mono hwD))).2 k _ (List.getElem?_eq_getElem hkl);have hst:=Ms.trip_snoc x.m.mem hkl
      have hk0 : (0 : Int)≤(k : Int):=by omega
      have hkn : (k : Int) < (x.n3 : Int):=by omega
      have HO5:=Lib.hid ho
      generalize x.m.mem[k] = d at *
      obtain ⟨a1,a2,a3⟩:=d
      simp only at q0 q1 q2 hst
      have HST:=Lib.hid hst;clear hst ho;rw [hA]
      go_upto_region 7 with ((with_reducible refine wpList_st (cs:=#[.int .i64 a1,.int .i64 a2,.int .i64 a3]) rowMb (Blk.new _ _ _) (th_sizeM _ _ _) ?_ (th_oneM _ _ _) ?_ ?_ ?_);(rfl);rotate_left;(rfl);(rfl);intro w7 kq g7 z7)
      have bq : Below wr.heap.size wr w7:=new_below g7;have HO6:=Lib.hid (HO5.out.below bq (Nat.le_refl _));have hDr : D≤wr.heap.size:=Nat.le_trans hDs bk.size;have b7:=bk.trans (bq.mono hDr);have hD7 : D≤w7.heap.size:=Nat.le_trans hDr bq.size;have d0:=kq.cell 0;have d1:=kq.cell 1;have d2:=kq.cell 2;clear g7 z7 bq bk HO5 q5 q0 q1 q2
      go_wp2_with (at_builtin;refine stop ?_)
      unfold Stop
      have ba:=b7.alloc hD7 (.cells #[.int .i64 a1,.int .i64 a2,.int .i64 a3] 3);refine wpList_appI rfl (.tmp 34) (.tmp 41) rfl (by rfl) (HO6.out.alloc _) (by rfl) (RdI.made w7 [a1,a2,a3] _ _ _ rfl) (by simp;omega) (Nat.le_trans hD7 (by simp)) ?_;intro A8 c8 w8 ho8 _ _ b8;have HO8:=Lib.hid ho8;have b9:=ba.trans b8;clear ho8 b8 ba b7;go_wp2_with fail
      go_roundw
      case rel=>exact ⟨k + 1,A8,_,c8,by omega,by go_num,rfl,by rw [HST.out,← List.append_assoc];exact HO8.out,b9⟩
      case measure=>simp [intOf];omega
    · obtain rfl : k = x.n3:=by omega
      have hfull : x.m.mem.take x.n3 = x.m.mem:=List.take_of_length_le (by rw [← HN3.out];omega);rw [hfull] at ho;have hkd : decide ((x.n3 : Int) < (x.n3 : Int)) = false:=decide_eq_false (by omega);have kb:=HKB.out.1.below bk hgD;have gb:=HKB.out.2.trans (bk.mono hwD);have hDr : D≤wr.heap.size:=Nat.le_trans hDs bk.size
      obtain ⟨L1,hL1⟩ : ∃ L1,L1 = [(3 : Int),x.m.frm,x.m.to,(x.n3 : Int)] ++ x.m.mem.flatMap fun v : Mem=>[v.1,v.2.1,v.2.2]:=⟨_,rfl⟩
      rw [← hL1] at ho
      have hh2 : Ms.headN x.m = L1 ++ [x.m.seq] ++ [x.m.node]:=by rw [HHN.out,hL1,HK.out]
      have HHN2:=Lib.hid hh2;obtain ⟨ws,hws⟩ : ∃ ws,ws = wr:=⟨_,rfl⟩
      have t0 : wr.cell? ⟨g,0,none⟩ = some (.int .i64 3):=by rw [kb.cell,HAT.out.1,HK.out]
      have s3 : wr.cell? ⟨g,3,none⟩ = some (.int .i64 x.m.seq):=(kb.cell 3).trans HAT.out.2.2.2.1;have hnn : n5≤28:=hn5;clear hfull hL1 hh2 bk hlt hk HKB HO0 HMB t15 hws hn5
      go_wp2_with (at_builtin;refine stop ?_)
      unfold Stop
      have ba:=(Below.refl D wr).alloc hDr (.cells #[.int .i64 x.m.seq] 3);refine wpList_appI rfl (.tmp 47) (.tmp 50) rfl (by rfl) (ho.alloc _) (by rfl) (RdI.made wr [x.m.seq] _ _ _ rfl) (by simp;omega) (Nat.le_trans hDr (by simp)) ?_;intro wuA wuc wu wuo _ _ wub;have hq : n5 + [x.m.seq].length = (L1 ++ [x.m.seq]).length:=wuo.1;have hq2 : n5 + 1 = (L1 ++ [x.m.seq]).length:=hq;rw [hq] at wuo ⊢;obtain ⟨L2,hL2⟩ : ∃ L2,L2 = L1 ++ [x.m.seq]:=⟨_,rfl⟩;rw [← hL2] at wuo hq2 ⊢
      generalize hn8 : L2.length = n8 at wuo hq2 ⊢
      have hnn : n8≤29:=by omega
      have bb:=ba.trans wub;have kb:=kb.below bb hgD;have gb:=gb.trans (bb.mono hwD);have hDr : D≤wu.heap.size:=Nat.le_trans hDr bb.size;have ho:=wuo
      have t0 : wu.cell? ⟨g,0,none⟩ = some (.int .i64 3):=by rw [kb.cell,HAT.out.1,HK.out]
      have s4 : wu.cell? ⟨g,4,none⟩ = some (.int .i64 x.m.node):=(kb.cell 4).trans HAT.out.2.2.2.2.1;clear ba bb wub wuo hq hn8 hq2
      go_wp2_with (at_builtin;refine stop ?_)
      unfold Stop
      have ba:=(Below.refl D wu).alloc hDr (.cells #[.int .i64 x.m.node] 3);refine wpList_appI rfl (.tmp 60) (.tmp 63) rfl (by rfl) (ho.alloc _) (by rfl) (RdI.made wu [x.m.node] _ _ _ rfl) (by simp;omega) (Nat.le_trans hDr (by simp)) ?_;intro wvA wvc wv wvo _ _ wvb;have hq : n8 + [x.m.node].length = (L2 ++ [x.m.node]).length:=wvo.1;have hq2 : n8 + 1 = (L2 ++ [x.m.node]).length:=hq;rw [hq] at wvo ⊢;obtain ⟨L3,hL3⟩ : ∃ L3,L3 = L2 ++ [x.m.node]:=⟨_,rfl⟩;rw [← hL3] at wvo hq2 ⊢
      generalize hn9 : L3.length = n9 at wvo hq2 ⊢
      have hnn : n9≤30:=by omega
      have bb:=ba.trans wvb;have kb:=kb.below bb hgD;have gb:=gb.trans (bb.mono hwD);have hDr : D≤wv.heap.size:=Nat.le_trans hDr bb.size;have ho:=wvo
      have t0 : wv.cell? ⟨g,0,none⟩ = some (.int .i64 3):=by rw [kb.cell,HAT.out.1,HK.out]
      have s4 : wv.cell? ⟨g,4,none⟩ = some (.int .i64 x.m.node):=(kb.cell 4).trans HAT.out.2.2.2.2.1;clear ba bb wvb wvo hq hn9 hq2
      have hms : L3 = Ms.headN x.m:=by rw [HHN2.out,hL3,hL2]
      have HMS:=Lib.hid hms;have HBD2:=Lib.hid (show ∀ z ∈ L3,0≤z∧z≤1099511627776 by rw [hms];exact HBD.out);have hg6 : g < wv.heap.size:=kb.lt
      have hww : w.heap.size≤wv.heap.size:=by omega
      have HKB:=Lib.hid (And.intro kb gb);have HO:=Lib.hid ho;clear hms HBD HHN HHN2 kb gb ho s4 s3;go_wp2_with fail
      go_loopw [7,67] (fun s i wq=>∃ (j : Nat) (A' : Option Addr) (nc cc : Nat),j≤n9∧i = .int .i64 (j : Nat)∧s = .slice A' nc cc∧OwnB wq wv.heap.size A' nc cc (encs (L3.take j))∧Below wv.heap.size wv wq) (fun _ i _=>n9 - (intOf i).toNat)
      case atStart=>exact ⟨0,none,0,0,by omega,rfl,rfl,OwnB.nil _ _,Below.refl _ _⟩
      case round =>
        obtain ⟨j,A',nc,cc,hj,rfl,rfl,ob,bl⟩:=hrel
        by_cases hjm : j < n9
        · have hjl : j < L3.length:=by rw [← HO.out.1];exact hjm
          obtain ⟨ad,hA7,_,c1⟩:=(HO.out.rd.below bl).at_ hjl;have hxb:=HBD2.out _ (List.getElem_mem hjl);have hes:=encs_snoc L3 hjl;have HES:=Lib.hid hes;have hel:=encs_len (L3.take j)
          have hnb : nc≤600:=by
            have h1:=ob.1;have h2 : (L3.take j).length≤j:=List.length_take_le _ _
            omega
          clear hes hel
          generalize L3[j] = z at *
          obtain ⟨z,rfl⟩:=Int.eq_ofNat_of_zero_le hxb.1;rw [Int.toNat_natCast] at HES
          have hj0 : (0 : Int)≤(j : Int):=by omega
          have hj1 : (j : Int) < (n9 : Int):=by omega
          have HOB:=Lib.hid ob;clear ob;rw [hA7];go_wp2_with fail;refine (rput_ok A' nc cc _ z _ _ HOB.out.rd (Nat.le_refl _) (by omega) (by omega)).mono ?_;rintro e w7 ⟨A8,n8',c8,rfl,o8,b8⟩
          have o9 : OwnB w7 wv.heap.size A8 n8' c8 (encs (L3.take (j + 1))):=by rw [HES.out];exact o8.mono bl.size
          have B9:=bl.trans (b8.mono bl.size);have H9:=Lib.hid (And.intro o9 B9);clear o9 B9 o8 b8 HOB;go_wp2_with fail
          go_roundw
          case rel=>exact ⟨j + 1,A8,n8',c8,by omega,by go_num,rfl,H9.out⟩
          case measure=>simp [intOf];omega
        · have hfull : L3.take j = L3:=List.take_of_length_le (by rw [← HO.out.1];omega)
          rw [hfull,HMS.out] at ob
          have hnb : nc≤180:=by
            have h1:=ob.1;have h2:=encs_len (Ms.headN x.m);have h3:=HHL.out
            omega
          have hkd : decide ((j : Int) < (n9 : Int)) = false:=decide_eq_false (by omega);obtain ⟨w7,rfl⟩ : ∃ w7,w7 = wr:=⟨_,rfl⟩;have kb:=HKB.out.1.below bl hg6;have gb:=HKB.out.2.trans (bl.mono hww)
          have t0 : w7.cell? ⟨g,0,none⟩ = some (.int .i64 3):=by rw [kb.cell,HAT.out.1,HK.out]
          have hb9 : wv.heap.size≤w7.heap.size:=bl.size;clear hfull HKB HO
          have hbody : encs (Ms.headN x.m) = Ms.bodyM x.m:=by show _ = encs (Ms.headN x.m) ++ Ms.tailM x.m;rw [HTM.out,List.append_nil]
          rw [hbody] at ob;have hla : nc = (Ms.bodyM x.m).length:=ob.1;have HOa:=Lib.hid ob;clear ob hbody
          by_cases hlong : nc≤4096
          · have hp : Ms.putM x.m = (Frame.frm (Ms.bodyM x.m),0):=by unfold Ms.putM;rw [if_pos HRR.out,if_pos (by rw [← hla];exact hlong)]
            have HP:=Lib.hid hp;clear hp hla;go_wp2_with fail;refine (Frame.rput_ok _ _ _ (Ms.bodyM x.m) w7.heap.size w7 HOa.out.rd (Nat.le_refl _) hlong).mono ?_;rintro e wf ⟨Af,nf,cf,rfl,of,bf⟩;have gbf:=gb.trans (bf.mono gb.size);have of':=of.mono (base':=w.heap.size) gb.size;clear of bf;go_wp2_with fail;go_ret2;rw [HP.out];exact ⟨Af,nf,cf,rfl,of',gbf⟩
          · exact absurd (show nc≤4096 by omega) hlong
set_option maxHeartbeats 4000000 in
theorem rput17_k4 (x : MgV) (w : World) (h : MgIn w x) (hk : x.m.kind = 4) (hR : Ms.rightM x.m = true) : Calls Try.prog 12 #[.agg x.cs] w (GiveBE w (Ms.putM x.m).1 (Ms.putM x.m).2):=by
  have HAT:=Lib.hid (mgv_at x);have SZ:=Lib.hid x.size
  have HRT:=Lib.hid fun (w' : World) (hb : Below w.heap.size w w')=>rright17_any x w' (h.below hb)
  have HSN:=Lib.hid fun (w' : World)=>rset_any x h.ok.u w'
  have HDP:=Lib.hid fun (w' : World) (hb : Below w.heap.size w w')=>drput_any x.m.u x.A1 x.n1 x.c1 x.m.more w' h.ok.u (h.below hb).ok.more
  have HMB:=Lib.hid fun (w' : World) (hb : Below w.heap.size w w')=>(h.below hb).ok.mem
  have HN3:=Lib.hid (h.ok.mem.1);have hrh:=Ms.right_head hR;have hml:=Ms.members_len hrh.2.2.2.1;have HBD:=Lib.hid (Ms.headN_bd hR);have HHL:=Lib.hid (Ms.headN_len hR);have HRR:=Lib.hid hR;have HTN:=Lib.hid (tail_len h.ok.ev h.ok.es h.ok.u hR);have hasks:=((Ms.right_iff x.m).1 hR).2.2.2
  have hrb : rightB x.m.u x.m.more = true:=by have:=hasks.1;unfold Ms.askSeen at this;rwa [if_pos hk] at this
  have htm : Ms.tailM x.m = encs (putL x.m.u x.m.more):=by unfold Ms.tailM;rw [if_pos hk]
  simp only [hrb,if_true] at HDP
  rw [← htm] at HDP
  have hHN : Ms.headN x.m = [x.m.kind,x.m.frm,x.m.to,(x.n3 : Int)] ++ (x.m.mem.flatMap fun v : Mem=>[v.1,v.2.1,v.2.2]) ++ [x.m.seq] ++ []:=by
    rw [Ms.headN_eq,HN3.out,if_pos (by omega),if_neg (by omega)]
  have HHN:=Lib.hid hHN
  have hn38 : x.n3≤8:=by rw [HN3.out];exact hml
  have HN8:=Lib.hid hn38;rw [hR] at HRT;have HK:=Lib.hid hk;clear h hR hrh hml hn38 hasks hHN hk;clear hrb htm
  generalize hC : x.cs = C at *
  clear hC
  go_enter Try.func12,Try.ntmps12
  go_upto_region 1 with fail
  refine nameW ?_;intro W hW;obtain ⟨g,hg⟩ : ∃ g,g = w.heap.size:=⟨_,rfl⟩;rw [← hg]
  have kb : Blk W g 27 C:=by rw [hW,hg];exact Blk.new w _ _
  have gb : Below w.heap.size w W:=by rw [hW];exact (Below.refl _ _).alloc (Nat.le_refl _) _
  have hge : w.heap.size≤g:=by omega
  clear hW hg
  go_wp2_with ((with_reducible refine wpList_ld rowMg kb SZ.out ?_ ?_);rotate_left;(rfl))
  refine (HRT.out W gb).mono ?_;rintro e w1 ⟨rfl,b1⟩;have kb:=kb.below b1 kb.lt;have gb:=gb.trans (b1.mono gb.size)
  have t0 : w1.cell? ⟨g,0,none⟩ = some (.int .i64 4):=by rw [kb.cell,HAT.out.1,HK.out]
  have t1 : w1.cell? ⟨g,1,none⟩ = some (.int .i64 x.m.frm):=(kb.cell 1).trans HAT.out.2.1;have t2 : w1.cell? ⟨g,2,none⟩ = some (.int .i64 x.m.to):=(kb.cell 2).trans HAT.out.2.2.1;have t15 : w1.cell? ⟨g,15,none⟩ = some (.slice x.A3 x.n3 x.c3):=(kb.cell 15).trans HAT.out.2.2.2.2.2.2.2;clear b1
  go_upto_region 4 with fail
  have o0:=OwnI.made w1 w1.heap.size [4,x.m.frm,x.m.to,(x.n3 : Int)] #[.int .i64 4,.int .i64 x.m.frm,.int .i64 x.m.to,.int .i64 x.n3] 4 rfl rfl (Nat.le_refl _) (by unfold maxLen;omega);have bn : Below w1.heap.size w1 (w1.alloc (.cells #[.int .i64 4,.int .i64 x.m.frm,.int .i64 x.m.to,.int .i64 x.n3] 3)):=(Below.refl _ _).alloc (Nat.le_refl _) _;obtain ⟨D,hD⟩ : ∃ D,D = w1.heap.size:=⟨_,rfl⟩
  have hgD : g < D:=by rw [hD];exact kb.lt
  have k4:=kb.below bn kb.lt;have gb4:=gb.trans (bn.mono gb.size);rw [← hD] at o0 bn ⊢
  have hDs : D≤(w1.alloc (.cells #[.int .i64 4,.int .i64 x.m.frm,.int .i64 x.m.to,.int .i64 x.n3] 3)).heap.size:=by rw [hD];simp
  generalize w1.alloc (.cells #[.int .i64 4,.int .i64 x.m.frm,.int .i64 x.m.to,.int .i64 x.n3] 3) = w4 at *
  have t15 : w4.cell? ⟨g,15,none⟩ = some (.slice x.A3 x.n3 x.c3):=(k4.cell 15).trans HAT.out.2.2.2.2.2.2.2
  have hwD : w.heap.size≤D:=by omega
  have HKB:=Lib.hid (And.intro k4 gb4);have HO0:=Lib.hid o0;clear bn hD o0 t0 t1 t2 kb gb k4 gb4;go_wp2_with fail
  go_loopw [4,30] (fun s i wr=>∃ (k : Nat) (A : Option Addr) (nc cc : Nat),k≤x.n3∧i = .int .i64 (k : Nat)∧s = .slice A nc cc∧OwnI wr D A nc cc ([4,x.m.frm,x.m.to,(x.n3 : Int)] ++ (x.m.mem.take k).flatMap fun v=>[v.1,v.2.1,v.2.2])∧Below D w4 wr) (fun _ i _=>x.n3 - (intOf i).toNat)
  case atStart=>exact ⟨0,_,4,4,by omega,rfl,rfl,by simpa using HO0.out,Below.refl _ _⟩
  case round =>
    obtain ⟨k,A5,n5,c5,hk,rfl,rfl,ho,bk⟩:=hrel;have hm8:=HN8.out
    have hn5 : n5≤28:=by
      rw [ho.1,List.length_append,Ms.trip_len,List.length_take]
      simp only [List.length_cons,List.length_nil]
      omega
    by_cases hlt : k < x.n3
    · have hkl : k < x.m.mem.length:=by rw [← HN3.out];exact hlt
      obtain ⟨ad,hA,q5,q0,q1,q2⟩:=(HMB.out wr (HKB.out.2.trans (bk.mono hwD))).2 k _ (List.getElem?_eq_getElem hkl);have hst:=Ms.trip_snoc x.m.mem hkl
      have hk0 : (0 : Int)≤(k : Int):=by omega
      have hkn : (k : Int) < (x.n3 : Int):=by omega
      have HO5:=Lib.hid ho
      generalize x.m.mem[k] = d at *
      obtain ⟨a1,a2,a3⟩:=d
      simp only at q0 q1 q2 hst
      have HST:=Lib.hid hst;clear hst ho;rw [hA]
      go_upto_region 7 with ((with_reducible refine wpList_st (cs:=#[.int .i64 a1,.int .i64 a2,.int .i64 a3]) rowMb (Blk.new _ _ _) (th_sizeM _ _ _) ?_ (th_oneM _ _ _) ?_ ?_ ?_);(rfl);rotate_left;(rfl);(rfl);intro w7 kq g7 z7)
      have bq : Below wr.heap.size wr w7:=new_below g7;have HO6:=Lib.hid (HO5.out.below bq (Nat.le_refl _));have hDr : D≤wr.heap.size:=Nat.le_trans hDs bk.size;have b7:=bk.trans (bq.mono hDr);have hD7 : D≤w7.heap.size:=Nat.le_trans hDr bq.size;have d0:=kq.cell 0;have d1:=kq.cell 1;have d2:=kq.cell 2;clear g7 z7 bq bk HO5 q5 q0 q1 q2
      go_wp2_with (at_builtin;refine stop ?_)
      unfold Stop
      have ba:=b7.alloc hD7 (.cells #[.int .i64 a1,.int .i64 a2,.int .i64 a3] 3);refine wpList_appI rfl (.tmp 34) (.tmp 41) rfl (by rfl) (HO6.out.alloc _) (by rfl) (RdI.made w7 [a1,a2,a3] _ _ _ rfl) (by simp;omega) (Nat.le_trans hD7 (by simp)) ?_;intro A8 c8 w8 ho8 _ _ b8;have HO8:=Lib.hid ho8;have b9:=ba.trans b8;clear ho8 b8 ba b7;go_wp2_with fail
      go_roundw
      case rel=>exact ⟨k + 1,A8,_,c8,by omega,by go_num,rfl,by rw [HST.out,← List.append_assoc];exact HO8.out,b9⟩
      case measure=>simp [intOf];omega
    · obtain rfl : k = x.n3:=by omega
      have hfull : x.m.mem.take x.n3 = x.m.mem:=List.take_of_length_le (by rw [← HN3.out];omega);rw [hfull] at ho;have hkd : decide ((x.n3 : Int) < (x.n3 : Int)) = false:=decide_eq_false (by omega);have kb:=HKB.out.1.below bk hgD;have gb:=HKB.out.2.trans (bk.mono hwD);have hDr : D≤wr.heap.size:=Nat.le_trans hDs bk.size
      obtain ⟨L1,hL1⟩ : ∃ L1,L1 = [(4 : Int),x.m.frm,x.m.to,(x.n3 : Int)] ++ x.m.mem.flatMap fun v : Mem=>[v.1,v.2.1,v.2.2]:=⟨_,rfl⟩
      rw [← hL1] at ho
      have hh2 : Ms.headN x.m = L1 ++ [x.m.seq] ++ []:=by rw [HHN.out,hL1,HK.out]
      have HHN2:=Lib.hid hh2;obtain ⟨ws,hws⟩ : ∃ ws,ws = wr:=⟨_,rfl⟩
      have t0 : wr.cell? ⟨g,0,none⟩ = some (.int .i64 4):=by rw [kb.cell,HAT.out.1,HK.out]
      have s3 : wr.cell? ⟨g,3,none⟩ = some (.int .i64 x.m.seq):=(kb.cell 3).trans HAT.out.2.2.2.1;have hnn : n5≤28:=hn5;clear hfull hL1 hh2 bk hlt hk HKB HO0 HMB t15 hws hn5
      go_wp2_with (at_builtin;refine stop ?_)
      unfold Stop
      have ba:=(Below.refl D wr).alloc hDr (.cells #[.int .i64 x.m.seq] 3);refine wpList_appI rfl (.tmp 47) (.tmp 50) rfl (by rfl) (ho.alloc _) (by rfl) (RdI.made wr [x.m.seq] _ _ _ rfl) (by simp;omega) (Nat.le_trans hDr (by simp)) ?_;intro wuA wuc wu wuo _ _ wub;have hq : n5 + [x.m.seq].length = (L1 ++ [x.m.seq]).length:=wuo.1;have hq2 : n5 + 1 = (L1 ++ [x.m.seq]).length:=hq;rw [hq] at wuo ⊢;obtain ⟨L2,hL2⟩ : ∃ L2,L2 = L1 ++ [x.m.seq]:=⟨_,rfl⟩;rw [← hL2] at wuo hq2 ⊢
      generalize hn8 : L2.length = n8 at wuo hq2 ⊢
      have hnn : n8≤29:=by omega
      have bb:=ba.trans wub;have kb:=kb.below bb hgD;have gb:=gb.trans (bb.mono hwD);have hDr : D≤wu.heap.size:=Nat.le_trans hDr bb.size;have ho:=wuo
      have t0 : wu.cell? ⟨g,0,none⟩ = some (.int .i64 4):=by rw [kb.cell,HAT.out.1,HK.out]
      have s4 : wu.cell? ⟨g,4,none⟩ = some (.int .i64 x.m.node):=(kb.cell 4).trans HAT.out.2.2.2.2.1;clear ba bb wub wuo hq hn8 hq2
      have hms : L2 = Ms.headN x.m:=by rw [HHN2.out,hL2,List.append_nil]
      have HMS:=Lib.hid hms;have HBD2:=Lib.hid (show ∀ z ∈ L2,0≤z∧z≤1099511627776 by rw [hms];exact HBD.out);have hg6 : g < wu.heap.size:=kb.lt
      have hww : w.heap.size≤wu.heap.size:=by omega
      have HKB:=Lib.hid (And.intro kb gb);have HO:=Lib.hid ho;clear hms HBD HHN HHN2 kb gb ho s4 s3;go_wp2_with fail
      go_loopw [7,67] (fun s i wq=>∃ (j : Nat) (A' : Option Addr) (nc cc : Nat),j≤n8∧i = .int .i64 (j : Nat)∧s = .slice A' nc cc∧OwnB wq wu.heap.size A' nc cc (encs (L2.take j))∧Below wu.heap.size wu wq) (fun _ i _=>n8 - (intOf i).toNat)
      case atStart=>exact ⟨0,none,0,0,by omega,rfl,rfl,OwnB.nil _ _,Below.refl _ _⟩
      case round =>
        obtain ⟨j,A',nc,cc,hj,rfl,rfl,ob,bl⟩:=hrel
        by_cases hjm : j < n8
        · have hjl : j < L2.length:=by rw [← HO.out.1];exact hjm
          obtain ⟨ad,hA7,_,c1⟩:=(HO.out.rd.below bl).at_ hjl;have hxb:=HBD2.out _ (List.getElem_mem hjl);have hes:=encs_snoc L2 hjl;have HES:=Lib.hid hes;have hel:=encs_len (L2.take j)
          have hnb : nc≤600:=by
            have h1:=ob.1;have h2 : (L2.take j).length≤j:=List.length_take_le _ _
            omega
          clear hes hel
          generalize L2[j] = z at *
          obtain ⟨z,rfl⟩:=Int.eq_ofNat_of_zero_le hxb.1;rw [Int.toNat_natCast] at HES
          have hj0 : (0 : Int)≤(j : Int):=by omega
          have hj1 : (j : Int) < (n8 : Int):=by omega
          have HOB:=Lib.hid ob;clear ob;rw [hA7];go_wp2_with fail;refine (rput_ok A' nc cc _ z _ _ HOB.out.rd (Nat.le_refl _) (by omega) (by omega)).mono ?_;rintro e w7 ⟨A8,n8',c8,rfl,o8,b8⟩
          have o9 : OwnB w7 wu.heap.size A8 n8' c8 (encs (L2.take (j + 1))):=by rw [HES.out];exact o8.mono bl.size
          have B9:=bl.trans (b8.mono bl.size);have H9:=Lib.hid (And.intro o9 B9);clear o9 B9 o8 b8 HOB;go_wp2_with fail
          go_roundw
          case rel=>exact ⟨j + 1,A8,n8',c8,by omega,by go_num,rfl,H9.out⟩
          case measure=>simp [intOf];omega
        · have hfull : L2.take j = L2:=List.take_of_length_le (by rw [← HO.out.1];omega)
          rw [hfull,HMS.out] at ob
          have hnb : nc≤180:=by
            have h1:=ob.1;have h2:=encs_len (Ms.headN x.m);have h3:=HHL.out
            omega
          have hkd : decide ((j : Int) < (n8 : Int)) = false:=decide_eq_false (by omega);obtain ⟨w7,rfl⟩ : ∃ w7,w7 = wr:=⟨_,rfl⟩;have kb:=HKB.out.1.below bl hg6;have gb:=HKB.out.2.trans (bl.mono hww)
          have t0 : w7.cell? ⟨g,0,none⟩ = some (.int .i64 4):=by rw [kb.cell,HAT.out.1,HK.out]
          have hb9 : wu.heap.size≤w7.heap.size:=bl.size;clear hfull HKB HO;have HOB:=Lib.hid ob;clear ob
          go_wp2_with ((with_reducible refine wpList_ld rowMg kb SZ.out ?_ ?_);rotate_left;(rfl))
          refine (HSN.out _).mono ?_;rintro e w8 ⟨rfl,b8⟩;have ob8:=HOB.out.below b8 (Nat.le_refl _);have gb8:=gb.trans (b8.mono gb.size);have kb8:=kb.below b8 kb.lt;go_wp2_with fail;refine (HDP.out w8 gb8).mono ?_;rintro e wg ⟨At,nt,ct,rfl,ot,bt⟩;have ob:=ob8.below bt (Nat.le_refl _);have gb:=gb8.trans (bt.mono gb8.size);have kb:=kb8.below bt kb8.lt
          have hb9 : wu.heap.size≤wg.heap.size:=by have:=b8.size;have:=bt.size;omega
          clear b8 bt ob8 gb8 kb8
          have t0 : wg.cell? ⟨g,0,none⟩ = some (.int .i64 4):=by rw [kb.cell,HAT.out.1,HK.out]
          have htl : nt≤10000000:=by rw [ot.1];exact HTN.out
          have HOb:=Lib.hid ob;have HOt:=Lib.hid ot;clear ob ot
          go_wp2_with (at_builtin;refine stop ?_)
          unfold Stop
          refine wpList_appB rfl (.tmp 87) (.tmp 88) rfl (by rfl) HOb.out (by rfl) HOt.out.rd (by omega) hb9 ?_;intro Ac cc' wa oa _ _ ba;have hbody : encs (Ms.headN x.m) ++ Ms.tailM x.m = Ms.bodyM x.m:=rfl;rw [hbody] at oa;have hla : nc + nt = (Ms.bodyM x.m).length:=oa.1;rw [hla] at oa ⊢;have kb:=kb.below ba hg6;have gb:=gb.trans (ba.mono hww)
          have t0 : wa.cell? ⟨g,0,none⟩ = some (.int .i64 4):=by rw [kb.cell,HAT.out.1,HK.out]
          have HOa:=Lib.hid oa;clear ba oa hla
          by_cases hlong : (Ms.bodyM x.m).length≤4096
          · have hp : Ms.putM x.m = (Frame.frm (Ms.bodyM x.m),0):=by unfold Ms.putM;rw [if_pos HRR.out,if_pos (by exact hlong)]
            have HP:=Lib.hid hp;clear hp;go_wp2_with fail;refine (Frame.rput_ok _ _ _ (Ms.bodyM x.m) wa.heap.size wa HOa.out.rd (Nat.le_refl _) hlong).mono ?_;rintro e wf ⟨Af,nf,cf,rfl,of,bf⟩;have gbf:=gb.trans (bf.mono gb.size);have of':=of.mono (base':=w.heap.size) gb.size;clear of bf;go_wp2_with fail;go_ret2;rw [HP.out];exact ⟨Af,nf,cf,rfl,of',gbf⟩
          · have hp : Ms.putM x.m = ([],6):=by unfold Ms.putM;rw [if_pos HRR.out,if_neg (by exact hlong)]
            have HP:=Lib.hid hp;clear hp;go_wp2_with fail;refine (Frame.rput_long _ _ _ wa (by omega)).mono ?_;rintro e wf ⟨rfl,rfl⟩;go_wp2_with fail;go_ret2;rw [HP.out];exact ⟨none,0,0,rfl,OwnB.nil _ _,gb⟩
set_option maxHeartbeats 4000000 in
theorem rput17_k5 (x : MgV) (w : World) (h : MgIn w x) (hk : x.m.kind = 5) (hR : Ms.rightM x.m = true) : Calls Try.prog 12 #[.agg x.cs] w (GiveBE w (Ms.putM x.m).1 (Ms.putM x.m).2):=by
  have HAT:=Lib.hid (mgv_at x);have SZ:=Lib.hid x.size
  have HRT:=Lib.hid fun (w' : World) (hb : Below w.heap.size w w')=>rright17_any x w' (h.below hb)
  have HDP:=Lib.hid fun (w' : World) (hb : Below w.heap.size w w')=>rputAll07_any x.A2 x.n2 x.c2 x.xs w' h.b2 (h.below hb).ok.ev
  have HMB:=Lib.hid fun (w' : World) (hb : Below w.heap.size w w')=>(h.below hb).ok.mem
  have HN3:=Lib.hid (h.ok.mem.1);have hrh:=Ms.right_head hR;have hml:=Ms.members_len hrh.2.2.2.1;have HBD:=Lib.hid (Ms.headN_bd hR);have HHL:=Lib.hid (Ms.headN_len hR);have HRR:=Lib.hid hR;have HTN:=Lib.hid (tail_len h.ok.ev h.ok.es h.ok.u hR);have hasks:=((Ms.right_iff x.m).1 hR).2.2.2
  have hrb : putAllE x.xs = (Ms.tailM x.m,0):=by
    have h5:=hasks.2
    unfold Ms.askEv at h5
    rw [if_pos hk,h.ok.es,Bool.and_eq_true] at h5;have h2:=of_decide_eq_true h5.2;rw [List.length_map] at h2
    unfold putAllE Ms.tailM
    rw [if_neg (by omega),if_pos,if_neg (by omega),if_pos hk,h.ok.es,List.length_map,List.flatMap_map];rw [List.all_eq_true];intro y hy;exact List.all_eq_true.1 h5.1 _ (List.mem_map.2 ⟨y,hy,rfl⟩)
  simp only [hrb] at HDP
  have hHN : Ms.headN x.m = [x.m.kind,x.m.frm,x.m.to,(x.n3 : Int)] ++ (x.m.mem.flatMap fun v : Mem=>[v.1,v.2.1,v.2.2]) ++ [] ++ []:=by
    rw [Ms.headN_eq,HN3.out,if_neg (by omega),if_neg (by omega)]
  have HHN:=Lib.hid hHN
  have hn38 : x.n3≤8:=by rw [HN3.out];exact hml
  have HN8:=Lib.hid hn38;rw [hR] at HRT;have HK:=Lib.hid hk;clear h hR hrh hml hn38 hasks hHN hk;clear hrb
  generalize hC : x.cs = C at *
  clear hC
  go_enter Try.func12,Try.ntmps12
  go_upto_region 1 with fail
  refine nameW ?_;intro W hW;obtain ⟨g,hg⟩ : ∃ g,g = w.heap.size:=⟨_,rfl⟩;rw [← hg]
  have kb : Blk W g 27 C:=by rw [hW,hg];exact Blk.new w _ _
  have gb : Below w.heap.size w W:=by rw [hW];exact (Below.refl _ _).alloc (Nat.le_refl _) _
  have hge : w.heap.size≤g:=by omega
  clear hW hg
  go_wp2_with ((with_reducible refine wpList_ld rowMg kb SZ.out ?_ ?_);rotate_left;(rfl))
  refine (HRT.out W gb).mono ?_;rintro e w1 ⟨rfl,b1⟩;have kb:=kb.below b1 kb.lt;have gb:=gb.trans (b1.mono gb.size)
  have t0 : w1.cell? ⟨g,0,none⟩ = some (.int .i64 5):=by rw [kb.cell,HAT.out.1,HK.out]
  have t1 : w1.cell? ⟨g,1,none⟩ = some (.int .i64 x.m.frm):=(kb.cell 1).trans HAT.out.2.1;have t2 : w1.cell? ⟨g,2,none⟩ = some (.int .i64 x.m.to):=(kb.cell 2).trans HAT.out.2.2.1;have t15 : w1.cell? ⟨g,15,none⟩ = some (.slice x.A3 x.n3 x.c3):=(kb.cell 15).trans HAT.out.2.2.2.2.2.2.2;clear b1
  go_upto_region 4 with fail
  have o0:=OwnI.made w1 w1.heap.size [5,x.m.frm,x.m.to,(x.n3 : Int)] #[.int .i64 5,.int .i64 x.m.frm,.int .i64 x.m.to,.int .i64 x.n3] 4 rfl rfl (Nat.le_refl _) (by unfold maxLen;omega);have bn : Below w1.heap.size w1 (w1.alloc (.cells #[.int .i64 5,.int .i64 x.m.frm,.int .i64 x.m.to,.int .i64 x.n3] 3)):=(Below.refl _ _).alloc (Nat.le_refl _) _;obtain ⟨D,hD⟩ : ∃ D,D = w1.heap.size:=⟨_,rfl⟩
  have hgD : g < D:=by rw [hD];exact kb.lt
  have k4:=kb.below bn kb.lt;have gb4:=gb.trans (bn.mono gb.size);rw [← hD] at o0 bn ⊢
  have hDs : D≤(w1.alloc (.cells #[.int .i64 5,.int .i64 x.m.frm,.int .i64 x.m.to,.int .i64 x.n3] 3)).heap.size:=by rw [hD];simp
  generalize w1.alloc (.cells #[.int .i64 5,.int .i64 x.m.frm,.int .i64 x.m.to,.int .i64 x.n3] 3) = w4 at *
  have t15 : w4.cell? ⟨g,15,none⟩ = some (.slice x.A3 x.n3 x.c3):=(k4.cell 15).trans HAT.out.2.2.2.2.2.2.2
  have hwD : w.heap.size≤D:=by omega
  have HKB:=Lib.hid (And.intro k4 gb4);have HO0:=Lib.hid o0;clear bn hD o0 t0 t1 t2 kb gb k4 gb4;go_wp2_with fail
  go_loopw [4,30] (fun s i wr=>∃ (k : Nat) (A : Option Addr) (nc cc : Nat),k≤x.n3∧i = .int .i64 (k : Nat)∧s = .slice A nc cc∧OwnI wr D A nc cc ([5,x.m.frm,x.m.to,(x.n3 : Int)] ++ (x.m.mem.take k).flatMap fun v=>[v.1,v.2.1,v.2.2])∧Below D w4 wr) (fun _ i _=>x.n3 - (intOf i).toNat)
  case atStart=>exact ⟨0,_,4,4,by omega,rfl,rfl,by simpa using HO0.out,Below.refl _ _⟩
  case round =>
    obtain ⟨k,A5,n5,c5,hk,rfl,rfl,ho,bk⟩:=hrel;have hm8:=HN8.out
    have hn5 : n5≤28:=by
      rw [ho.1,List.length_append,Ms.trip_len,List.length_take]
      simp only [List.length_cons,List.length_nil]
      omega
    by_cases hlt : k < x.n3
    · have hkl : k < x.m.mem.length:=by rw [← HN3.out];exact hlt
      obtain ⟨ad,hA,q5,q0,q1,q2⟩:=(HMB.out wr (HKB.out.2.trans (bk.mono hwD))).2 k _ (List.getElem?_eq_getElem hkl);have hst:=Ms.trip_snoc x.m.mem hkl
      have hk0 : (0 : Int)≤(k : Int):=by omega
      have hkn : (k : Int) < (x.n3 : Int):=by omega
      have HO5:=Lib.hid ho
      generalize x.m.mem[k] = d at *
      obtain ⟨a1,a2,a3⟩:=d
      simp only at q0 q1 q2 hst
      have HST:=Lib.hid hst;clear hst ho;rw [hA]
      go_upto_region 7 with ((with_reducible refine wpList_st (cs:=#[.int .i64 a1,.int .i64 a2,.int .i64 a3]) rowMb (Blk.new _ _ _) (th_sizeM _ _ _) ?_ (th_oneM _ _ _) ?_ ?_ ?_);(rfl);rotate_left;(rfl);(rfl);intro w7 kq g7 z7)
      have bq : Below wr.heap.size wr w7:=new_below g7;have HO6:=Lib.hid (HO5.out.below bq (Nat.le_refl _));have hDr : D≤wr.heap.size:=Nat.le_trans hDs bk.size;have b7:=bk.trans (bq.mono hDr);have hD7 : D≤w7.heap.size:=Nat.le_trans hDr bq.size;have d0:=kq.cell 0;have d1:=kq.cell 1;have d2:=kq.cell 2;clear g7 z7 bq bk HO5 q5 q0 q1 q2
      go_wp2_with (at_builtin;refine stop ?_)
      unfold Stop
      have ba:=b7.alloc hD7 (.cells #[.int .i64 a1,.int .i64 a2,.int .i64 a3] 3);refine wpList_appI rfl (.tmp 34) (.tmp 41) rfl (by rfl) (HO6.out.alloc _) (by rfl) (RdI.made w7 [a1,a2,a3] _ _ _ rfl) (by simp;omega) (Nat.le_trans hD7 (by simp)) ?_;intro A8 c8 w8 ho8 _ _ b8;have HO8:=Lib.hid ho8;have b9:=ba.trans b8;clear ho8 b8 ba b7;go_wp2_with fail
      go_roundw
      case rel=>exact ⟨k + 1,A8,_,c8,by omega,by go_num,rfl,by rw [HST.out,← List.append_assoc];exact HO8.out,b9⟩
      case measure=>simp [intOf];omega
    · obtain rfl : k = x.n3:=by omega
      have hfull : x.m.mem.take x.n3 = x.m.mem:=List.take_of_length_le (by rw [← HN3.out];omega);rw [hfull] at ho;have hkd : decide ((x.n3 : Int) < (x.n3 : Int)) = false:=decide_eq_false (by omega);have kb:=HKB.out.1.below bk hgD;have gb:=HKB.out.2.trans (bk.mono hwD);have hDr : D≤wr.heap.size:=Nat.le_trans hDs bk.size
      obtain ⟨L1,hL1⟩ : ∃ L1,L1 = [(5 : Int),x.m.frm,x.m.to,(x.n3 : Int)] ++ x.m.mem.flatMap fun v : Mem=>[v.1,v.2.1,v.2.2]:=⟨_,rfl⟩
      rw [← hL1] at ho
      have hh2 : Ms.headN x.m = L1 ++ [] ++ []:=by rw [HHN.out,hL1,HK.out]
      have HHN2:=Lib.hid hh2;obtain ⟨ws,hws⟩ : ∃ ws,ws = wr:=⟨_,rfl⟩
      have t0 : wr.cell? ⟨g,0,none⟩ = some (.int .i64 5):=by rw [kb.cell,HAT.out.1,HK.out]
      have s3 : wr.cell? ⟨g,3,none⟩ = some (.int .i64 x.m.seq):=(kb.cell 3).trans HAT.out.2.2.2.1;have hnn : n5≤28:=hn5;clear hfull hL1 hh2 bk hlt hk HKB HO0 HMB t15 hws hn5;obtain ⟨wu,rfl⟩ : ∃ wu,wu = wr:=⟨_,rfl⟩
      have hms : L1 = Ms.headN x.m:=by rw [HHN2.out,List.append_nil,List.append_nil]
      have HMS:=Lib.hid hms;have HBD2:=Lib.hid (show ∀ z ∈ L1,0≤z∧z≤1099511627776 by rw [hms];exact HBD.out);have hg6 : g < wu.heap.size:=kb.lt
      have hww : w.heap.size≤wu.heap.size:=by omega
      have HKB:=Lib.hid (And.intro kb gb);have HO:=Lib.hid ho;clear hms HBD HHN HHN2 kb gb ho s3;go_wp2_with fail
      go_loopw [7,67] (fun s i wq=>∃ (j : Nat) (A' : Option Addr) (nc cc : Nat),j≤n5∧i = .int .i64 (j : Nat)∧s = .slice A' nc cc∧OwnB wq wu.heap.size A' nc cc (encs (L1.take j))∧Below wu.heap.size wu wq) (fun _ i _=>n5 - (intOf i).toNat)
      case atStart=>exact ⟨0,none,0,0,by omega,rfl,rfl,OwnB.nil _ _,Below.refl _ _⟩
      case round =>
        obtain ⟨j,A',nc,cc,hj,rfl,rfl,ob,bl⟩:=hrel
        by_cases hjm : j < n5
        · have hjl : j < L1.length:=by rw [← HO.out.1];exact hjm
          obtain ⟨ad,hA7,_,c1⟩:=(HO.out.rd.below bl).at_ hjl;have hxb:=HBD2.out _ (List.getElem_mem hjl);have hes:=encs_snoc L1 hjl;have HES:=Lib.hid hes;have hel:=encs_len (L1.take j)
          have hnb : nc≤600:=by
            have h1:=ob.1;have h2 : (L1.take j).length≤j:=List.length_take_le _ _
            omega
          clear hes hel
          generalize L1[j] = z at *
          obtain ⟨z,rfl⟩:=Int.eq_ofNat_of_zero_le hxb.1;rw [Int.toNat_natCast] at HES
          have hj0 : (0 : Int)≤(j : Int):=by omega
          have hj1 : (j : Int) < (n5 : Int):=by omega
          have HOB:=Lib.hid ob;clear ob;rw [hA7];go_wp2_with fail;refine (rput_ok A' nc cc _ z _ _ HOB.out.rd (Nat.le_refl _) (by omega) (by omega)).mono ?_;rintro e w7 ⟨A8,n8',c8,rfl,o8,b8⟩
          have o9 : OwnB w7 wu.heap.size A8 n8' c8 (encs (L1.take (j + 1))):=by rw [HES.out];exact o8.mono bl.size
          have B9:=bl.trans (b8.mono bl.size);have H9:=Lib.hid (And.intro o9 B9);clear o9 B9 o8 b8 HOB;go_wp2_with fail
          go_roundw
          case rel=>exact ⟨j + 1,A8,n8',c8,by omega,by go_num,rfl,H9.out⟩
          case measure=>simp [intOf];omega
        · have hfull : L1.take j = L1:=List.take_of_length_le (by rw [← HO.out.1];omega)
          rw [hfull,HMS.out] at ob
          have hnb : nc≤180:=by
            have h1:=ob.1;have h2:=encs_len (Ms.headN x.m);have h3:=HHL.out
            omega
          have hkd : decide ((j : Int) < (n5 : Int)) = false:=decide_eq_false (by omega);obtain ⟨w7,rfl⟩ : ∃ w7,w7 = wr:=⟨_,rfl⟩;have kb:=HKB.out.1.below bl hg6;have gb:=HKB.out.2.trans (bl.mono hww)
          have t0 : w7.cell? ⟨g,0,none⟩ = some (.int .i64 5):=by rw [kb.cell,HAT.out.1,HK.out]
          have hb9 : wu.heap.size≤w7.heap.size:=bl.size;clear hfull HKB HO;have HOB:=Lib.hid ob;have s14 : w7.cell? ⟨g,14,none⟩ = some (.slice x.A2 x.n2 x.c2):=(kb.cell 14).trans HAT.out.2.2.2.2.2.2.1;clear ob;go_wp2_with fail;refine (HDP.out w7 gb).mono ?_;rintro e wg ⟨At,nt,ct,rfl,ot,bt⟩;have ob:=HOB.out.below bt (Nat.le_refl _);have kb:=kb.below bt kb.lt;have gb:=gb.trans (bt.mono gb.size)
          have hb9 : wu.heap.size≤wg.heap.size:=by have:=bt.size;omega
          clear bt
          have t0 : wg.cell? ⟨g,0,none⟩ = some (.int .i64 5):=by rw [kb.cell,HAT.out.1,HK.out]
          have htl : nt≤10000000:=by rw [ot.1];exact HTN.out
          have HOb:=Lib.hid ob;have HOt:=Lib.hid ot;clear ob ot
          go_wp2_with (at_builtin;refine stop ?_)
          unfold Stop
          refine wpList_appB rfl (.tmp 99) (.tmp 100) rfl (by rfl) HOb.out (by rfl) HOt.out.rd (by omega) hb9 ?_;intro Ac cc' wa oa _ _ ba;have hbody : encs (Ms.headN x.m) ++ Ms.tailM x.m = Ms.bodyM x.m:=rfl;rw [hbody] at oa;have hla : nc + nt = (Ms.bodyM x.m).length:=oa.1;rw [hla] at oa ⊢;have kb:=kb.below ba hg6;have gb:=gb.trans (ba.mono hww)
          have t0 : wa.cell? ⟨g,0,none⟩ = some (.int .i64 5):=by rw [kb.cell,HAT.out.1,HK.out]
          have HOa:=Lib.hid oa;clear ba oa hla
          by_cases hlong : (Ms.bodyM x.m).length≤4096
          · have hp : Ms.putM x.m = (Frame.frm (Ms.bodyM x.m),0):=by unfold Ms.putM;rw [if_pos HRR.out,if_pos (by exact hlong)]
            have HP:=Lib.hid hp;clear hp;go_wp2_with fail;refine (Frame.rput_ok _ _ _ (Ms.bodyM x.m) wa.heap.size wa HOa.out.rd (Nat.le_refl _) hlong).mono ?_;rintro e wf ⟨Af,nf,cf,rfl,of,bf⟩;have gbf:=gb.trans (bf.mono gb.size);have of':=of.mono (base':=w.heap.size) gb.size;clear of bf;go_wp2_with fail;go_ret2;rw [HP.out];exact ⟨Af,nf,cf,rfl,of',gbf⟩
          · have hp : Ms.putM x.m = ([],6):=by unfold Ms.putM;rw [if_pos HRR.out,if_neg (by exact hlong)]
            have HP:=Lib.hid hp;clear hp;go_wp2_with fail;refine (Frame.rput_long _ _ _ wa (by omega)).mono ?_;rintro e wf ⟨rfl,rfl⟩;go_wp2_with fail;go_ret2;rw [HP.out];exact ⟨none,0,0,rfl,OwnB.nil _ _,gb⟩
theorem rput17_any (x : MgV) (w : World) (h : MgIn w x) : Calls Try.prog 12 #[.agg x.cs] w (GiveBE w (Ms.putM x.m).1 (Ms.putM x.m).2):=by
  cases hR : Ms.rightM x.m with
  | false=>exact rput17_bad x w h hR
  | true =>
    have hk:=(Ms.right_head hR).1
    obtain h1 | h1 | h1 | h1 | h1 : x.m.kind = 1∨x.m.kind = 2∨x.m.kind = 3∨x.m.kind = 4∨x.m.kind = 5:=by omega
    · exact rput17_k1 x w h h1 hR
    · exact rput17_k2 x w h h1 hR
    · exact rput17_k3 x w h h1 hR
    · exact rput17_k4 x w h h1 hR
    · exact rput17_k5 x w h h1 hR
end Go.Proofs.Ytcgalmnllegnbaa

namespace Go.Proofs.Ytcgalmnllegnbaa
set_option linter.unusedVariables false
set_option linter.unusedSimpArgs false
set_option maxRecDepth 100000
open Go.RowKit
open Dot Evt
open Ms (Mem)
theorem run_slE (A : Option Addr) (n c k : Nat) (hk : k≤n) (w : World) : (Instr.sliceAt 24 (.slice A n c) (some (.int .i64 (k : Nat))) none none).run Try.prog w = .ok (.slice (if c = k then A else A.map (·.add (k * 14))) (n - k) (c - k)) w:=by
  have h1 : (0 : Int)≤(k : Int):=by omega
  have h2 : (k : Int)≤(n : Int):=by omega
  obtain ⟨i0,hi,_,hz1,_⟩:=info_parts infoEv
  simp [Instr.sliceAt,Instr.slice,Instr.sliceBounds,Instr.sliceBound,Sem.run_bind,run_underlying Try.underlying24,sizeOf,typeInfo,hi,hz1,go_sem,hk]
theorem wpList_slE {ops : Array Oper} {rest : List Oper} {d : Option Tmp} {ty : TypeId} {pos : String} {aft : Array Edge} {x y : Operand} {A : Option Addr} {n c k : Nat} {a : Act} {w : World} {Q : Exit→Act→World→Prop} (hk : k≤n)
    (h : wpList Try.prog ops Q rest (a.put d (.slice (if c = k then A else A.map (·.add (k * 14))) (n - k) (c - k))) w) (hx : a.eval x = .slice A n c) (hy : a.eval y = .int .i64 (k : Nat)) : wpList Try.prog ops Q (⟨d,.slice 24 x (some y) none none,ty,pos,aft,none⟩ :: rest) a w:=by
  refine wpList_plain rfl fun K hK=>?_
  unfold Oper.wp execOp
  simp only [hx,hy,Option.map_some,Option.map_none,Sem.run_bind,run_slE A n c k hk,Sem.run_pure,Result.andThen_ok]
  exact hK _ _ h
def sliceLen : Value→Nat
  | .slice _ n _=>n
  | _=>0
theorem Blk.rdMg {w : World} {g : Nat} {T : TypeId} {cs : Array Value} (h : Blk w g T cs) : Rd w (g + 1) (some ⟨g,0,none⟩) cs.toList:=fun j u hu=>⟨_,rfl,Nat.lt_succ_self _,by rw [add_mk,Nat.zero_add,h.cell,← hu];exact (Array.getElem?_toList ..).symm⟩
def yJ (x : MgV) (j : Nat) (AE : Option Addr) (cE : Nat) : MgV:=⟨Ms.evs x.m ((x.xs.drop j).map (·.e)),x.A1,x.n1,x.c1,x.xs.drop j,AE,x.n2 - j,cE,x.A3,x.n3,x.c3⟩
theorem DlIn.right {w : World} {x : MgV} (h : DlIn w x) : Ms.rightM x.m = true:=by
  have:=Ms.delta_right h.d x.m.ev (fun e he=>(h.r e he).2) (by rw [h.ok.ok.es,List.length_map,← h.ok.ok.ev.1];exact h.n768)
  exact this
theorem DlIn.part {w : World} {x : MgV} (h : DlIn w x) {j : Nat} {AE : Option Addr} {cE : Nat} (he : RowEv w w.heap.size AE (x.n2 - j) (x.xs.drop j)) (h1 : x.n2 - j≤cE) (h2 : cE≤maxLen) : DlIn w (yJ x j AE cE):=by
  refine ⟨⟨⟨h.ok.ok.u,h.ok.ok.more,he,rfl,h.ok.ok.mem⟩,h.ok.wu,by show x.n2 - j≤_;have:=h.ok.b2;omega,h.ok.b3⟩,delta_again h.d _,fun e hx=>?_,by show x.n2 - j≤768;have:=h.n768;omega,h1,h2,h.b1,h.b3,fun y hy=>h.hm y (List.mem_of_mem_drop hy)⟩;have hx : e ∈ (x.xs.drop j).map (·.e):=hx;refine h.r e ?_;rw [h.ok.ok.es];rw [List.map_drop] at hx;exact List.mem_of_mem_drop hx
structure SplS (w0 : World) (g : Nat) (x : MgV) (j : Nat) (AE : Option Addr) (cE : Nat) (AO : Option Addr) (cO : Nat) (zs : List MgV) (w : World) : Prop where
  kb : Blk w g 27 (yJ x j AE cE).cs
  gb : Below w0.heap.size w0 w
  hg : w0.heap.size≤g
  le : j≤x.n2
  ev : RowEv w w0.heap.size AE (x.n2 - j) (x.xs.drop j)
  c1 : x.n2 - j≤cE
  c2 : cE≤maxLen
  oO : OwnMg w (g + 1) AO zs.length cO zs
  oz : ∀ z ∈ zs,MgOwn w (g + 1) z
section
variable {w0 w w' w2 : World} {g : Nat} {x : MgV} {j : Nat} {AE AO A' : Option Addr} {cE cO c' : Nat} {zs : List MgV} {z : MgV}
theorem SplS.below (h : SplS w0 g x j AE cE AO cO zs w) (hb : Below w.heap.size w w') : SplS w0 g x j AE cE AO cO zs w' :=
  ⟨h.kb.below hb h.kb.lt,h.gb.trans (hb.mono h.gb.size),h.hg,h.le,h.ev.below (hb.mono h.gb.size),h.c1,h.c2,h.oO.below hb (Nat.le_refl _),fun z hz=>(h.oz z hz).below hb⟩
theorem SplS.app (h : SplS w0 g x j AE cE AO cO zs w) (hz : MgOwn w (g + 1) z) (ho : OwnMg w2 (g + 1) A' (zs.length + 1) c' (zs ++ [z])) (hg : w.grownBy w2 (AO.map (·.block))) (hB : Below (g + 1) w w2) : SplS w0 g x j AE cE A' c' (zs ++ [z]) w2:=by
  have hgg:=h.hg
  have hne : ∀ k,AO.map (·.block) = some k→g + 1≤k:=fun k hk=>(h.oO.lt k hk).1
  refine ⟨h.kb.grown hg (fun e=>by have:=hne g e;omega),h.gb.trans (hB.mono (by omega)),h.hg,h.le,h.ev.below (hB.mono (by omega)),h.c1,h.c2,by rw [List.length_append];exact ho,fun y hy=>?_⟩
  rcases List.mem_append.1 hy with q | q
  · exact (h.oz y q).grownMg h.oO hg
  · rw [List.mem_singleton.1 q];exact hz.grownMg h.oO hg
theorem SplS.dl (h : SplS w0 g x j AE cE AO cO zs w) (hd : DlIn w0 x) : DlIn w (yJ x j AE cE):=(hd.below h.gb).part (h.ev.more h.gb.size) h.c1 h.c2
theorem SplS.next (h : SplS w0 g x j AE cE AO cO zs w) {k : Nat} (hk : j + k≤x.n2) : SplS w0 g x (j + k) (if cE = k then AE else AE.map (·.add (k * 14))) (cE - k) AO cO zs (w.setCell ⟨g,14,none⟩ (.slice (if cE = k then AE else AE.map (·.add (k * 14))) (x.n2 - j - k) (cE - k))):=by
  have hgg:=h.hg;have hc1:=h.c1;have k2:=h.kb.set_ 14 (.slice (if cE = k then AE else AE.map (·.add (k * 14))) (x.n2 - j - k) (cE - k))
  have e : (yJ x j AE cE).cs.setIfInBounds 14 (.slice (if cE = k then AE else AE.map (·.add (k * 14))) (x.n2 - j - k) (cE - k)) = (yJ x (j + k) (if cE = k then AE else AE.map (·.add (k * 14))) (cE - k)).cs:=by
    rw [show x.n2 - j - k = x.n2 - (j + k) by omega]
    rfl
  rw [e] at k2;have hd:=h.ev.drop (A':=if cE = k then AE else AE.map (·.add (k * 14))) (k:=k) (fun hlt=>by rw [if_neg (by omega)]);rw [List.drop_drop,show x.n2 - j - k = x.n2 - (j + k) by omega] at hd;refine ⟨k2,h.gb.setCell (p:=⟨g,14,none⟩) hgg _,h.hg,hk,hd.below ((Below.refl _ _).setCell (p:=⟨g,14,none⟩) hgg _),by omega,by have:=h.c2;omega,h.oO.far (p:=⟨g,14,none⟩) (by show g < g + 1;omega) _,fun z hz=>(h.oz z hz).far (p:=⟨g,14,none⟩) (by show g < g + 1;omega) _⟩
end
def SplEnd (w0 : World) (x : MgV) (mtu : Nat) (A : Option Addr) (c : Nat) (zs : List MgV) (w' : World) : Prop :=
  OwnMg w' w0.heap.size A zs.length c zs∧(∀ z ∈ zs,MgOwn w' w0.heap.size z)∧(∃ ps,zs.map (·.m) = ps.map (Ms.evs x.m)∧Ms.Parts x.m mtu x.m.ev ps)∧Below w0.heap.size w0 w'
theorem fitM_ok {w : World} {x : MgV} (h : DlIn w x) {mtu : Nat} (h1 : 512≤mtu) (h2 : mtu≤4096) : Ms.fitM x.m (mtu : Int) = (Ms.fitN x.m mtu x.m.ev,0):=by
  unfold Ms.fitM
  rw [if_pos ⟨by omega,by omega,h.d.1,h.right⟩]
  rfl
set_option maxHeartbeats 4000000 in
theorem csplit_bad (x : MgV) (mtu : Int) (w0 : World) (h : MgC w0 x) (hf : Ms.fitM x.m mtu = (0,2)) :
    Calls Try.prog 22 #[.agg x.cs,.int .i64 mtu] w0 fun e w'=>e = .returned (.tuple #[.slice none 0 0,.int .i64 2])∧Below w0.heap.size w0 w':=by
  have hfit:=fun (w' : World) (hb : Below w0.heap.size w0 w')=>cfit_any x mtu w' (h.below hb)
  simp only [hf] at hfit
  obtain ⟨C,hC⟩ : ∃ C,C = x.cs:=⟨_,rfl⟩;rw [← hC] at hfit ⊢;have SC:=Lib.hid (show C.size = 16 by rw [hC];rfl);have HF:=Lib.hid hfit;clear hfit h hC hf
  go_enter Try.func22,Try.ntmps22
  go_upto_region 1 with fail
  refine nameW ?_;intro W hW;obtain ⟨g,hg⟩ : ∃ g,g = w0.heap.size:=⟨_,rfl⟩;rw [← hg]
  have kb : Blk W g 27 C:=by rw [hW,hg];exact Blk.new w0 _ _
  have gb : Below w0.heap.size w0 W:=by rw [hW];exact (Below.refl _ _).alloc (Nat.le_refl _) _
  clear hW hg
  go_wp2_with ((with_reducible refine wpList_ld rowMg kb SC.out ?_ ?_);rotate_left;(rfl))
  refine (HF.out W gb).mono ?_;rintro e w1 ⟨rfl,bb⟩;have gb:=gb.trans (bb.mono gb.size);go_wp2_with fail;go_ret2;exact ⟨rfl,gb⟩
set_option maxHeartbeats 8000000 in
theorem csplit_any (x : MgV) (mtu : Nat) (w0 : World) (h : DlIn w0 x) (hc : MgC w0 x) (h1 : 512≤mtu) (h2 : mtu≤4096) :
    Calls Try.prog 22 #[.agg x.cs,.int .i64 (mtu : Nat)] w0 fun e w'=>∃ A c zs,e = .returned (.tuple #[.slice A zs.length c,.int .i64 0])∧SplEnd w0 x mtu A c zs w':=by
  have hfit:=fun (w' : World) (hb : Below w0.heap.size w0 w')=>cfit_any x (mtu : Int) w' (hc.below hb)
  simp only [fitM_ok h h1 h2] at hfit
  have HD:=Lib.hid h;have hnc:=h.nc;have hcm:=h.cm;have hev:=h.ok.ok.ev;have HES:=Lib.hid h.ok.ok.es;have HLE:=Lib.hid h.ok.ok.ev.1;have h768:=h.n768
  have hpo : ∀ j,j < x.n2→0 < Ms.fitN x.m mtu ((x.xs.drop j).map (·.e)):=by
    intro j hj
    have hne : (x.xs.drop j).map (·.e) ≠ []:=by
      intro e
      have:=congrArg List.length e
      rw [List.length_map,List.length_drop,← h.ok.ok.ev.1,List.length_nil] at this
      omega
    have hrr : ∀ e ∈ (x.xs.drop j).map (·.e),e.p.length = 7∧rightE e = true:=by
      intro e he
      have he2 : e ∈ x.m.ev:=by rw [h.ok.ok.es];rw [List.map_drop] at he;exact List.mem_of_mem_drop he
      exact h.r e he2
    generalize (x.xs.drop j).map (·.e) = l at *
    exact Ms.fitN_pos h.d h1 hrr hne
  have HPO:=Lib.hid hpo;clear hpo;have HFL:=Lib.hid (fun (j : Nat)=>(by have:=Ms.fitN_le x.m mtu ((x.xs.drop j).map (·.e));rwa [List.length_map,List.length_drop,← h.ok.ok.ev.1] at this : Ms.fitN x.m mtu ((x.xs.drop j).map (·.e))≤x.n2 - j));obtain ⟨C,hC⟩ : ∃ C,C = x.cs:=⟨_,rfl⟩;rw [← hC] at hfit ⊢;have SC:=Lib.hid (show C.size = 16 by rw [hC];rfl);have HF:=Lib.hid hfit;have HC:=Lib.hid hC;have HMT:=Lib.hid (And.intro h1 h2);clear hfit hC h hc h1
  go_enter Try.func22,Try.ntmps22
  go_upto_region 1 with fail
  refine nameW ?_;intro W hW;obtain ⟨g,hg⟩ : ∃ g,g = w0.heap.size:=⟨_,rfl⟩;rw [← hg]
  have kb : Blk W g 27 C:=by rw [hW,hg];exact Blk.new w0 _ _
  have gb : Below w0.heap.size w0 W:=by rw [hW];exact (Below.refl _ _).alloc (Nat.le_refl _) _
  have hgg : w0.heap.size≤g:=by omega
  clear hW hg
  go_wp2_with ((with_reducible refine wpList_ld rowMg kb SC.out ?_ ?_);rotate_left;(rfl))
  refine (HF.out W gb).mono ?_;rintro e w1 ⟨rfl,bb⟩;have kb:=kb.below bb kb.lt;have gb:=gb.trans (bb.mono gb.size);rw [HC.out] at kb;have S : SplS w0 g x 0 x.A2 x.c2 none 0 [] w1:=⟨kb,gb,hgg,by omega,hev.below gb,hnc,hcm,OwnMg.nil _ _,fun z hz=>by simp at hz⟩
  have hfx : Ms.fitN x.m mtu x.m.ev = Ms.fitN x.m mtu ((x.xs.drop 0).map (·.e)):=by rw [List.drop_zero,← HES.out]
  rw [hfx];clear bb kb gb hev HF hnc hcm hfx;go_wp2_with fail
  go_loopw [4,6] (fun s i wr=>∃ (j : Nat) (AE AO : Option Addr) (cE cO : Nat) (zs : List MgV),s = .slice AO zs.length cO∧i = .int .i64 (Ms.fitN x.m mtu ((x.xs.drop j).map (·.e)) : Nat)∧(∃ done,zs.map (·.m) = done.map (Ms.evs x.m)∧∀ ps,Ms.Parts x.m mtu ((x.xs.drop j).map (·.e)) ps→Ms.Parts x.m mtu x.m.ev (done ++ ps))∧zs.length≤j∧SplS w0 g x j AE cE AO cO zs wr) (fun s _ _=>x.n2 - sliceLen s)
  case atStart=>exact ⟨0,x.A2,none,x.c2,0,[],rfl,rfl,⟨[],rfl,fun ps hp=>by rw [List.drop_zero,← HES.out] at hp;exact hp⟩,by simp,S⟩
  case round =>
  clear S;obtain ⟨j,AE,AO,cE,cO,zs,rfl,rfl,⟨done,hz,hd⟩,hzj,S⟩:=hrel;obtain ⟨rn,hrn⟩ : ∃ rn,rn = x.n2 - j:=⟨_,rfl⟩
  have c14 : wr.cell? ⟨g,14,none⟩ = some (.slice AE rn cE):=by rw [hrn];exact S.kb.cell 14
  obtain ⟨nf,hnf⟩ : ∃ nf,nf = Ms.fitN x.m mtu ((x.xs.drop j).map (·.e)):=⟨_,rfl⟩;rw [← hnf]
  have hn0 : 0 < rn→0 < nf:=fun h=>by rw [hnf];exact HPO.out j (by omega)
  have hnl : nf≤rn:=by rw [hnf,hrn];exact HFL.out j
  have hjl:=S.le;have hnc:=S.c1;have hcm:=S.c2
  unfold maxLen at hcm
  rw [← hrn] at hnc;have HRN:=Lib.hid hrn;have HNF:=Lib.hid hnf;have HDN:=Lib.hid (And.intro hz hd);have HS:=Lib.hid S
  have hrj : rn≤x.n2 - j:=by omega
  clear hnf hrn hz hd S
  by_cases hlt : 0 < rn
  · have hr0 : (0 : Int) < (rn : Int):=by omega
    have hf0 : (0 : Int) < (nf : Int):=by have:=hn0 hlt;omega
    obtain ⟨CY,hCY⟩ : ∃ CY,CY = (yJ x j AE cE).cs:=⟨_,rfl⟩;have HCY:=Lib.hid hCY;have SY:=Lib.hid (show CY.size = 16 by rw [hCY];rfl)
    have HWT:=Lib.hid fun (w : World) (hb : Below wr.heap.size wr w)=>(by
      have hS:=HS.out.below hb;have hdl:=hS.dl HD.out
      have:=with_any (yJ x j AE cE) AE nf cE ((x.xs.drop j).take nf) w hdl.ok (by have:=hdl.ok.ok.ev.take (k:=nf) (by show nf≤x.n2 - j;omega);exact this) (by omega) hdl.b1 (fun y hy=>hdl.hm y (List.mem_of_mem_take hy)) hdl.b3
      rw [← hCY] at this
      exact this.mono (fun e w' ⟨z,e1,e2,e3,e4⟩=>⟨z,e1,e2,e3.mono (show g + 1≤w.heap.size from hS.kb.lt),e4⟩) : Calls Try.prog 62 #[.agg CY,.slice AE nf cE] w fun e w'=>∃ z : MgV,e = .returned (.agg z.cs)∧z.m = Ms.evs x.m (((x.xs.drop j).take nf).map (·.e))∧MgOwn w' (g + 1) z∧Below w.heap.size w w')
    have kb0:=HS.out.kb;rw [← hCY] at kb0;have hlg : g < wr.heap.size:=kb0.lt;clear hCY
    go_upto_region 5 with fail
    refine wp_region_tailF 7 8 (fun L v w=>v 2 = .pointer (some ⟨g,0,none⟩)∧v 4 = .slice AO zs.length cO∧v 6 = .int .i64 (nf : Nat)∧Below wr.heap.size wr w∧(L 0 = true→v 24 = .slice AO zs.length cO)∧(L 1 = true→v 25 = .agg CY)∧(L 2 = true→v 26 = .pointer (some ⟨g,14,none⟩))∧(L 3 = true→v 27 = .slice AE rn cE)∧(L 4 = true→v 28 = .int .i64 (nf : Nat))∧(L 5 = true→v 29 = .slice AE nf cE)∧(L 6 = true→(∃ z : MgV,v 30 = .agg z.cs∧z.m = Ms.evs x.m (((x.xs.drop j).take nf).map (·.e))∧MgOwn w (g + 1) z))∧(L 7 = true→(∃ (z : MgV) (gB : Nat),v 31 = .slice (some ⟨gB,0,none⟩) 1 1∧z.m = Ms.evs x.m (((x.xs.drop j).take nf).map (·.e))∧MgOwn w (g + 1) z∧Blk w gB 27 z.cs))) [24,25,26,27,28,29,30,31] (by kernel_rfl) (by kernel_rfl) (by kernel_rfl) (by kernel_rfl) (by kernel_rfl) (by kernel_rfl) ?h0 ?hst ?hend
    case h0 =>
      intro L h0;have h0 : ∀ i,i < 8→L i = false:=h0;exact ⟨rfl,rfl,rfl,(Below.refl _ _).drew,offF h0 (i:=0) (by decide),offF h0 (i:=1) (by decide),offF h0 (i:=2) (by decide),offF h0 (i:=3) (by decide),offF h0 (i:=4) (by decide),offF h0 (i:=5) (by decide),offF h0 (i:=6) (by decide),offF h0 (i:=7) (by decide)⟩
    case hst =>
      show FactSteps _ _ _ _ [0,1,2,3,4,5,6,7]
      refine @FactSteps.cons _ _ _ _ 0 _ [] _ rfl (by kernel_rfl) ?s0 ?_;rotate_left;refine @FactSteps.cons _ _ _ _ 1 _ [] _ rfl (by kernel_rfl) ?s1 ?_;rotate_left;refine @FactSteps.cons _ _ _ _ 2 _ [] _ rfl (by kernel_rfl) ?s2 ?_;rotate_left;refine @FactSteps.cons _ _ _ _ 3 _ [2] _ rfl (by kernel_rfl) ?s3 ?_;rotate_left;refine @FactSteps.cons _ _ _ _ 4 _ [] _ rfl (by kernel_rfl) ?s4 ?_;rotate_left;refine @FactSteps.cons _ _ _ _ 5 _ [3,4] _ rfl (by kernel_rfl) ?s5 ?_;rotate_left;refine @FactSteps.cons _ _ _ _ 6 _ [1,5] _ rfl (by kernel_rfl) ?s6 ?_;rotate_left;refine @FactSteps.cons _ _ _ _ 7 _ [6] _ rfl (by kernel_rfl) ?s7 ?_;rotate_left;exact FactSteps.nil
      case s0 =>
        rintro L a v w hv hg hL hd hcl ⟨e2,e4,e6,hb,f0,f1,f2,f3,f4,f5,f6,f7⟩ K hK;refine step_do rfl ?_;clear hv;go_simp;exact hK.out _ _ ⟨e2,e4,e6,hb,fun _=>rfl,f1,f2,f3,f4,f5,f6,f7⟩
      case s1 =>
        rintro L a v w hv hg hL hd hcl ⟨e2,e4,e6,hb,f0,f1,f2,f3,f4,f5,f6,f7⟩ K hK;refine step_do rfl ?_;refine wp_ld rowMg (.tmp 2) rfl ((hv 2).trans e2) (kb0.below hb kb0.lt) SY.out ?_;exact hK.out _ _ ⟨e2,e4,e6,hb,f0,fun _=>rfl,f2,f3,f4,f5,f6,f7⟩
      case s2 =>
        rintro L a v w hv hg hL hd hcl ⟨e2,e4,e6,hb,f0,f1,f2,f3,f4,f5,f6,f7⟩ K hK;refine step_do rfl ?_;clear hv;go_simp;exact hK.out _ _ ⟨e2,e4,e6,hb,f0,f1,fun _=>rfl,f3,f4,f5,f6,f7⟩
      case s3 =>
        rintro L a v w hv hg hL hd hcl ⟨e2,e4,e6,hb,f0,f1,f2,f3,f4,f5,f6,f7⟩ K hK;have g2:=f2 (hd 2 (by decide));have cs : w.cell? ⟨g,14,none⟩ = some (.slice AE rn cE):=(hb.cell (p:=⟨g,14,none⟩) hlg).trans c14;refine step_do rfl ?_;clear hv;go_simp;exact hK.out _ _ ⟨e2,e4,e6,hb,f0,f1,f2,fun _=>rfl,f4,f5,f6,f7⟩
      case s4 =>
        rintro L a v w hv hg hL hd hcl ⟨e2,e4,e6,hb,f0,f1,f2,f3,f4,f5,f6,f7⟩ K hK;refine step_do rfl ?_;clear hv;go_simp;exact hK.out _ _ ⟨e2,e4,e6,hb,f0,f1,f2,f3,fun _=>rfl,f5,f6,f7⟩
      case s5 =>
        rintro L a v w hv hg hL hd hcl ⟨e2,e4,e6,hb,f0,f1,f2,f3,f4,f5,f6,f7⟩ K hK;have g3:=f3 (hd 3 (by decide));have g4:=f4 (hd 4 (by decide));have g3:=f3 (hd 3 (by decide));have g4:=f4 (hd 4 (by decide))
        have p0 : (0 : Int)≤(nf : Int):=by omega
        have p3 : (nf : Int)≤(cE : Int):=by omega
        have p4 : nf≤cE:=by omega
        refine step_do rfl ?_;clear hv;go_simp;exact hK.out _ _ ⟨e2,e4,e6,hb,f0,f1,f2,f3,f4,fun _=>rfl,f6,f7⟩
      case s6 =>
        rintro L a v w hv hg hL hd hcl ⟨e2,e4,e6,hb,f0,f1,f2,f3,f4,f5,f6,f7⟩ K hK;have g1:=f1 (hd 1 (by decide));have g5:=f5 (hd 5 (by decide));have hwt:=HWT.out w hb;refine step_do rfl ?_;clear hv;go_simp;refine hwt.mono ?_;rintro e wy ⟨z,rfl,hz,oz,bb⟩;exact hK.out _ _ ⟨e2,e4,e6,(hb.trans (bb.mono hb.size)),f0,f1,f2,f3,f4,f5,fun _=>⟨z,rfl,hz,oz⟩,(fun h=>(by obtain ⟨z,gB,e,hz,o,k⟩:=f7 h;exact ⟨z,gB,e,hz,o.below bb,k.below bb k.lt⟩))⟩
      case s7 =>
        rintro L a v w hv hg hL hd hcl ⟨e2,e4,e6,hb,f0,f1,f2,f3,f4,f5,f6,f7⟩ K hK;obtain ⟨z,q6,hz,oz⟩:=f6 (hd 6 (by decide));have q6:=(hv 30).trans q6;have bb : Below w.heap.size w (w.alloc (.cells z.cs 27)):=(Below.refl _ _).alloc (Nat.le_refl _) _;refine step_do rfl ?_;refine step_bs (v:=.slice (some ⟨w.heap.size,0,none⟩) 1 1) (w':=w.alloc (.cells z.cs 27)) 52 1 #[(0,.tmp 30)] rfl (by simp only [List.map_toArray,List.map_cons,List.map_nil,q6];exact buildMg1 z w) ?_;exact hK.out _ _ ⟨e2,e4,e6,(hb.trans (bb.mono hb.size)),f0,f1,f2,f3,f4,f5,(fun h=>(by obtain ⟨z,e,hz,o⟩:=f6 h;exact ⟨z,e,hz,o.below bb⟩)),fun _=>⟨z,w.heap.size,rfl,hz,oz.below bb,Blk.new w _ _⟩⟩
    case hend =>
    rintro L v w5 hall ⟨e2,e4,e6,hb,f0,f1,f2,f3,f4,f5,f6,f7⟩;have hL : ∀ i,i < 8→L i = true:=hall;have f0:=f0 (hL 0 (by decide));have f1:=f1 (hL 1 (by decide));have f2:=f2 (hL 2 (by decide));have f3:=f3 (hL 3 (by decide));have f4:=f4 (hL 4 (by decide));have f5:=f5 (hL 5 (by decide));have f6:=f6 (hL 6 (by decide));have f7:=f7 (hL 7 (by decide));obtain ⟨z,gB,q7,hz,oz,kz⟩:=f7;obtain ⟨z6,q6,_⟩:=f6
    simp only [finA,List.foldl_cons,List.foldl_nil,Act.put,List.setIfInBounds_toArray,List.set_cons_succ,List.set_cons_zero,f0,f1,f2,f3,f4,f5,q6,q7]
    have S5:=HS.out.below hb;clear e2 e4 e6 f0 f1 f2 f3 f4 f5 hL hall hb
    show wpList _ _ _ [_,_] _ _
    have HO:=Lib.hid S5.oO;have HR7:=Lib.hid kz.rdMg;have hlb:=kz.lt;have hg5 : g + 1≤w5.heap.size:=S5.kb.lt
    have hz9 : zs.length≤768:=by omega
    have HZ:=Lib.hid (And.intro hz oz);have HS5:=Lib.hid S5;have kb5:=S5.kb;rw [← HCY.out] at kb5;clear hz oz S5 kz HWT c14 kb0 q6 q7
    go_upto_region 6 with (at_builtin;refine wpList_appMg rfl (.tmp 24) (.tmp 31) rfl rfl HO.out rfl (news:=[z]) (B:=gB + 1) ?hd1 rfl ?hd2 ?hd3 ?_)
    case hd1=>rw [show mgsL [z] = z.cs.toList by simp [mgsL]];exact HR7.out
    case hd2=>omega
    case hd3=>exact hg5
    intro A9 c9 w9 o9 g9 m9 b9;have S9:=HS5.out.app HZ.out.2 o9 g9 b9
    have c14 : w9.cell? ⟨g,14,none⟩ = some (.slice AE rn cE):=by rw [HRN.out];exact S9.kb.cell 14
    have f14:=S9.kb.free 14;have hlg9:=S9.kb.lt;obtain ⟨A10,hA10⟩ : ∃ A10,A10 = (if cE = nf then AE else AE.map (·.add (nf * 14))):=⟨_,rfl⟩;have S10:=S9.next (k:=nf) (by omega);rw [← hA10,← HRN.out] at S10;have HA:=Lib.hid hA10;have HS10:=Lib.hid S10;clear o9 g9 m9 b9 S9 S10 HS5 HO HR7 hA10 kb5
    go_upto_region 7 with ((with_reducible refine wpList_slE (A:=AE) (n:=rn) (c:=cE) (k:=nf) hnl ?_ ?_ ?_);rotate_left;(rfl);(rfl);rw [← HA.out])
    have HL9:=Lib.hid (show zs.length≤j∧j < x.n2 by omega);obtain ⟨w10,hw10⟩ : ∃ w10,w10 = w9.setCell ⟨g,14,none⟩ (.slice A10 (rn - nf) (cE - nf)):=⟨_,rfl⟩;have S10:=HS10.out;rw [← hw10] at S10 ⊢;have hfit:=fit_any (yJ x (j + nf) A10 (cE - nf)) mtu w10 (S10.dl HD.out) HMT.out.2;have kb10:=S10.kb;obtain ⟨C10,hC10⟩ : ∃ C10,C10 = (yJ x (j + nf) A10 (cE - nf)).cs:=⟨_,rfl⟩;have S10C:=Lib.hid (show C10.size = 16 by rw [hC10];rfl);rw [← hC10] at hfit kb10
    have hfit : Calls Try.prog 63 #[.agg C10,.int .i64 (mtu : Nat)] w10 fun e w'=>e = .returned (.int .i64 (Ms.fitN x.m mtu ((x.xs.drop (j + nf)).map (·.e)) : Nat))∧Below w10.heap.size w10 w':=hfit
    obtain ⟨nf2,hnf2⟩ : ∃ nf2,nf2 = Ms.fitN x.m mtu ((x.xs.drop (j + nf)).map (·.e)):=⟨_,rfl⟩;rw [← hnf2] at hfit;have HFIT:=Lib.hid hfit;have HN2:=Lib.hid hnf2;have HS11:=Lib.hid S10;clear hfit hC10 hw10 S10 HS10 hnf2 HA c14 f14 hlg9
    go_wp2_with ((with_reducible refine wpList_ld rowMg kb10 S10C.out ?_ ?_);rotate_left;(rfl))
    refine HFIT.out.mono ?_;rintro e w11 ⟨rfl,b11⟩;have S11:=HS11.out.below b11;have HS12:=Lib.hid S11;clear b11 S11 HS11 HFIT kb10;go_wp2_with fail
    go_roundw
    case rel =>
      refine ⟨j + nf,A10,A9,cE - nf,c9,zs ++ [z],by rw [List.length_append];rfl,by rw [HN2.out],⟨done ++ [((x.xs.drop j).take nf).map (·.e)],by rw [List.map_append,List.map_append,HDN.out.1,List.map_cons,List.map_nil,List.map_cons,List.map_nil,HZ.out.1],fun ps hp=>?_⟩,by rw [List.length_append];have:=HL9.out;have:=hn0 hlt;simp;omega,HS12.out⟩
      have:=Ms.Parts.step HDN.out.2 (fun e=>by
        have e:=congrArg List.length e;rw [List.length_map,List.length_drop,← HLE.out] at e
        have:=HL9.out
        simp at e
        omega) ps (by rw [← HNF.out,← List.map_drop,List.drop_drop];exact hp)
      rw [← HNF.out,← List.map_take] at this;exact this
    case measure=>simp [sliceLen];have:=HL9.out;omega
  obtain rfl : rn = 0:=by omega
  have hr0 : ¬ (0 : Int) < ((0 : Nat) : Int):=by omega
  have hxd : x.xs.drop j = []:=List.drop_eq_nil_of_le (by rw [← HLE.out];have:=HRN.out;omega);have hfin:=HDN.out.2 [] (by rw [hxd];rfl);rw [List.append_nil] at hfin;have HFIN:=Lib.hid hfin;clear hfin hxd hnl hn0 hrj;go_wp2_with fail;go_ret2;have hgg:=HS.out.hg;exact ⟨AO,cO,zs,rfl,HS.out.oO.mono (by omega),fun z hz=>(HS.out.oz z hz).mono (by omega),⟨done,HDN.out.1,HFIN.out⟩,HS.out.gb⟩
end Go.Proofs.Ytcgalmnllegnbaa

namespace Go.Proofs.Ytcgalmnllegnbaa
set_option linter.unusedVariables false
set_option linter.unusedSimpArgs false
set_option maxRecDepth 100000
open Go.RowKit
open Dot Evt
open Ms (Mem)
set_option maxHeartbeats 8000000 in
theorem rfit_any (x : MgV) (mtu : Int) (w0 : World) (h : MgC w0 x) (b2 : x.n2≤100000) :
    Calls Try.prog 25 #[.agg x.cs,.int .i64 mtu] w0 fun e w'=>e = .returned (.tuple #[.int .i64 ((Ms.fitM x.m mtu).1 : Nat),.int .i64 ((Ms.fitM x.m mtu).2 : Nat)])∧Below w0.heap.size w0 w':=by
  have HH:=Lib.hid fun (w' : World) (hb : Below w0.heap.size w0 w')=>h.below hb
  have HAT:=Lib.hid (mgv_at x);have HLE:=Lib.hid (show x.m.ev.length = x.n2 by rw [h.ok.ok.es,List.length_map,← h.ok.ok.ev.1]);have HES:=Lib.hid h.ok.ok.es;have hnc:=h.nc;have hcm:=h.cm
  unfold maxLen at hcm
  obtain ⟨C,hC⟩ : ∃ C,C = x.cs:=⟨_,rfl⟩
  have HRX:=Lib.hid fun (w' : World) (hb : Below w0.heap.size w0 w')=>(by have:=rright17_any x w' (h.below hb).ok;rw [← hC] at this;exact this : Calls Try.prog 15 #[.agg C] w' fun e w''=>e = .returned (.bool (Ms.rightM x.m))∧Below w'.heap.size w' w'')
  rw [← hC] at HAT ⊢;have SC:=Lib.hid (show C.size = 16 by rw [hC];rfl);have HC:=Lib.hid hC;obtain ⟨F1,hF1⟩ : ∃ F1,F1 = (Ms.fitM x.m mtu).1:=⟨_,rfl⟩;obtain ⟨F2,hF2⟩ : ∃ F2,F2 = (Ms.fitM x.m mtu).2:=⟨_,rfl⟩;rw [← hF1,← hF2];have HF:=Lib.hid (And.intro hF1 hF2);clear h hC hF1 hF2
  go_enter Try.func25,Try.ntmps25
  go_upto_region 1 with fail
  refine nameW ?_;intro W hW;obtain ⟨g,hg⟩ : ∃ g,g = w0.heap.size:=⟨_,rfl⟩;rw [← hg]
  have kb : Blk W g 27 C:=by rw [hW,hg];exact Blk.new w0 _ _
  have gb : Below w0.heap.size w0 W:=by rw [hW];exact (Below.refl _ _).alloc (Nat.le_refl _) _
  have c0 : W.cell? ⟨g,0,none⟩ = some (.int .i64 x.m.kind):=(kb.cell 0).trans HAT.out.1;clear hW hg
  by_cases hlo : mtu < 512
  · have hf : F1 = 0∧F2 = 2:=by rw [HF.out.1,HF.out.2];unfold Ms.fitM;rw [if_neg (by omega)];exact ⟨rfl,rfl⟩
    obtain ⟨rfl,rfl⟩:=hf;go_wp2_with fail;go_ret2;exact ⟨rfl,gb⟩
  by_cases hhi : 4096 < mtu
  · have hf : F1 = 0∧F2 = 2:=by rw [HF.out.1,HF.out.2];unfold Ms.fitM;rw [if_neg (by omega)];exact ⟨rfl,rfl⟩
    obtain ⟨rfl,rfl⟩:=hf;go_wp2_with fail;go_ret2;exact ⟨rfl,gb⟩
  by_cases hk : x.m.kind = 5
  case neg =>
    have hkq : (x.m.kind != 5) = true:=by rw [bne_iff_ne];exact hk
    have hf : F1 = 0∧F2 = 2:=by rw [HF.out.1,HF.out.2];unfold Ms.fitM;rw [if_neg (fun h=>hk h.2.2.1)];exact ⟨rfl,rfl⟩
    obtain ⟨rfl,rfl⟩:=hf;go_wp2_with fail;go_ret2;exact ⟨rfl,gb⟩
  rw [hk] at c0;obtain ⟨R,hR⟩ : ∃ R,R = Ms.rightM x.m:=⟨_,rfl⟩;have hr2:=HRX.out W gb;rw [← hR] at hr2;have HR2:=Lib.hid hr2;have HR:=Lib.hid hR;have HK:=Lib.hid hk;clear hr2 hR hk
  go_wp2_with ((with_reducible refine wpList_ldg rowMg kb SC.out ?_ ?_ ?_);rotate_left;(rfl);(rfl))
  refine HR2.out.mono ?_;rintro e w2 ⟨rfl,bb⟩;have kb:=kb.below bb kb.lt;have gb:=gb.trans (bb.mono gb.size);clear bb HR2 c0
  cases R
  case false =>
    have hf : F1 = 0∧F2 = 2:=by rw [HF.out.1,HF.out.2];unfold Ms.fitM;rw [if_neg (fun h=>by rw [h.2.2.2] at HR;have:=HR.out;cases this)];exact ⟨rfl,rfl⟩
    obtain ⟨rfl,rfl⟩:=hf;go_wp2_with fail;go_ret2;exact ⟨rfl,gb⟩
  obtain ⟨mt,hmt⟩ : ∃ mt : Nat,mtu = (mt : Int):=⟨mtu.toNat,by omega⟩;subst hmt
  have hf : F1 = Ms.fitN x.m mt x.m.ev∧F2 = 0:=by
    rw [HF.out.1,HF.out.2]
    unfold Ms.fitM
    rw [if_pos ⟨by omega,by omega,HK.out,HR.out.symm⟩];exact ⟨rfl,rfl⟩
  obtain ⟨hFN,rfl⟩:=hf;have HFN:=Lib.hid hFN
  have hmt9 : mt≤4096:=by omega
  have HIN:=Lib.hid fun (w' : World) (hb : Below w0.heap.size w0 w')=>(HH.out w' hb).dl HK.out HR.out.symm
  have hn768:=(HIN.out w2 gb).n768
  have HEV:=Lib.hid fun (w' : World) (hb : Below w0.heap.size w0 w')=>(HIN.out w' hb).ok.ok.ev
  have hlg : g < w2.heap.size:=kb.lt;clear hFN hlo hhi HF HRX;go_wp2_with fail;have HGB:=Lib.hid gb
  go_loopw [6,7,8,9] (fun n k _ _ wr=>∃ q : Nat,q≤x.n2∧n = .int .i64 (q : Nat)∧k = .int .i64 ((q + 1 : Nat) : Int)∧(∀ j,j < q→Ms.fits x.m mt (x.m.ev.take (j + 1)) = true)∧Below w2.heap.size w2 wr) (fun _ k _ _ _=>x.n2 + 1 - (intOf k).toNat)
  case atStart=>exact ⟨0,Nat.zero_le _,rfl,rfl,fun j hj=>by omega,Below.refl _ _⟩
  case round =>
  obtain ⟨q,hq,rfl,rfl,hfs,bw⟩:=hrel;have HFS:=Lib.hid hfs;have gbr:=HGB.out.trans (bw.mono HGB.out.size);have kbr:=kb.below bw kb.lt;have c14 : wr.cell? ⟨g,14,none⟩ = some (.slice x.A2 x.n2 x.c2):=(kbr.cell 14).trans HAT.out.2.2.2.2.2.2.1;obtain ⟨q1,hq1⟩ : ∃ q1,q1 = q + 1:=⟨_,rfl⟩;rw [← hq1];clear hfs
  by_cases hlt : q < x.n2
  case neg =>
    have hle : ¬ (q1 : Int)≤(x.n2 : Int):=by omega
    have hfin : F1 = q:=by rw [HFN.out];exact Ms.fitN_of (by rw [HLE.out];exact hq) HFS.out (fun h=>by rw [HLE.out] at h;omega)
    have HFIN:=Lib.hid hfin;clear hfin;go_wp2_with fail;go_ret2;exact ⟨by rw [HFIN.out];rfl,gbr⟩
  have hle : (q1 : Int)≤(x.n2 : Int):=by omega
  have hdl:=HIN.out wr gbr
  have hlr : ∀ e ∈ x.m.ev.take (q + 1),rightE e = true:=fun e he=>(hdl.r e (List.mem_of_mem_take he)).2
  have hln : (x.m.ev.take (q + 1)).length≤768:=by rw [List.length_take];omega
  have hf:=Ms.fits_put hdl.d (mtu:=mt) _ hlr hln;have HPF:=Lib.hid hf;have HRG:=Lib.hid (Ms.delta_right hdl.d _ hlr hln)
  have HWT:=Lib.hid fun (w : World) (hb : Below wr.heap.size wr w)=>(by
    have gw:=gbr.trans (hb.mono gbr.size);have hd2:=HIN.out w gw
    have:=rwith_any x x.A2 q1 x.c2 (x.xs.take q1) w (HH.out w gw) b2 (hd2.ok.ok.ev.take (by omega)) (by omega) (fun y hy=>hd2.hm y (List.mem_of_mem_take hy))
    rw [← HC.out] at this
    exact this : Calls Try.prog 64 #[.agg C,.slice x.A2 q1 x.c2] w fun e w'=>∃ z : MgV,e = .returned (.agg z.cs)∧z.m = Ms.evs x.m ((x.xs.take q1).map (·.e))∧MgOwn w' w.heap.size z∧MgC w' z∧z.n2 = q1∧Below w.heap.size w w')
  have hes : (x.xs.take q1).map (·.e) = x.m.ev.take (q + 1):=by rw [HES.out,List.map_take,hq1]
  rw [hes] at HWT;obtain ⟨PB,hPB⟩ : ∃ PB,PB = (Ms.putM (Ms.evs x.m (x.m.ev.take (q + 1)))).1.length:=⟨_,rfl⟩;obtain ⟨PE,hPE⟩ : ∃ PE,PE = (Ms.putM (Ms.evs x.m (x.m.ev.take (q + 1)))).2:=⟨_,rfl⟩;have HPB:=Lib.hid hPB;have HPE:=Lib.hid hPE;have HQ1:=Lib.hid hq1
  have hqc : q1≤x.c2:=by omega
  have hlgr : g < wr.heap.size:=kbr.lt;clear hf hes hlr hln hPB hPE hdl hq1
  go_upto_region 7 with fail
  refine wp_region_tailF 10 11 (fun L v w=>v 2 = .pointer (some ⟨g,0,none⟩)∧v 7 = .int .i64 (q1 : Nat)∧Below wr.heap.size wr w∧(L 0 = true→v 34 = .agg C)∧(L 1 = true→v 35 = .pointer (some ⟨g,14,none⟩))∧(L 2 = true→v 36 = .slice x.A2 x.n2 x.c2)∧(L 3 = true→v 37 = .int .i64 (q1 : Nat))∧(L 4 = true→v 38 = .slice x.A2 q1 x.c2)∧(L 5 = true→(∃ z : MgV,v 39 = .agg z.cs∧z.m = Ms.evs x.m (x.m.ev.take (q + 1))∧MgIn w z))∧(L 6 = true→(∃ Ap cp,v 40 = .tuple #[.slice Ap PB cp,.int .i64 (PE : Nat)]))∧(L 7 = true→(∃ Ap cp,v 33 = .tuple #[.slice Ap PB cp,.int .i64 (PE : Nat)]))∧(L 8 = true→(∃ Ap cp,v 41 = .slice Ap PB cp))∧(L 9 = true→v 42 = .int .i64 (PE : Nat))∧(L 10 = true→(∃ Ap cp,v 8 = .slice Ap PB cp))) [34,35,36,37,38,39,40,33,41,42,8] (by kernel_rfl) (by kernel_rfl) (by kernel_rfl) (by kernel_rfl) (by kernel_rfl) (by kernel_rfl) ?h0 ?hst ?hend
  case h0 =>
    intro L h0;have h0 : ∀ i,i < 11→L i = false:=h0;exact ⟨rfl,rfl,(Below.refl _ _).drew,offF h0 (i:=0) (by decide),offF h0 (i:=1) (by decide),offF h0 (i:=2) (by decide),offF h0 (i:=3) (by decide),offF h0 (i:=4) (by decide),offF h0 (i:=5) (by decide),offF h0 (i:=6) (by decide),offF h0 (i:=7) (by decide),offF h0 (i:=8) (by decide),offF h0 (i:=9) (by decide),offF h0 (i:=10) (by decide)⟩
  case hst =>
    show FactSteps _ _ _ _ [0,1,2,3,4,5,6,7,8,9,10]
    refine @FactSteps.cons _ _ _ _ 0 _ [] _ rfl (by kernel_rfl) ?s0 ?_;rotate_left;refine @FactSteps.cons _ _ _ _ 1 _ [] _ rfl (by kernel_rfl) ?s1 ?_;rotate_left;refine @FactSteps.cons _ _ _ _ 2 _ [1] _ rfl (by kernel_rfl) ?s2 ?_;rotate_left;refine @FactSteps.cons _ _ _ _ 3 _ [] _ rfl (by kernel_rfl) ?s3 ?_;rotate_left;refine @FactSteps.cons _ _ _ _ 4 _ [2,3] _ rfl (by kernel_rfl) ?s4 ?_;rotate_left;refine @FactSteps.cons _ _ _ _ 5 _ [0,4] _ rfl (by kernel_rfl) ?s5 ?_;rotate_left;refine @FactSteps.cons _ _ _ _ 6 _ [5,5] _ rfl (by kernel_rfl) ?s6 ?_;rotate_left;refine @FactSteps.cons _ _ _ _ 7 _ [6] _ rfl (by kernel_rfl) ?s7 ?_;rotate_left;refine @FactSteps.cons _ _ _ _ 8 _ [7] _ rfl (by kernel_rfl) ?s8 ?_;rotate_left;refine @FactSteps.cons _ _ _ _ 9 _ [7] _ rfl (by kernel_rfl) ?s9 ?_;rotate_left;refine @FactSteps.cons _ _ _ _ 10 _ [8,6,0,1,2,3,4,5,6,7,8] _ rfl (by kernel_rfl) ?s10 ?_;rotate_left;exact FactSteps.nil
    case s0 =>
      rintro L a v w hv hg hL hd hcl ⟨e2,e7,hb,f0,f1,f2,f3,f4,f5,f6,f7,f8,f9,f10⟩ K hK;refine step_do rfl ?_;refine wp_ld rowMg (.tmp 2) rfl ((hv 2).trans e2) (kbr.below hb kbr.lt) SC.out ?_;exact hK.out _ _ ⟨e2,e7,hb,fun _=>rfl,f1,f2,f3,f4,f5,f6,f7,f8,f9,f10⟩
    case s1 =>
      rintro L a v w hv hg hL hd hcl ⟨e2,e7,hb,f0,f1,f2,f3,f4,f5,f6,f7,f8,f9,f10⟩ K hK;refine step_do rfl ?_;clear hv;go_simp;exact hK.out _ _ ⟨e2,e7,hb,f0,fun _=>rfl,f2,f3,f4,f5,f6,f7,f8,f9,f10⟩
    case s2 =>
      rintro L a v w hv hg hL hd hcl ⟨e2,e7,hb,f0,f1,f2,f3,f4,f5,f6,f7,f8,f9,f10⟩ K hK;have g1:=f1 (hd 1 (by decide));have cs : w.cell? ⟨g,14,none⟩ = some (.slice x.A2 x.n2 x.c2):=(hb.cell (p:=⟨g,14,none⟩) hlgr).trans c14;refine step_do rfl ?_;clear hv;go_simp;exact hK.out _ _ ⟨e2,e7,hb,f0,f1,fun _=>rfl,f3,f4,f5,f6,f7,f8,f9,f10⟩
    case s3 =>
      rintro L a v w hv hg hL hd hcl ⟨e2,e7,hb,f0,f1,f2,f3,f4,f5,f6,f7,f8,f9,f10⟩ K hK;refine step_do rfl ?_;clear hv;go_simp;exact hK.out _ _ ⟨e2,e7,hb,f0,f1,f2,fun _=>rfl,f4,f5,f6,f7,f8,f9,f10⟩
    case s4 =>
      rintro L a v w hv hg hL hd hcl ⟨e2,e7,hb,f0,f1,f2,f3,f4,f5,f6,f7,f8,f9,f10⟩ K hK;have g2:=f2 (hd 2 (by decide));have g3:=f3 (hd 3 (by decide));have g2:=f2 (hd 2 (by decide));have g3:=f3 (hd 3 (by decide))
      have p0 : (0 : Int)≤(q1 : Int):=by omega
      have p3 : (q1 : Int)≤(x.c2 : Int):=by omega
      refine step_do rfl ?_;clear hv;go_simp;exact hK.out _ _ ⟨e2,e7,hb,f0,f1,f2,f3,fun _=>rfl,f5,f6,f7,f8,f9,f10⟩
    case s5 =>
      rintro L a v w hv hg hL hd hcl ⟨e2,e7,hb,f0,f1,f2,f3,f4,f5,f6,f7,f8,f9,f10⟩ K hK;have g0:=f0 (hd 0 (by decide));have g4:=f4 (hd 4 (by decide));have hwt:=HWT.out w hb;refine step_do rfl ?_;clear hv;go_simp;refine hwt.mono ?_;rintro e wy ⟨z,rfl,hz,_,oz,hzn,bb⟩;exact hK.out _ _ ⟨e2,e7,(hb.trans (bb.mono hb.size)),f0,f1,f2,f3,f4,fun _=>⟨z,rfl,hz,oz.ok⟩,f6,f7,f8,f9,f10⟩
    case s6 =>
      rintro L a v w hv hg hL hd hcl ⟨e2,e7,hb,f0,f1,f2,f3,f4,f5,f6,f7,f8,f9,f10⟩ K hK;obtain ⟨z,g5,hz,oz⟩:=f5 (hd 5 (by decide));have hput:=rput17_any z w oz;rw [hz] at hput
      unfold GiveBE at hput
      rw [← HPE.out] at hput;refine step_do rfl ?_;clear hv;go_simp;refine hput.mono ?_;rintro e wy ⟨Ap,np,cp,rfl,op,bb⟩
      have hnp : np = PB:=by rw [HPB.out];exact op.1
      subst hnp;exact hK.out _ _ ⟨e2,e7,(hb.trans (bb.mono hb.size)),f0,f1,f2,f3,f4,(fun h=>(by obtain ⟨z,e,hz,o⟩:=f5 h;exact ⟨z,e,hz,o.below bb⟩)),fun _=>⟨Ap,cp,rfl⟩,f7,f8,f9,f10⟩
    case s7 =>
      rintro L a v w hv hg hL hd hcl ⟨e2,e7,hb,f0,f1,f2,f3,f4,f5,f6,f7,f8,f9,f10⟩ K hK;obtain ⟨Ap,cp,g6⟩:=f6 (hd 6 (by decide));refine step_do rfl ?_;clear hv;go_simp;exact hK.out _ _ ⟨e2,e7,hb,f0,f1,f2,f3,f4,f5,f6,fun _=>⟨Ap,cp,rfl⟩,f8,f9,f10⟩
    case s8 =>
      rintro L a v w hv hg hL hd hcl ⟨e2,e7,hb,f0,f1,f2,f3,f4,f5,f6,f7,f8,f9,f10⟩ K hK;obtain ⟨Ap,cp,g7⟩:=f7 (hd 7 (by decide));refine step_do rfl ?_;clear hv;go_simp;exact hK.out _ _ ⟨e2,e7,hb,f0,f1,f2,f3,f4,f5,f6,f7,fun _=>⟨Ap,cp,rfl⟩,f9,f10⟩
    case s9 =>
      rintro L a v w hv hg hL hd hcl ⟨e2,e7,hb,f0,f1,f2,f3,f4,f5,f6,f7,f8,f9,f10⟩ K hK;obtain ⟨Ap,cp,g7⟩:=f7 (hd 7 (by decide));refine step_do rfl ?_;clear hv;go_simp;exact hK.out _ _ ⟨e2,e7,hb,f0,f1,f2,f3,f4,f5,f6,f7,f8,fun _=>rfl,f10⟩
    case s10 =>
      rintro L a v w hv hg hL hd hcl ⟨e2,e7,hb,f0,f1,f2,f3,f4,f5,f6,f7,f8,f9,f10⟩ K hK;obtain ⟨Ap,cp,g8⟩:=f8 (hd 8 (by decide));refine step_do rfl ?_;clear hv;go_simp;exact hK.out _ _ ⟨e2,e7,hb,f0,f1,f2,f3,f4,f5,f6,f7,f8,f9,fun _=>⟨Ap,cp,rfl⟩⟩
  case hend =>
  rintro L v w5 hall ⟨e2,e7,hb,f0,f1,f2,f3,f4,f5,f6,f7,f8,f9,f10⟩;have hL : ∀ i,i < 11→L i = true:=hall;have f0:=f0 (hL 0 (by decide));have f1:=f1 (hL 1 (by decide));have f2:=f2 (hL 2 (by decide));have f3:=f3 (hL 3 (by decide));have f4:=f4 (hL 4 (by decide));have f5:=f5 (hL 5 (by decide));have f6:=f6 (hL 6 (by decide));have f7:=f7 (hL 7 (by decide));have f8:=f8 (hL 8 (by decide));have f9:=f9 (hL 9 (by decide));have f10:=f10 (hL 10 (by decide));obtain ⟨z5,q5,_⟩:=f5;obtain ⟨Ap6,cp6,q6⟩:=f6;obtain ⟨Ap7,cp7,q7⟩:=f7;obtain ⟨Ap8,cp8,q8⟩:=f8;obtain ⟨Ap,cp,q10⟩:=f10
  simp only [finA,List.foldl_cons,List.foldl_nil,Act.put,List.setIfInBounds_toArray,List.set_cons_succ,List.set_cons_zero,f0,f1,f2,f3,f4,f9,q5,q6,q7,q8,q10]
  have bw5:=bw.trans (hb.mono bw.size);have gb5:=HGB.out.trans (bw5.mono HGB.out.size);clear e2 e7 f0 f1 f2 f3 f4 f9 hL hall hb q5 q6 q7 q8 q10
  show wpList _ _ _ [_] _ _
  clear HWT c14 kbr bw
  by_cases hpe : PE = 0
  case neg =>
    have hpq : ((PE : Nat) : Int) != 0:=by rw [bne_iff_ne];omega
    have hfin : F1 = q:=by rw [HFN.out];exact Ms.fitN_of (by rw [HLE.out];exact hq) HFS.out (fun _=>by rw [HPF.out,← HPE.out,decide_eq_false hpe];rfl)
    have HFIN:=Lib.hid hfin;clear hfin;go_wp2_with fail;go_ret2;exact ⟨by rw [HFIN.out];rfl,gb5⟩
  subst hpe
  by_cases hpb : PB≤mt
  case neg =>
    have hpq : (mt : Int) < (PB : Int):=by omega
    have hfin : F1 = q:=by rw [HFN.out];exact Ms.fitN_of (by rw [HLE.out];exact hq) HFS.out (fun _=>by rw [HPF.out,← HPB.out,decide_eq_false hpb,Bool.and_false])
    have HFIN:=Lib.hid hfin;clear hfin;go_wp2_with fail;go_ret2;exact ⟨by rw [HFIN.out];rfl,gb5⟩
  have hpq : ¬ (mt : Int) < (PB : Int):=by omega
  have hfit : Ms.fits x.m mt (x.m.ev.take (q + 1)) = true:=by rw [HPF.out,← HPB.out,← HPE.out,decide_eq_true hpb];rfl
  have HFT:=Lib.hid hfit;have HB5:=Lib.hid bw5;clear hfit bw5;go_wp2_with fail
  go_roundw
  case rel=>exact ⟨q + 1,hlt,by rw [HQ1.out],by rw [HQ1.out];go_num,fun j hj=>by
    by_cases e : j = q
    · rw [e];exact HFT.out
    · exact HFS.out j (by omega),HB5.out⟩
  case measure=>simp [intOf];have:=HQ1.out;omega
end Go.Proofs.Ytcgalmnllegnbaa

namespace Go.Proofs.Ytcgalmnllegnbaa
set_option linter.unusedVariables false
set_option linter.unusedSimpArgs false
set_option maxRecDepth 100000
open Go.RowKit
open Dot Evt
open Ms (Mem)
structure RSpS (w0 : World) (g : Nat) (x : MgV) (C : Array Value) (j : Nat) (AE : Option Addr) (cE : Nat) (AO : Option Addr) (cO : Nat) (zs : List MgV) (w : World) : Prop where
  kb : Blk w g 27 C
  gb : Below w0.heap.size w0 w
  hg : w0.heap.size≤g
  le : j≤x.n2
  ev : RowEv w w0.heap.size AE (x.n2 - j) (x.xs.drop j)
  c1 : x.n2 - j≤cE
  c2 : cE≤maxLen
  oO : OwnMg w (g + 1) AO zs.length cO zs
  oz : ∀ z ∈ zs,MgOwn w (g + 1) z
section
variable {w0 w w' w2 : World} {g : Nat} {x : MgV} {C : Array Value} {j : Nat} {AE AO A' : Option Addr} {cE cO c' : Nat} {zs : List MgV} {z : MgV}
theorem RSpS.below (h : RSpS w0 g x C j AE cE AO cO zs w) (hb : Below w.heap.size w w') : RSpS w0 g x C j AE cE AO cO zs w' :=
  ⟨h.kb.below hb h.kb.lt,h.gb.trans (hb.mono h.gb.size),h.hg,h.le,h.ev.below (hb.mono h.gb.size),h.c1,h.c2,h.oO.below hb (Nat.le_refl _),fun z hz=>(h.oz z hz).below hb⟩
theorem RSpS.app (h : RSpS w0 g x C j AE cE AO cO zs w) (hz : MgOwn w (g + 1) z) (ho : OwnMg w2 (g + 1) A' (zs.length + 1) c' (zs ++ [z])) (hg : w.grownBy w2 (AO.map (·.block))) (hB : Below (g + 1) w w2) : RSpS w0 g x C j AE cE A' c' (zs ++ [z]) w2:=by
  have hgg:=h.hg
  have hne : ∀ k,AO.map (·.block) = some k→g + 1≤k:=fun k hk=>(h.oO.lt k hk).1
  refine ⟨h.kb.grown hg (fun e=>by have:=hne g e;omega),h.gb.trans (hB.mono (by omega)),h.hg,h.le,h.ev.below (hB.mono (by omega)),h.c1,h.c2,by rw [List.length_append];exact ho,fun y hy=>?_⟩
  rcases List.mem_append.1 hy with q | q
  · exact (h.oz y q).grownMg h.oO hg
  · rw [List.mem_singleton.1 q];exact hz.grownMg h.oO hg
theorem RSpS.next (h : RSpS w0 g x C j AE cE AO cO zs w) {k : Nat} (hk : j + k≤x.n2) : RSpS w0 g x C (j + k) (if cE = k then AE else AE.map (·.add (k * 14))) (cE - k) AO cO zs w:=by
  have hc1:=h.c1;have hd:=h.ev.drop (A':=if cE = k then AE else AE.map (·.add (k * 14))) (k:=k) (fun hlt=>by rw [if_neg (by omega)]);rw [List.drop_drop,show x.n2 - j - k = x.n2 - (j + k) by omega] at hd;exact ⟨h.kb,h.gb,h.hg,hk,hd,by omega,by have:=h.c2;omega,h.oO,h.oz⟩
end
set_option maxHeartbeats 4000000 in
theorem rsplit_bad (x : MgV) (mtu : Int) (w0 : World) (h : MgC w0 x) (b2 : x.n2≤100000) (hf : Ms.fitM x.m mtu = (0,2)) :
    Calls Try.prog 23 #[.agg x.cs,.int .i64 mtu] w0 fun e w'=>e = .returned (.tuple #[.slice none 0 0,.int .i64 2])∧Below w0.heap.size w0 w':=by
  have hfit:=fun (w' : World) (hb : Below w0.heap.size w0 w')=>rfit_any x mtu w' (h.below hb) b2
  simp only [hf] at hfit
  obtain ⟨C,hC⟩ : ∃ C,C = x.cs:=⟨_,rfl⟩;rw [← hC] at hfit ⊢;have SC:=Lib.hid (show C.size = 16 by rw [hC];rfl);have HF:=Lib.hid hfit;clear hfit h hC hf
  go_enter Try.func23,Try.ntmps23
  go_upto_region 1 with fail
  refine nameW ?_;intro W hW;obtain ⟨g,hg⟩ : ∃ g,g = w0.heap.size:=⟨_,rfl⟩;rw [← hg]
  have kb : Blk W g 27 C:=by rw [hW,hg];exact Blk.new w0 _ _
  have gb : Below w0.heap.size w0 W:=by rw [hW];exact (Below.refl _ _).alloc (Nat.le_refl _) _
  clear hW hg
  go_wp2_with ((with_reducible refine wpList_ld rowMg kb SC.out ?_ ?_);rotate_left;(rfl))
  refine (HF.out W gb).mono ?_;rintro e w1 ⟨rfl,bb⟩;have gb:=gb.trans (bb.mono gb.size);go_wp2_with fail;go_ret2;exact ⟨rfl,gb⟩
set_option maxHeartbeats 8000000 in
theorem rsplit_any (x : MgV) (mtu : Nat) (w0 : World) (h : DlIn w0 x) (hc : MgC w0 x) (h1 : 512≤mtu) (h2 : mtu≤4096) :
    Calls Try.prog 23 #[.agg x.cs,.int .i64 (mtu : Nat)] w0 fun e w'=>∃ A c zs,e = .returned (.tuple #[.slice A zs.length c,.int .i64 0])∧SplEnd w0 x mtu A c zs w':=by
  have h768:=h.n768
  have hfit:=fun (w' : World) (hb : Below w0.heap.size w0 w')=>rfit_any x (mtu : Int) w' (hc.below hb) (by omega)
  simp only [fitM_ok h h1 h2] at hfit
  have HD:=Lib.hid h;have HMC:=Lib.hid hc;have hnc:=h.nc;have hcm:=h.cm;have hev:=h.ok.ok.ev;have HAT:=Lib.hid (mgv_at x);have HES:=Lib.hid h.ok.ok.es;have HLE:=Lib.hid h.ok.ok.ev.1
  have hpo : ∀ j,j < x.n2→0 < Ms.fitN x.m mtu ((x.xs.drop j).map (·.e)):=by
    intro j hj
    have hne : (x.xs.drop j).map (·.e) ≠ []:=by
      intro e
      have:=congrArg List.length e
      rw [List.length_map,List.length_drop,← h.ok.ok.ev.1,List.length_nil] at this
      omega
    have hrr : ∀ e ∈ (x.xs.drop j).map (·.e),e.p.length = 7∧rightE e = true:=by
      intro e he
      have he2 : e ∈ x.m.ev:=by rw [h.ok.ok.es];rw [List.map_drop] at he;exact List.mem_of_mem_drop he
      exact h.r e he2
    generalize (x.xs.drop j).map (·.e) = l at *
    exact Ms.fitN_pos h.d h1 hrr hne
  have HPO:=Lib.hid hpo;clear hpo;have HFL:=Lib.hid (fun (j : Nat)=>(by have:=Ms.fitN_le x.m mtu ((x.xs.drop j).map (·.e));rwa [List.length_map,List.length_drop,← h.ok.ok.ev.1] at this : Ms.fitN x.m mtu ((x.xs.drop j).map (·.e))≤x.n2 - j));obtain ⟨C,hC⟩ : ∃ C,C = x.cs:=⟨_,rfl⟩;rw [← hC] at hfit HAT ⊢;have SC:=Lib.hid (show C.size = 16 by rw [hC];rfl);have HF:=Lib.hid hfit;have HC:=Lib.hid hC;have HMT:=Lib.hid (And.intro h1 h2);clear hfit hC h hc h1
  go_enter Try.func23,Try.ntmps23
  go_upto_region 1 with fail
  refine nameW ?_;intro W hW;obtain ⟨g,hg⟩ : ∃ g,g = w0.heap.size:=⟨_,rfl⟩;rw [← hg]
  have kb : Blk W g 27 C:=by rw [hW,hg];exact Blk.new w0 _ _
  have gb : Below w0.heap.size w0 W:=by rw [hW];exact (Below.refl _ _).alloc (Nat.le_refl _) _
  have hgg : w0.heap.size≤g:=by omega
  clear hW hg
  go_wp2_with ((with_reducible refine wpList_ld rowMg kb SC.out ?_ ?_);rotate_left;(rfl))
  refine (HF.out W gb).mono ?_;rintro e w1 ⟨rfl,bb⟩;have kb:=kb.below bb kb.lt;have gb:=gb.trans (bb.mono gb.size);have c14 : w1.cell? ⟨g,14,none⟩ = some (.slice x.A2 x.n2 x.c2):=(kb.cell 14).trans HAT.out.2.2.2.2.2.2.1;have S : RSpS w0 g x C 0 x.A2 x.c2 none 0 [] w1:=⟨kb,gb,hgg,by omega,hev.below gb,hnc,hcm,OwnMg.nil _ _,fun z hz=>by simp at hz⟩;clear bb kb gb hev HF hnc hcm;go_wp2_with fail
  go_loopw [8,9,10,11] (fun s t _ _ wr=>∃ (j : Nat) (AE AO : Option Addr) (cE cO : Nat) (zs : List MgV),s = .slice AO zs.length cO∧t = .slice AE (x.n2 - j) cE∧(∃ done,zs.map (·.m) = done.map (Ms.evs x.m)∧∀ ps,Ms.Parts x.m mtu ((x.xs.drop j).map (·.e)) ps→Ms.Parts x.m mtu x.m.ev (done ++ ps))∧zs.length≤j∧RSpS w0 g x C j AE cE AO cO zs wr) (fun _ t _ _ _=>sliceLen t)
  case atStart=>exact ⟨0,x.A2,none,x.c2,0,[],rfl,rfl,⟨[],rfl,fun ps hp=>by rw [List.drop_zero,← HES.out] at hp;exact hp⟩,by simp,S⟩
  case round =>
  clear S c14;obtain ⟨j,AE,AO,cE,cO,zs,rfl,rfl,⟨done,hz,hd⟩,hzj,S⟩:=hrel;obtain ⟨rn,hrn⟩ : ∃ rn,rn = x.n2 - j:=⟨_,rfl⟩;rw [← hrn];obtain ⟨nf,hnf⟩ : ∃ nf,nf = Ms.fitN x.m mtu ((x.xs.drop j).map (·.e)):=⟨_,rfl⟩
  have hn0 : 0 < rn→0 < nf:=fun h=>by rw [hnf];exact HPO.out j (by omega)
  have hnl : nf≤rn:=by rw [hnf,hrn];exact HFL.out j
  have hjl:=S.le;have hnc:=S.c1;have hcm:=S.c2
  unfold maxLen at hcm
  rw [← hrn] at hnc;have HRN:=Lib.hid hrn;have HNF:=Lib.hid hnf;have HDN:=Lib.hid (And.intro hz hd);have HS:=Lib.hid S
  have hrj : rn≤x.n2 - j:=by omega
  have kbr:=S.kb;clear hnf hrn hz hd S
  by_cases hlt : 0 < rn
  · have hr0 : (0 : Int) < (rn : Int):=by omega
    have hwt:=fun (w : World) (hb : Below wr.heap.size wr w)=>(by
      have hS:=HS.out.below hb
      have:=rwith_any x AE rn cE (x.xs.drop j) w (HMC.out.below hS.gb) (by omega) (by rw [HRN.out];exact hS.ev.more hS.gb.size) (by omega) (fun y hy=>HD.out.hm y (List.mem_of_mem_drop hy))
      rw [← HC.out] at this
      exact this : Calls Try.prog 64 #[.agg C,.slice AE rn cE] w fun e w'=>∃ z : MgV,e = .returned (.agg z.cs)∧z.m = Ms.evs x.m ((x.xs.drop j).map (·.e))∧MgOwn w' w.heap.size z∧MgC w' z∧z.n2 = rn∧Below w.heap.size w w')
    have HWT:=Lib.hid hwt;clear hwt
    go_wp2_with ((with_reducible refine wpList_ld rowMg kbr SC.out ?_ ?_);rotate_left;(rfl))
    refine (HWT.out wr (Below.refl _ _)).mono ?_;rintro e w3 ⟨y,rfl,hym,_,hyc,hyn,b3⟩;have hfity:=rfit_any y (mtu : Int) w3 hyc (by omega)
    have hdy : Ms.fitM y.m (mtu : Int) = (nf,0):=by
      have hr : Ms.rightM y.m = true:=by
        rw [hym];refine Ms.delta_right HD.out.d _ (fun e he=>(HD.out.r e ?_).2) ?_
        · rw [HES.out];rw [List.map_drop] at he;exact List.mem_of_mem_drop he
        · rw [List.length_map,List.length_drop,← HLE.out];omega
      unfold Ms.fitM
      have hy1 : y.m.kind = 5:=by rw [hym];exact HD.out.d.1
      rw [if_pos ⟨by have:=HMT.out.1;omega,by have:=HMT.out.2;omega,hy1,hr⟩,hym,HNF.out]
      rfl
    rw [hdy] at hfity;have HFY:=Lib.hid hfity;have S3:=HS.out.below b3;have HS3:=Lib.hid S3;have b30:=b3
    generalize y.cs = CY at *
    clear HWT hyc hyn hym hdy hfity S3 HS kbr b3;go_wp2_with fail;refine HFY.out.mono ?_;rintro e w4 ⟨rfl,b4⟩;have S4:=HS3.out.below b4;have HS:=Lib.hid S4;have kb0:=S4.kb;have hlg : g < w4.heap.size:=kb0.lt;clear HFY S4 HS3 b30 b4
    have hf0 : (0 : Int) < (nf : Int):=by have:=hn0 hlt;omega
    have HWT:=Lib.hid fun (w : World) (hb : Below w4.heap.size w4 w)=>(by
      have hS:=HS.out.below hb;have he:=(hS.ev.more hS.gb.size).take (k:=nf) (by omega)
      have:=rwith_any x AE nf cE ((x.xs.drop j).take nf) w (HMC.out.below hS.gb) (by omega) he (by omega) (fun y hy=>HD.out.hm y (List.mem_of_mem_drop (List.mem_of_mem_take hy)))
      rw [← HC.out] at this
      exact this.mono (fun e w' ⟨z,e1,e2,e3,_,_,e4⟩=>⟨z,e1,e2,e3.mono (show g + 1≤w.heap.size from hS.kb.lt),e4⟩) : Calls Try.prog 64 #[.agg C,.slice AE nf cE] w fun e w'=>∃ z : MgV,e = .returned (.agg z.cs)∧z.m = Ms.evs x.m (((x.xs.drop j).take nf).map (·.e))∧MgOwn w' (g + 1) z∧Below w.heap.size w w')
    go_upto_region 8 with fail
    refine wp_region_tailF 7 7 (fun L v w=>v 2 = .pointer (some ⟨g,0,none⟩)∧v 8 = .slice AO zs.length cO∧v 9 = .slice AE rn cE∧v 10 = .int .i64 (nf : Nat)∧Below w4.heap.size w4 w∧(L 0 = true→v 34 = .slice AO zs.length cO)∧(L 1 = true→v 35 = .agg C)∧(L 2 = true→v 36 = .slice AE rn cE)∧(L 3 = true→v 37 = .int .i64 (nf : Nat))∧(L 4 = true→v 38 = .slice AE nf cE)∧(L 5 = true→(∃ z : MgV,v 39 = .agg z.cs∧z.m = Ms.evs x.m (((x.xs.drop j).take nf).map (·.e))∧MgOwn w (g + 1) z))∧(L 6 = true→(∃ (z : MgV) (gB : Nat),v 40 = .slice (some ⟨gB,0,none⟩) 1 1∧z.m = Ms.evs x.m (((x.xs.drop j).take nf).map (·.e))∧MgOwn w (g + 1) z∧Blk w gB 27 z.cs))) [34,35,36,37,38,39,40] (by kernel_rfl) (by kernel_rfl) (by kernel_rfl) (by kernel_rfl) (by kernel_rfl) (by kernel_rfl) ?h0 ?hst ?hend
    case h0 =>
      intro L h0;have h0 : ∀ i,i < 7→L i = false:=h0;exact ⟨rfl,rfl,rfl,rfl,(Below.refl _ _).drew,offF h0 (i:=0) (by decide),offF h0 (i:=1) (by decide),offF h0 (i:=2) (by decide),offF h0 (i:=3) (by decide),offF h0 (i:=4) (by decide),offF h0 (i:=5) (by decide),offF h0 (i:=6) (by decide)⟩
    case hst =>
      show FactSteps _ _ _ _ [0,1,2,3,4,5,6]
      refine @FactSteps.cons _ _ _ _ 0 _ [] _ rfl (by kernel_rfl) ?s0 ?_;rotate_left;refine @FactSteps.cons _ _ _ _ 1 _ [] _ rfl (by kernel_rfl) ?s1 ?_;rotate_left;refine @FactSteps.cons _ _ _ _ 2 _ [] _ rfl (by kernel_rfl) ?s2 ?_;rotate_left;refine @FactSteps.cons _ _ _ _ 3 _ [] _ rfl (by kernel_rfl) ?s3 ?_;rotate_left;refine @FactSteps.cons _ _ _ _ 4 _ [2,3] _ rfl (by kernel_rfl) ?s4 ?_;rotate_left;refine @FactSteps.cons _ _ _ _ 5 _ [1,4] _ rfl (by kernel_rfl) ?s5 ?_;rotate_left;refine @FactSteps.cons _ _ _ _ 6 _ [5] _ rfl (by kernel_rfl) ?s6 ?_;rotate_left;exact FactSteps.nil
      case s0 =>
        rintro L a v w hv hg hL hd hcl ⟨e2,e8,e9,e10,hb,f0,f1,f2,f3,f4,f5,f6⟩ K hK;refine step_do rfl ?_;clear hv;go_simp;exact hK.out _ _ ⟨e2,e8,e9,e10,hb,fun _=>rfl,f1,f2,f3,f4,f5,f6⟩
      case s1 =>
        rintro L a v w hv hg hL hd hcl ⟨e2,e8,e9,e10,hb,f0,f1,f2,f3,f4,f5,f6⟩ K hK;refine step_do rfl ?_;refine wp_ld rowMg (.tmp 2) rfl ((hv 2).trans e2) (kb0.below hb kb0.lt) SC.out ?_;exact hK.out _ _ ⟨e2,e8,e9,e10,hb,f0,fun _=>rfl,f2,f3,f4,f5,f6⟩
      case s2 =>
        rintro L a v w hv hg hL hd hcl ⟨e2,e8,e9,e10,hb,f0,f1,f2,f3,f4,f5,f6⟩ K hK;refine step_do rfl ?_;clear hv;go_simp;exact hK.out _ _ ⟨e2,e8,e9,e10,hb,f0,f1,fun _=>rfl,f3,f4,f5,f6⟩
      case s3 =>
        rintro L a v w hv hg hL hd hcl ⟨e2,e8,e9,e10,hb,f0,f1,f2,f3,f4,f5,f6⟩ K hK;refine step_do rfl ?_;clear hv;go_simp;exact hK.out _ _ ⟨e2,e8,e9,e10,hb,f0,f1,f2,fun _=>rfl,f4,f5,f6⟩
      case s4 =>
        rintro L a v w hv hg hL hd hcl ⟨e2,e8,e9,e10,hb,f0,f1,f2,f3,f4,f5,f6⟩ K hK;have g2:=f2 (hd 2 (by decide));have g3:=f3 (hd 3 (by decide));have g2:=f2 (hd 2 (by decide));have g3:=f3 (hd 3 (by decide))
        have p0 : (0 : Int)≤(nf : Int):=by omega
        have p3 : (nf : Int)≤(cE : Int):=by omega
        have p4 : nf≤cE:=by omega
        refine step_do rfl ?_;clear hv;go_simp;exact hK.out _ _ ⟨e2,e8,e9,e10,hb,f0,f1,f2,f3,fun _=>rfl,f5,f6⟩
      case s5 =>
        rintro L a v w hv hg hL hd hcl ⟨e2,e8,e9,e10,hb,f0,f1,f2,f3,f4,f5,f6⟩ K hK;have g1:=f1 (hd 1 (by decide));have g4:=f4 (hd 4 (by decide));have hwt:=HWT.out w hb;refine step_do rfl ?_;clear hv;go_simp;refine hwt.mono ?_;rintro e wy ⟨z,rfl,hz,oz,bb⟩;exact hK.out _ _ ⟨e2,e8,e9,e10,(hb.trans (bb.mono hb.size)),f0,f1,f2,f3,f4,fun _=>⟨z,rfl,hz,oz⟩,(fun h=>(by obtain ⟨z,gB,e,hz,o,k⟩:=f6 h;exact ⟨z,gB,e,hz,o.below bb,k.below bb k.lt⟩))⟩
      case s6 =>
        rintro L a v w hv hg hL hd hcl ⟨e2,e8,e9,e10,hb,f0,f1,f2,f3,f4,f5,f6⟩ K hK;obtain ⟨z,q6,hz,oz⟩:=f5 (hd 5 (by decide));have q6:=(hv 39).trans q6;have bb : Below w.heap.size w (w.alloc (.cells z.cs 27)):=(Below.refl _ _).alloc (Nat.le_refl _) _;refine step_do rfl ?_;refine step_bs (v:=.slice (some ⟨w.heap.size,0,none⟩) 1 1) (w':=w.alloc (.cells z.cs 27)) 52 1 #[(0,.tmp 39)] rfl (by simp only [List.map_toArray,List.map_cons,List.map_nil,q6];exact buildMg1 z w) ?_;exact hK.out _ _ ⟨e2,e8,e9,e10,(hb.trans (bb.mono hb.size)),f0,f1,f2,f3,f4,(fun h=>(by obtain ⟨z,e,hz,o⟩:=f5 h;exact ⟨z,e,hz,o.below bb⟩)),fun _=>⟨z,w.heap.size,rfl,hz,oz.below bb,Blk.new w _ _⟩⟩
    case hend =>
    rintro L v w5 hall ⟨e2,e8,e9,e10,hb,f0,f1,f2,f3,f4,f5,f6⟩;have hL : ∀ i,i < 7→L i = true:=hall;have f0:=f0 (hL 0 (by decide));have f1:=f1 (hL 1 (by decide));have f2:=f2 (hL 2 (by decide));have f3:=f3 (hL 3 (by decide));have f4:=f4 (hL 4 (by decide));have f5:=f5 (hL 5 (by decide));have f6:=f6 (hL 6 (by decide));obtain ⟨z,gB,q7,hz,oz,kz⟩:=f6;obtain ⟨z6,q6,_⟩:=f5
    simp only [finA,List.foldl_cons,List.foldl_nil,Act.put,List.setIfInBounds_toArray,List.set_cons_succ,List.set_cons_zero,f0,f1,f2,f3,f4,q6,q7]
    have S5:=HS.out.below hb;clear e2 e8 e9 e10 f0 f1 f2 f3 f4 hL hall hb
    show wpList _ _ _ [_,_] _ _
    have HO:=Lib.hid S5.oO;have HR7:=Lib.hid kz.rdMg;have hlb:=kz.lt;have hg5 : g + 1≤w5.heap.size:=S5.kb.lt
    have hz9 : zs.length≤768:=by omega
    have HZ:=Lib.hid (And.intro hz oz);have HS5:=Lib.hid S5;clear hz oz S5 kz HWT kb0 q6 q7
    go_upto_region 9 with (at_builtin;refine wpList_appMg rfl (.tmp 34) (.tmp 40) rfl rfl HO.out rfl (news:=[z]) (B:=gB + 1) ?hd1 rfl ?hd2 ?hd3 ?_)
    case hd1=>rw [show mgsL [z] = z.cs.toList by simp [mgsL]];exact HR7.out
    case hd2=>omega
    case hd3=>exact hg5
    intro A9 c9 w9 o9 g9 m9 b9;have S9:=HS5.out.app HZ.out.2 o9 g9 b9;obtain ⟨A10,hA10⟩ : ∃ A10,A10 = (if cE = nf then AE else AE.map (·.add (nf * 14))):=⟨_,rfl⟩;have S10:=S9.next (k:=nf) (by omega);rw [← hA10] at S10;have HA:=Lib.hid hA10;have HS10:=Lib.hid S10;have HL9:=Lib.hid (show zs.length≤j∧j < x.n2 by omega);clear o9 g9 m9 b9 S9 S10 HS5 HO HR7 hA10
    go_wp2_with ((with_reducible refine wpList_slE (A:=AE) (n:=rn) (c:=cE) (k:=nf) hnl ?_ ?_ ?_);rotate_left;(rfl);(rfl);rw [← HA.out])
    go_roundw
    case rel =>
      refine ⟨j + nf,A10,A9,cE - nf,c9,zs ++ [z],by rw [List.length_append];rfl,by rw [HRN.out,Nat.sub_sub],⟨done ++ [((x.xs.drop j).take nf).map (·.e)],by rw [List.map_append,List.map_append,HDN.out.1,List.map_cons,List.map_nil,List.map_cons,List.map_nil,HZ.out.1],fun ps hp=>?_⟩,by rw [List.length_append];have:=HL9.out;have:=hn0 hlt;simp;omega,HS10.out⟩
      have:=Ms.Parts.step HDN.out.2 (fun e=>by
        have e:=congrArg List.length e;rw [List.length_map,List.length_drop,← HLE.out] at e
        have:=HL9.out
        simp at e
        omega) ps (by rw [← HNF.out,← List.map_drop,List.drop_drop];exact hp)
      rw [← HNF.out,← List.map_take] at this;exact this
    case measure=>simp [sliceLen];have:=hn0 hlt;omega
  obtain rfl : rn = 0:=by omega
  have hr0 : ¬ (0 : Int) < ((0 : Nat) : Int):=by omega
  have hxd : x.xs.drop j = []:=List.drop_eq_nil_of_le (by rw [← HLE.out];have:=HRN.out;omega);have hfin:=HDN.out.2 [] (by rw [hxd];rfl);rw [List.append_nil] at hfin;have HFIN:=Lib.hid hfin;clear hfin hxd hnl hn0 hrj;go_wp2_with fail;go_ret2;have hgg:=HS.out.hg;exact ⟨AO,cO,zs,rfl,HS.out.oO.mono (by omega),fun z hz=>(HS.out.oz z hz).mono (by omega),⟨done,HDN.out.1,HFIN.out⟩,HS.out.gb⟩
end Go.Proofs.Ytcgalmnllegnbaa

namespace Go.Proofs.Ytcgalmnllegnbaa
set_option linter.unusedVariables false
set_option linter.unusedSimpArgs false
set_option maxRecDepth 100000
open Go.RowKit
open Dot Evt
open Ms (Mem)
structure MgSm (w : World) (x : MgV) : Prop where
  ok : MgIn w x
  b1 : x.n1≤1000000
  b3 : x.n3≤1000000
  hm : ∀ z ∈ x.xs,z.m≤1000000
theorem MgSm.below {w w' : World} {x : MgV} (h : MgSm w x) (hb : Below w.heap.size w w') : MgSm w' x:=⟨h.ok.below hb,h.b1,h.b3,h.hm⟩
set_option maxHeartbeats 2000000 in
theorem rall17_eq (A1 A2 : Option Addr) (n c1 c2 : Nat) (xs ys : List MgV) (w : World) (hx : RowMg w w.heap.size A1 n xs) (hy : RowMg w w.heap.size A2 n ys) (he : xs.map (·.m) = ys.map (·.m)) (hix : ∀ x ∈ xs,MgSm w x) (hiy : ∀ y ∈ ys,MgIn w y) (hn : n≤9223372036854775807) :
    Calls Try.prog 26 #[.slice A1 n c1,.slice A2 n c2] w fun e w'=>e = .returned (.bool true)∧Below w.heap.size w w':=by
  have HN:=Lib.hid hx.1;have HN2:=Lib.hid hy.1
  have HX:=Lib.hid fun (w' : World) (h : Below w.heap.size w w')=>(hx.below h)
  have HY:=Lib.hid fun (w' : World) (h : Below w.heap.size w w')=>(hy.below h)
  have HE:=Lib.hid he
  have HIX:=Lib.hid fun (w' : World) (h : Below w.heap.size w w') (x : MgV) (hm : x ∈ xs)=>(hix x hm).below h
  have HIY:=Lib.hid fun (w' : World) (h : Below w.heap.size w w') (y : MgV) (hm : y ∈ ys)=>(hiy y hm).below h
  clear hx hy he hix hiy
  go_enter Try.func26,Try.ntmps26
  go_wp2_with fail
  go_loopw [13] (fun i wr=>∃ k : Nat,k≤n∧i = .int .i64 k∧Below w.heap.size w wr) (fun i _=>n - (intOf i).toNat)
  case atStart=>exact ⟨0,by omega,rfl,Below.refl _ _⟩
  case round =>
    obtain ⟨k,hk,rfl,gb⟩:=hrel
    by_cases hlt : k < n
    · have hkl : k < xs.length:=by rw [← HN.out];exact hlt
      have hky : k < ys.length:=by rw [← HN2.out];exact hlt
      have hX:=(HX.out wr gb).2 k _ (List.getElem?_eq_getElem hkl);have hY:=(HY.out wr gb).2 k _ (List.getElem?_eq_getElem hky)
      have hmx:=fun (w' : World) (h : Below w.heap.size w w')=>HIX.out w' h _ (List.getElem_mem hkl)
      have hmy:=fun (w' : World) (h : Below w.heap.size w w')=>HIY.out w' h _ (List.getElem_mem hky)
      have hee : xs[k].m = ys[k].m:=by
        have h:=congrArg (fun l=>l[k]?) HE.out
        simp only [List.getElem?_map,List.getElem?_eq_getElem hkl,List.getElem?_eq_getElem hky,Option.map_some] at h
        injection h
      generalize xs[k] = x at *
      generalize ys[k] = y at *
      obtain ⟨ad1,hA1,hb1,hc1⟩:=hX;obtain ⟨ad2,hA2,hb2,hc2⟩:=hY;subst hA1 hA2
      have hcl1:=fun (w' : World) (h : Below wr.heap.size wr w')=>fun (j : Nat) (v : Value) (hv : x.cs[j]? = some v)=>((h.cell (p:=(ad1.add (k * 16)).add j) (by rw [block_add,block_add];have:=gb.size;omega)).trans (hc1 j v hv))
      have hcl2:=fun (w' : World) (h : Below wr.heap.size wr w')=>fun (j : Nat) (v : Value) (hv : y.cs[j]? = some v)=>((h.cell (p:=(ad2.add (k * 16)).add j) (by rw [block_add,block_add];have:=gb.size;omega)).trans (hc2 j v hv))
      have hsm:=fun (w' : World) (h : Below wr.heap.size wr w')=>(by
        have hm:=hmx w' (gb.trans (h.mono gb.size))
        exact rsame17_eq x y w' hm.ok (hmy w' (gb.trans (h.mono gb.size))) hee hm.b1 hm.b3 hm.hm : Calls Try.prog 17 #[.agg x.cs,.agg y.cs] w' fun e w''=>e = .returned (.bool true)∧Below w'.heap.size w' w'')
      obtain ⟨cx,hcx⟩ : ∃ cx,cx = x.cs:=⟨_,rfl⟩;obtain ⟨cy,hcy⟩ : ∃ cy,cy = y.cs:=⟨_,rfl⟩;have SX:=Lib.hid (show cx.size = 16 by rw [hcx];rfl);have SY:=Lib.hid (show cy.size = 16 by rw [hcy];rfl);rw [← hcx,← hcy] at hsm;rw [← hcx] at hcl1;rw [← hcy] at hcl2;have HC1:=Lib.hid hcl1;have HC2:=Lib.hid hcl2;have HSM:=Lib.hid hsm
      have hk0 : (0 : Int)≤(k : Int):=by omega
      have hkm : (k : Int) < (n : Int):=by omega
      clear hcl1 hcl2 hsm hcx hcy hee hmx hmy hc1 hc2
      go_upto_region 6 with fail
      refine wp_region_below (by kernel_rfl) (by kernel_rfl) ?_;intro T iT F hF hT;have HF:=Lib.hid hF;have HT:=Lib.hid hT;clear hF hT
      iterate 3 (go_big_quiet_step (fail))
      (with_reducible refine quiet_lda rowMg (fun w' hw'=>by obtain ⟨qf,rfl⟩:=hw';exact HC1.out _ (HF.out qf)) SX.out ?_ ?_ ?_);rotate_left;(rfl);(rfl);simp only [Act.put,List.setIfInBounds_toArray,List.set_cons_succ,List.set_cons_zero,eq_self,decide_true,Bool.not_true,Bool.not_false,beq_self_eq_true]
      iterate 3 (go_big_quiet_step (fail))
      (with_reducible refine quiet_lda rowMg (fun w' hw'=>by obtain ⟨qf,rfl⟩:=hw';exact HC2.out _ (HF.out qf)) SY.out ?_ ?_ ?_);rotate_left;(rfl);(rfl);simp only [Act.put,List.setIfInBounds_toArray,List.set_cons_succ,List.set_cons_zero,eq_self,decide_true,Bool.not_true,Bool.not_false,beq_self_eq_true]
      go_big_quiet_step ((go_at_call 17;exact calls_below HF.out HT.out (HSM.out _ (HF.out _))))
      repeat (go_big_quiet_step (fail))
      refine wpQuiet_nil ?_;intro w' hw';obtain ⟨qf,rfl⟩:=hw';have bF:=HF.out qf;have gbF:=gb.trans (bF.mono gb.size);clear HC1 HC2 HSM HF HT bF;go_wp2_with fail
      go_roundw
      case rel=>exact ⟨k + 1,by omega,by go_num,gbF⟩
      case measure=>simp [intOf];omega
    · have hkd : decide ((k : Int) < (n : Int)) = false:=decide_eq_false (by omega)
      go_wp2_with fail;go_ret;exact ⟨rfl,gb⟩
set_option maxHeartbeats 2000000 in
theorem great21_any (x : MgV) (w : World) (h : MgIn w x) : Calls Try.prog 21 #[.agg x.cs] w fun e w'=>(∃ G,e = .returned (.bool G)∧(G = false→x.n1≤1000∧x.n3≤1000∧evSum x.xs≤3000∧x.n2≤120))∧Below w.heap.size w w':=by
  have HGR:=Lib.hid fun (w' : World) (hb : Below w.heap.size w w')=>rgreat17_any x w' (h.below hb)
  have HAT:=Lib.hid (mgv_at x);clear h;obtain ⟨C,hC⟩ : ∃ C,C = x.cs:=⟨_,rfl⟩;rw [← hC] at HGR HAT ⊢;have SC:=Lib.hid (show C.size = 16 by rw [hC];rfl);clear hC
  go_enter Try.func21,Try.ntmps21
  go_upto_region 1 with fail
  refine nameW ?_;intro W hW;obtain ⟨g,hg⟩ : ∃ g,g = w.heap.size:=⟨_,rfl⟩;rw [← hg]
  have kb : Blk W g 27 C:=by rw [hW,hg];exact Blk.new w _ _
  have gb : Below w.heap.size w W:=by rw [hW];exact (Below.refl _ _).alloc (Nat.le_refl _) _
  clear hW hg
  go_wp2_with ((with_reducible refine wpList_ld rowMg kb SC.out ?_ ?_);rotate_left;(rfl))
  refine (HGR.out W gb).mono ?_;rintro e w1 ⟨⟨G,rfl,hG⟩,bb⟩;have c14 : w1.cell? ⟨g,14,none⟩ = some (.slice x.A2 x.n2 x.c2):=((kb.below bb kb.lt).cell 14).trans HAT.out.2.2.2.2.2.2.1;have gb:=gb.trans (bb.mono gb.size);have HG:=Lib.hid hG;clear bb hG kb
  cases G
  case true =>
    go_wp2_with fail;go_ret;exact ⟨⟨true,rfl,fun h=>by cases h⟩,gb⟩
  have hg:=HG.out rfl;have HGG:=Lib.hid hg;clear hg HG
  by_cases hb : 120 < x.n2
  · have hd : decide ((120 : Int) < (x.n2 : Int)) = true:=decide_eq_true (by omega)
    clear hb;go_wp2_with fail;go_ret;exact ⟨⟨true,rfl,fun h=>by cases h⟩,gb⟩
  · have hd : decide ((120 : Int) < (x.n2 : Int)) = false:=decide_eq_false (by omega)
    have HB:=Lib.hid hb;clear hb;go_wp2_with fail;go_ret;exact ⟨⟨false,rfl,fun _=>⟨HGG.out.1,HGG.out.2.1,HGG.out.2.2,by have:=HB.out;omega⟩⟩,gb⟩
end Go.Proofs.Ytcgalmnllegnbaa

namespace Go.Proofs.Ytcgalmnllegnbaa
set_option linter.unusedVariables false
set_option linter.unusedSimpArgs false
set_option maxRecDepth 100000
open Go.RowKit
open Dot Evt
open Ms (Mem)
theorem wf_zeros {l : List Int} (h : ∀ y ∈ l,y = 0) : Wf l:=fun y hy=>by rw [h y hy];exact wf_of (by omega) (by omega)
end Go.Proofs.Ytcgalmnllegnbaa

namespace Go.Proofs.Ytcgalmnllegnbaa
set_option linter.unusedVariables false
set_option linter.unusedSimpArgs false
set_option maxRecDepth 100000
open Go.RowKit
open Dot Evt
open Ms (Mem)
theorem OwnMg.form {w : World} {base n c : Nat} {A : Option Addr} {xs : List MgV} (h : OwnMg w base A n c xs) (hn : 0 < n) : ∃ g,A = some ⟨g,0,none⟩∧base≤g∧g < w.heap.size:=by
  rcases h.2.2 with ⟨_,h0⟩ | ⟨g,cap,cur,hv,hb,hh,_⟩
  · omega
  · injection hv with hA
    subst hA;exact ⟨g,rfl,hb,lt_of_block hh⟩
theorem OwnMg.cell {w : World} {base n c g : Nat} {xs : List MgV} (h : OwnMg w base (some ⟨g,0,none⟩) n c xs) {i : Nat} {x : MgV} (hi : xs[i]? = some x) {j : Nat} {v : Value} (hv : x.cs[j]? = some v) : w.cell? ⟨g,i * 16 + j,none⟩ = some v:=by
  obtain ⟨ad,hA,hb,hc⟩:=h.row.2 i x hi
  injection hA with hA
  subst hA
  have:=hc j v hv
  rwa [add_mk,add_mk,Nat.zero_add] at this
def ev5 (i : Int) : Ev:=⟨(0,i),1,1,0,0,Evt.p0,[]⟩
def vv5 (i : Int) : EvV:=⟨ev5 i,none,0,0⟩
abbrev c5 (i : Int) : Array Value:=#[.int .i64 0,.int .i64 i,.int .i64 1,.int .i64 1,.int .i64 0,.int .i64 0,.int .i64 0,.int .i64 0,.int .i64 0,.int .i64 0,.int .i64 0,.int .i64 0,.int .i64 0,.slice none 0 0]
theorem c5_eq (i : Int) : (vv5 i).cs = c5 i:=by kernel_rfl
def al5 : Ms.Msg:=⟨5,1,0,0,0,[0,0,0,0,0,0,0,0],[],[ev5 1,ev5 2],[]⟩
abbrev cA5 : Array Value:=#[.int .i64 5,.int .i64 1,.int .i64 0,.int .i64 0,.int .i64 0,.int .i64 0,.int .i64 0,.int .i64 0,.int .i64 0,.int .i64 0,.int .i64 0,.int .i64 0,.int .i64 0,.slice none 0 0,.slice none 0 0,.slice none 0 0]
theorem cA5_size : cA5.size = 16:=rfl
theorem cA5_one : cA5.all (·.oneCell') = true:=by kernel_rfl
theorem cA5_eq : mgc al5 (.slice none 0 0) (.slice none 0 0) (.slice none 0 0) = cA5:=rfl
theorem al5_right : Ms.rightM al5 = true:=by decide +kernel
theorem al5_fit : Ms.fitN al5 512 [ev5 1,ev5 2] = 2:=by decide +kernel
theorem al5_parts {ps : List (List Ev)} (h : Ms.Parts al5 512 al5.ev ps) : ps = [[ev5 1,ev5 2]]:=by
  refine h.one ⟨by simp [al5],?_,?_⟩
  · rw [show al5.ev = [ev5 1,ev5 2] from rfl,al5_fit];rfl
  · rw [show al5.ev = [ev5 1,ev5 2] from rfl,al5_fit];rfl
def xA5 (A : Option Addr) (c : Nat) : MgV:=⟨al5,none,0,0,[vv5 1,vv5 2],A,2,c,none,0,0⟩
theorem xA5_in {w : World} {base c : Nat} {A : Option Addr} (h : OwnEv w base A 2 c [vv5 1,vv5 2]) : MgC w (xA5 A c):=by
  have hle:=ownsRow_le h.2;refine ⟨⟨⟨rfl,RdD.nil _ _ _,h.row (fun y hy=>?_),rfl,RdMb.nil _ _ _⟩,wf_zeros (by simp [xA5,al5]),by show 2≤_;omega,by show 0≤_;omega⟩,hle.1,hle.2,by show 0≤_;omega,by show 0≤_;omega,fun y hy=>?_⟩
  · rcases List.mem_cons.1 hy with rfl | hy
    · exact ⟨rfl,RdD.nil _ _ _,by show 0≤_;omega⟩
    · rw [List.mem_singleton.1 hy];exact ⟨rfl,RdD.nil _ _ _,by show 0≤_;omega⟩
  · have hy : y ∈ [vv5 1,vv5 2]:=hy
    rcases List.mem_cons.1 hy with rfl | hy
    · show 0≤_;omega
    · rw [List.mem_singleton.1 hy];show 0≤_;omega
set_option maxHeartbeats 2000000 in
theorem alive21 (w : World) : Calls Try.prog 20 #[] w fun e w'=>e = .returned (.bool true)∧Below w.heap.size w w':=by
  go_enter Try.func20,Try.ntmps20
  go_upto_region 2 with ((with_reducible refine wpList_st (cs:=cA5) rowMg (Blk.new _ _ _) cA5_size ?_ cA5_one ?_ ?_ ?_);(rfl);rotate_left;(rfl);(rfl);intro w1 kb g1 z1)
  have gb : Below w.heap.size w w1:=new_below g1;obtain ⟨g,hg⟩ : ∃ g,g = w.heap.size:=⟨_,rfl⟩;rw [← hg] at kb ⊢;have HG:=Lib.hid hg;rw [← cA5_eq] at kb;clear g1 z1 hg;go_wp2_with fail
  go_loopw [2,8] (fun _ i wr=>∃ (k : Nat) (AE : Option Addr) (cE : Nat),k≤2∧i = .int .i64 (k : Nat)∧Blk wr g 27 (mgc al5 (.slice none 0 0) (.slice AE k cE) (.slice none 0 0))∧OwnEv wr (g + 1) AE k cE ([vv5 1,vv5 2].take k)∧Below w.heap.size w wr) (fun _ i _=>2 - (intOf i).toNat)
  case atStart=>exact ⟨0,none,0,by omega,rfl,kb,OwnEv.nil _ _,gb⟩
  case round =>
  clear kb gb;obtain ⟨k,AE,cE,hk,rfl,kb,oE,gb⟩:=hrel
  have hgw : w.heap.size≤g:=by have:=HG.out;omega
  by_cases hlt : k < 2
  · have htk : [vv5 1,vv5 2].take (k + 1) = [vv5 1,vv5 2].take k ++ [vv5 ((k : Int) + 1)]:=by
      rcases (show k = 0∨k = 1 by omega) with rfl | rfl <;> rfl
    have HTK:=Lib.hid htk
    have hkm : (k : Int) < 2:=by omega
    have c14 : wr.cell? ⟨g,14,none⟩ = some (.slice AE k cE):=kb.cell 14;have HBS:=Lib.hid (fun w=>(by have:=buildE1 (vv5 ((k : Int) + 1)) w;rw [c5_eq] at this;exact this : (Instr.buildSlice 24 1 #[(0,.agg (c5 ((k : Int) + 1)))]).run Try.prog w = .ok (.slice (some ⟨w.heap.size,0,none⟩) 1 1) (w.alloc (.cells (c5 ((k : Int) + 1)) 50))));have HO:=Lib.hid (oE.alloc (.cells (c5 ((k : Int) + 1)) 50));have HOE:=Lib.hid oE;have HKB:=Lib.hid kb;have hg8 : g + 1≤wr.heap.size:=kb.lt;clear htk oE kb
    go_upto_region 5 with fail
    go_wp2_with (at_builtin;refine wpList_appE rfl (.tmp 12) (.tmp 17) rfl rfl HO.out rfl (news:=[vv5 ((k : Int) + 1)]) (B:=wr.heap.size + 1) ?hd1 rfl ?hd2 ?hd3 ?_)
    case hd1 =>
      have h:=Rd.made wr (c5 ((k : Int) + 1)) 50 (0,0);rw [show ecsL [vv5 ((k : Int) + 1)] = (c5 ((k : Int) + 1)).toList from by rw [← c5_eq];simp [ecsL]];exact h
    case hd2=>omega
    case hd3=>simp;omega
    intro A9 c9 w9 o9 g9 m9 b9;have bA : Below wr.heap.size wr (wr.alloc (.cells (c5 ((k : Int) + 1)) 50)):=(Below.refl _ _).alloc (Nat.le_refl _) _;have kA:=HKB.out.below bA HKB.out.lt;have k9:=kA.grown g9 (own_ne HO.out.2 kA (by decide));have gb9 : Below w.heap.size w w9:=(gb.trans (bA.mono gb.size)).trans (b9.mono (by omega));have k10 : Blk (w9.setCell ⟨g,14,none⟩ (.slice A9 (k + 1) c9)) g 27 (mgc al5 (.slice none 0 0) (.slice A9 (k + 1) c9) (.slice none 0 0)):=k9.set_ 14 _;have o10:=o9.far (p:=⟨g,14,none⟩) (by show g < g + 1;omega) (.slice A9 (k + 1) c9);rw [← HTK.out] at o10;have gb10:=gb9.setCell (p:=⟨g,14,none⟩) (by show w.heap.size≤g;omega) (.slice A9 (k + 1) c9);have f14 : w9.cell? ⟨g,14,none⟩ = some (.slice AE k cE):=k9.cell 14;have u14:=k9.free 14;have hl9:=k9.lt;have HR:=Lib.hid (And.intro k10 (And.intro o10 gb10));clear bA kA k9 gb9 k10 o10 gb10 o9 g9 m9 b9 c14 HO HOE HKB HBS gb;go_wp2_with fail
    go_roundw
    case rel=>exact ⟨k + 1,A9,c9,by omega,by go_num,HR.out.1,HR.out.2.1,HR.out.2.2⟩
    case measure=>simp [intOf];omega
  obtain rfl : k = 2:=by omega
  have kx : Blk wr g 27 (xA5 AE cE).cs:=kb;have hin:=xA5_in oE
  have HIN:=Lib.hid fun (w' : World) (hb : Below wr.heap.size wr w')=>hin.below hb
  have SX:=Lib.hid (xA5 AE cE).size
  have hsp:=fun (w' : World) (hb : Below wr.heap.size wr w')=>csplit_any (xA5 AE cE) 512 w' ((hin.below hb).dl rfl al5_right) (hin.below hb) (by omega) (by omega)
  have hft:=fun (w' : World) (hb : Below wr.heap.size wr w')=>cfit_any (xA5 AE cE) 511 w' (hin.below hb)
  rw [show Ms.fitM (xA5 AE cE).m 511 = (0,2) by unfold Ms.fitM;rw [if_neg (by omega)]] at hft;obtain ⟨CX,hCX⟩ : ∃ CX,CX = (xA5 AE cE).cs:=⟨_,rfl⟩;rw [← hCX] at kx SX hsp hft;have HSP:=Lib.hid (hsp wr (Below.refl _ _));have HFT:=Lib.hid hft;clear hin hsp hft hCX oE kb hlt
  go_wp2_with ((with_reducible refine wpList_ld rowMg kx SX.out ?_ ?_);rotate_left;(rfl))
  refine HSP.out.mono ?_;rintro e w2 ⟨AO,cO,zs,rfl,oO,oz,⟨ps,hzs,hps⟩,b2⟩;have hps:=al5_parts hps;subst hps
  have hz1 : zs.length = 1:=by have:=congrArg List.length hzs;rw [List.length_map] at this;exact this
  obtain ⟨z,rfl⟩ : ∃ z,zs = [z]:=List.length_eq_one_iff.1 hz1
  have hzm : z.m = Ms.evs (xA5 AE cE).m [ev5 1,ev5 2]:=by simpa using hzs
  have hn2 : z.n2 = 2:=by
    have h1:=(oz z (List.mem_singleton.2 rfl));rw [h1.ev.1,← List.length_map (f:=(·.e)),← h1.es,hzm]
    rfl
  obtain ⟨q,rfl,hq1,hq2⟩:=oO.form (by rw [hz1];omega)
  have c14 : w2.cell? ⟨q,14,none⟩ = some (.slice z.A2 2 z.c2):=by
    have:=oO.cell (i:=0) (x:=z) rfl (j:=14) (v:=.slice z.A2 z.n2 z.c2) rfl
    rw [hn2] at this;exact this
  have kx:=kx.below b2 kx.lt;have gb:=gb.trans (b2.mono gb.size);have HFT2:=Lib.hid (HFT.out w2 b2);rw [hz1];clear oO oz hzs hz1 hzm hn2 hq1 b2 HSP HFT HIN
  go_wp2_with ((with_reducible refine wpList_ld rowMg kx SX.out ?_ ?_);rotate_left;(rfl))
  refine HFT2.out.mono ?_;rintro e w3 ⟨rfl,b3⟩;have c14 : w3.cell? ⟨q,14,none⟩ = some (.slice z.A2 2 z.c2):=(b3.cell (p:=⟨q,14,none⟩) hq2).trans c14;have gb:=gb.trans (b3.mono gb.size);clear b3 HFT2;go_wp2_with fail;go_ret;exact ⟨rfl,gb⟩
end Go.Proofs.Ytcgalmnllegnbaa

namespace Go.Proofs.Ytcgalmnllegnbaa
set_option linter.unusedVariables false
set_option linter.unusedSimpArgs false
set_option maxRecDepth 100000
open Go.RowKit
open Dot Evt
open Ms (Mem)
def Ms.PartsOf (m : Ms.Msg) (mtu : Int) (ps : List (List Ev)) : Prop:=if (Ms.fitM m mtu).2 = 0 then Ms.Parts m mtu.toNat m.ev ps else ps = []
theorem Ms.PartsOf.one {m : Ms.Msg} {mtu : Int} {p q : List (List Ev)} (h1 : Ms.PartsOf m mtu p) (h2 : Ms.PartsOf m mtu q) : p = q:=by
  unfold Ms.PartsOf at h1 h2
  split at h1
  · rename_i h;rw [if_pos h] at h2;exact h1.one h2
  · rename_i h;rw [if_neg h] at h2;rw [h1,h2]
theorem Ms.Parts.mem {m : Ms.Msg} {mtu : Nat} : ∀ {ps : List (List Ev)} {l : List Ev},Ms.Parts m mtu l ps→∀ p ∈ ps,p.length≤l.length∧∀ e ∈ p,e ∈ l:=by
  intro ps
  induction ps with
  | nil=>intro l _ p hp;cases hp
  | cons q ps ih =>
    intro l h p hp
    rcases List.mem_cons.1 hp with rfl | hp
    · rw [h.2.1]
      exact ⟨by rw [List.length_take];omega,fun e he=>List.mem_of_mem_take he⟩
    · have:=ih h.2.2 p hp
      exact ⟨by have h1:=this.1;rw [List.length_drop] at h1;omega,fun e he=>List.mem_of_mem_drop (this.2 e he)⟩
theorem Ms.PartsOf.mem {m : Ms.Msg} {mtu : Int} {ps : List (List Ev)} (h : Ms.PartsOf m mtu ps) : ∀ p ∈ ps,p.length≤m.ev.length∧∀ e ∈ p,e ∈ m.ev:=by
  unfold Ms.PartsOf at h
  split at h
  · exact h.mem
  · rw [h];intro p hp;cases hp
theorem fitM_cases (m : Ms.Msg) (mtu : Int) : Ms.fitM m mtu = (0,2)∨∃ mt : Nat,mtu = (mt : Int)∧512≤mt∧mt≤4096∧m.kind = 5∧Ms.rightM m = true∧Ms.fitM m mtu = (Ms.fitN m mt m.ev,0):=by
  by_cases h : 512≤mtu∧mtu≤4096∧m.kind = 5∧Ms.rightM m = true
  · refine .inr ⟨mtu.toNat,by omega,by omega,by omega,h.2.2.1,h.2.2.2,?_⟩
    unfold Ms.fitM
    rw [if_pos h]
  · refine .inl ?_
    unfold Ms.fitM
    rw [if_neg h]
structure SplAll (w0 : World) (x : MgV) (mtu : Int) (A : Option Addr) (c : Nat) (zs : List MgV) (w' : World) : Prop where
  row : OwnMg w' w0.heap.size A zs.length c zs
  own : ∀ z ∈ zs,MgOwn w' w0.heap.size z
  ps : ∃ ps,zs.map (·.m) = ps.map (Ms.evs x.m)∧Ms.PartsOf x.m mtu ps
  bel : Below w0.heap.size w0 w'
theorem SplAll.below {w0 w w' : World} {x : MgV} {mtu : Int} {A : Option Addr} {c : Nat} {zs : List MgV} (h : SplAll w0 x mtu A c zs w) (hb : Below w.heap.size w w') : SplAll w0 x mtu A c zs w' :=
  ⟨h.row.below hb (Nat.le_refl _),fun z hz=>(h.own z hz).below hb,h.ps,h.bel.trans (hb.mono h.bel.size)⟩
theorem SplAll.none_ {w0 w' : World} {x : MgV} {mtu : Int} (hf : Ms.fitM x.m mtu = (0,2)) (hb : Below w0.heap.size w0 w') : SplAll w0 x mtu none 0 [] w' :=
  ⟨OwnMg.nil _ _,fun z hz=>by simp at hz,⟨[],rfl,by unfold Ms.PartsOf;rw [hf,if_neg (by decide)]⟩,hb⟩
theorem SplEnd.all {w0 w' : World} {x : MgV} {mt : Nat} {A : Option Addr} {c : Nat} {zs : List MgV} (h : SplEnd w0 x mt A c zs w') (hf : (Ms.fitM x.m (mt : Int)).2 = 0) : SplAll w0 x (mt : Int) A c zs w':=by
  obtain ⟨h1,h2,⟨ps,h3,h4⟩,h5⟩:=h;exact ⟨h1,h2,⟨ps,h3,by unfold Ms.PartsOf;rw [if_pos hf];exact h4⟩,h5⟩
theorem csplit_all (x : MgV) (mtu : Int) (w0 : World) (h : MgC w0 x) :
    Calls Try.prog 22 #[.agg x.cs,.int .i64 mtu] w0 fun e w'=>∃ A c zs,e = .returned (.tuple #[.slice A zs.length c,.int .i64 ((Ms.fitM x.m mtu).2 : Nat)])∧SplAll w0 x mtu A c zs w':=by
  rcases fitM_cases x.m mtu with hf | ⟨mt,rfl,h1,h2,hk,hr,hf⟩
  · refine (csplit_bad x mtu w0 h hf).mono fun e w' ⟨he,hb⟩=>⟨none,0,[],?_,SplAll.none_ hf hb⟩
    rw [he,hf]
    rfl
  · refine (csplit_any x mt w0 (h.dl hk hr) h h1 h2).mono fun e w' ⟨A,c,zs,he,hs⟩=>⟨A,c,zs,?_,hs.all (by rw [hf])⟩
    rw [he,hf]
    rfl
theorem rsplit_all (x : MgV) (mtu : Int) (w0 : World) (h : MgC w0 x) (b2 : x.n2≤100000) :
    Calls Try.prog 23 #[.agg x.cs,.int .i64 mtu] w0 fun e w'=>∃ A c zs,e = .returned (.tuple #[.slice A zs.length c,.int .i64 ((Ms.fitM x.m mtu).2 : Nat)])∧SplAll w0 x mtu A c zs w':=by
  rcases fitM_cases x.m mtu with hf | ⟨mt,rfl,h1,h2,hk,hr,hf⟩
  · refine (rsplit_bad x mtu w0 h b2 hf).mono fun e w' ⟨he,hb⟩=>⟨none,0,[],?_,SplAll.none_ hf hb⟩
    rw [he,hf]
    rfl
  · refine (rsplit_any x mt w0 (h.dl hk hr) h h1 h2).mono fun e w' ⟨A,c,zs,he,hs⟩=>⟨A,c,zs,?_,hs.all (by rw [hf])⟩
    rw [he,hf]
    rfl
theorem SplAll.part {w0 w : World} {x : MgV} {mtu : Int} {A : Option Addr} {c : Nat} {zs : List MgV} (h : SplAll w0 x mtu A c zs w) {wx : World} (hx : MgC wx x) (hn2 : x.n2≤100000) : ∀ z ∈ zs,MgSm w z∧MgC w z∧z.n2≤x.n2:=fun z hz=>by
  obtain ⟨ps,e1,e2⟩:=h.ps;have hm : z.m ∈ zs.map (·.m):=List.mem_map_of_mem hz;rw [e1] at hm;obtain ⟨p,hp,hzm⟩:=List.mem_map.1 hm;obtain ⟨q1,q2⟩:=e2.mem p hp;have ho:=h.own z hz
  have l1 : z.n1 = x.n1:=by rw [ho.more.1,← hzm,hx.ok.ok.more.1];rfl
  have l3 : z.n3 = x.n3:=by rw [ho.mem.1,← hzm,hx.ok.ok.mem.1];rfl
  have lx : x.m.ev.length = x.n2:=by rw [hx.ok.ok.es,List.length_map,← hx.ok.ok.ev.1]
  have l2 : z.n2 = p.length:=by rw [ho.ev.1,← List.length_map (f:=(·.e)),← ho.es,← hzm];rfl
  have hc:=ownsRow_le ho.ev.2
  have hmm : ∀ y ∈ z.xs,y.m≤100000:=fun y hy=>by
    rw [(ho.eo y hy).2.1.1]
    have hy2 : y.e ∈ z.m.ev:=by rw [ho.es];exact List.mem_map_of_mem hy
    rw [← hzm] at hy2;have hy3:=q2 _ hy2;rw [hx.ok.ok.es] at hy3;obtain ⟨u,hu,hue⟩:=List.mem_map.1 hy3;obtain ⟨i,hi,rfl⟩:=List.getElem_of_mem hu;have hq:=(hx.ok.ok.ev.2 i _ (List.getElem?_eq_getElem hi)).1;rw [← hue,← hq.2.1.1];exact hx.hm _ hu
  have hin : MgIn w z:=ho.mgin (by omega) (by rw [l3];exact hx.ok.b3);have b1:=hx.b1;have b3:=hx.b3;exact ⟨⟨hin,by omega,by omega,fun y hy=>by have:=hmm y hy;omega⟩,⟨hin,hc.1,hc.2,by omega,by omega,hmm⟩,by omega⟩
theorem SplAll.same {w0 w w0' w1 : World} {x y : MgV} {mtu : Int} {A A' : Option Addr} {c c' : Nat} {zs zs' : List MgV} (h : SplAll w0 x mtu A c zs w) (h' : SplAll w0' y mtu A' c' zs' w1) (he : x.m = y.m) : zs.map (·.m) = zs'.map (·.m):=by
  obtain ⟨ps,e1,e2⟩:=h.ps;obtain ⟨ps',e1',e2'⟩:=h'.ps;rw [← he] at e1' e2';rw [e1,e1',e2.one e2']
def WrT (w : World) (B : Nat) (T : TypeId) (s : Nat) (A : Option Addr) (n : Nat) : Prop:=0 < n→∃ q cur,A = some ⟨q,0,none⟩∧Blk w q T cur∧n * s≤cur.size∧B≤q
theorem WrT.of_own {w : World} {B : Nat} {T : TypeId} {s : Nat} {A : Option Addr} {n c : Nat} {xs : List Value} (h : w.ownsRow B T s (.slice A n c) n xs) : WrT w B T s A n:=fun hn=>by
  rcases h.2 with ⟨_,h0⟩ | ⟨g,cap,cur,hv,hb,hh,h1,_,h3,_⟩
  · omega
  · injection hv with hA
    subst hA;exact ⟨g,cur,rfl,hh,by rw [h3];exact Nat.mul_le_mul_right s h1,hb⟩
theorem WrT.set {w : World} {B : Nat} {T : TypeId} {s : Nat} {A : Option Addr} {n : Nat} (h : WrT w B T s A n) (q : Nat) (j : Nat) (v : Value) : WrT (w.setCell ⟨q,j,none⟩ v) B T s A n:=fun hn=>by
  obtain ⟨q',cur',hA,hB,hs,hb⟩:=h hn
  by_cases e : q' = q
  · subst e
    exact ⟨q',_,hA,hB.set_ j v,by simpa using hs,hb⟩
  · exact ⟨q',cur',hA,hB.far (p:=⟨q,j,none⟩) e v,hs,hb⟩
structure LW (B : Nat) (w0 : World) (A : Option Addr) (zs : List MgV) (w : World) : Prop where
  row : ∀ i z,zs[i]? = some z→∃ q cur,A = some ⟨q,0,none⟩∧Blk w q 27 cur∧cur[i * 16 + 14]? = some (.slice z.A2 z.n2 z.c2)∧cur[i * 16 + 15]? = some (.slice z.A3 z.n3 z.c3)
  mem : ∀ z ∈ zs,WrT w B 62 3 z.A3 z.n3
  ev : ∀ z ∈ zs,WrT w B 50 14 z.A2 z.n2
  bel : Below B w0 w
theorem LW.set {B : Nat} {w0 w : World} {A : Option Addr} {zs : List MgV} (h : LW B w0 A zs w) {q : Nat} {T : TypeId} {cur : Array Value} (hq : Blk w q T cur) (hT : T ≠ 27) (hB : B≤q) (j : Nat) (v : Value) : LW B w0 A zs (w.setCell ⟨q,j,none⟩ v):=by
  refine ⟨fun i z hi=>?_,fun z hz=>(h.mem z hz).set q j v,fun z hz=>(h.ev z hz).set q j v,h.bel.setCell (p:=⟨q,j,none⟩) hB v⟩;obtain ⟨q',cur',hA,hB',h1,h2⟩:=h.row i z hi;exact ⟨q',cur',hA,hB'.far (p:=⟨q,j,none⟩) (blk_ne hB' hq (fun e=>hT e.symm)) v,h1,h2⟩
theorem SplAll.lw {w0 w : World} {x : MgV} {mtu : Int} {A : Option Addr} {c : Nat} {zs : List MgV} (h : SplAll w0 x mtu A c zs w) : LW w0.heap.size w0 A zs w:=by
  refine ⟨fun i z hi=>?_,fun z hz=>WrT.of_own (h.own z hz).mem.2,fun z hz=>WrT.of_own (h.own z hz).ev.2,h.bel⟩;have hi2 : i < zs.length:=(List.getElem?_eq_some_iff.1 hi).1;obtain ⟨q,rfl,_,_⟩:=h.row.form (by omega);obtain ⟨cur,hc⟩:=ownsRow_type h.row.2 rfl;have hb : Blk w q 27 cur:=hc;exact ⟨q,cur,rfl,hb,by rw [← hb.cell];exact h.row.cell hi rfl,by rw [← hb.cell];exact h.row.cell hi rfl⟩
theorem evSum_mem (xs : List EvV) : ∀ x ∈ xs,x.m≤evSum xs:=by
  unfold evSum
  induction xs with
  | nil=>simp
  | cons y l ih =>
    intro x hx
    simp only [List.map_cons,List.sum_cons]
    rcases List.mem_cons.1 hx with rfl | h
    · omega
    · have:=ih x h;omega
end Go.Proofs.Ytcgalmnllegnbaa

namespace Go.Proofs.Ytcgalmnllegnbaa
set_option linter.unusedVariables false
set_option linter.unusedSimpArgs false
open Go.ChangeShapes Go.WideShapes Go.ChangeAt Go.RowKit Go.Deep
open Dot
set_option maxRecDepth 100000
section
variable {H : Type} {enc : TypeId × Value→H} {W : World} {base : Nat} {sp : Nat→Bool} {held : Bool} {fuel : Nat} {cs : List Value} {x : DataW H × List MemPlace}
theorem rd_arr8 (hf : DataW.trod enc Try.prog W base sp held fuel 22 cs = some x) : ∃ l : List Int,cs = l.map (Value.int .i64)∧l.length = 8∧Wf l:=by
  obtain ⟨xs,m,_,_,hl,hxl,hg⟩:=DataW.trod_array Try.underlying22 hf;rw [cellsA] at hl;rw [cellsI] at hg
  have key : ∀ i,i < 8→∃ z : Int,cs[i]? = some (.int .i64 z)∧(Lit.int .i64 z).wf = true:=fun i hi=>by
    have h:=hg i hi;rw [List.getElem?_eq_getElem (by omega)] at h;obtain ⟨z,h1,h2⟩:=rd_int h;rw [Nat.mul_one] at h1;refine ⟨z,?_,wf_of h2.1 h2.2⟩
    have : ((cs.drop i).take 1)[0]? = some (.int .i64 z):=by rw [h1];rfl
    rw [List.getElem?_take,if_pos (by omega),List.getElem?_drop] at this;exact this
  have hex : ∀ i,∃ z : Int,i < 8→cs[i]? = some (.int .i64 z)∧(Lit.int .i64 z).wf = true:=fun i=>by
    by_cases hi : i < 8
    · obtain ⟨z,h⟩:=key i hi
      exact ⟨z,fun _=>h⟩
    · exact ⟨0,fun h=>absurd h hi⟩
  refine ⟨(List.range 8).map fun i=>(hex i).choose,?_,by simp,fun z hz=>?_⟩
  · apply List.ext_getElem?
    intro i
    by_cases hi : i < 8
    · rw [((hex i).choose_spec hi).1,List.getElem?_map,List.getElem?_map,List.getElem?_range hi]
      rfl
    · rw [List.getElem?_eq_none (by omega),List.getElem?_eq_none (by simp;omega)]
  · obtain ⟨i,hi,rfl⟩:=List.mem_map.1 hz
    exact ((hex i).choose_spec (by simpa using hi)).2
end
section
variable {H : Type} {enc : TypeId × Value→H} {W : World} {base : Nat} {sp : Nat→Bool} {held : Bool} {r : Reach} {b0 : Nat} {v : Value} {d : DataW H} {p : List MemPlace}
end
end Go.Proofs.Ytcgalmnllegnbaa

namespace Go.Proofs.Ytcgalmnllegnbaa
set_option linter.unusedVariables false
set_option linter.unusedSimpArgs false
open Go.ChangeShapes Go.WideShapes Go.ChangeAt Go.RowKit Go.Deep
open Dot Evt
open Ms (Mem)
set_option maxRecDepth 100000
theorem cellsMb : (Try.prog).cellsOf 62 = 3:=by kernel_rfl
theorem cellsMbs : (Try.prog).cellsOf 25 = 1:=by kernel_rfl
theorem cellsEs : (Try.prog).cellsOf 24 = 1:=by kernel_rfl
theorem cellsMg : (Try.prog).cellsOf 27 = 16:=by kernel_rfl
section
variable {H : Type} {enc : TypeId × Value→H} {W : World} {base : Nat} {sp : Nat→Bool} {held : Bool} {fuel : Nat} {cs : List Value} {x : DataW H × List MemPlace}
theorem rd_mb (hf : DataW.trod enc Try.prog W base sp held fuel 62 cs = some x) : ∃ d : Mem,cs = [.int .i64 d.1,.int .i64 d.2.1,.int .i64 d.2.2]:=by
  have hl:=rd_len Try.underlying62 cellsMb hf;obtain ⟨_,_,g0⟩:=rd_field Try.underlying62 hf 0 3 0 1 rfl cellsIq;obtain ⟨_,_,g1⟩:=rd_field Try.underlying62 hf 1 3 1 1 rfl cellsIq;obtain ⟨_,_,g2⟩:=rd_field Try.underlying62 hf 2 3 2 1 rfl cellsIq;obtain ⟨x0,e0,_⟩:=rd_int g0;obtain ⟨x1,e1,_⟩:=rd_int g1;obtain ⟨x2,e2,_⟩:=rd_int g2
  match cs,hl with
  | [a,b,c],_ =>
    simp at e0 e1 e2
    exact ⟨(x0,x1,x2),by rw [e0,e1,e2]⟩
theorem rd_mbs (hf : DataW.trod enc Try.prog W base sp held fuel 25 cs = some x) : ∃ (A : Option Addr) (n c : Nat) (l : List Mem),cs = [.slice A n c]∧RdMb W W.heap.size A n l∧n≤maxLen:=by
  obtain ⟨a,n,c,hcs,hnc,hcm,hg⟩:=rd_slice Try.underlying25 cellsMb hf
  have key : ∀ i,i < n→∃ (ad : Addr) (d : Mem),a = some ad∧MbAt W W.heap.size (ad.add (i * 3)) d:=fun i hi=>by
    obtain ⟨ad,cs',f',x',e,hl,hc,ht⟩:=hg i hi;obtain ⟨d,rfl⟩:=rd_mb ht;have h0:=hc 0 (by omega);have h1:=hc 1 (by omega);have h2:=hc 2 (by omega);rw [add_add] at h0 h1 h2;rw [Nat.add_zero] at h0;rw [add_nextMb _ _ _ (by decide)] at h1 h2;exact ⟨ad,d,e,World.block_lt_of_cell? W _ h0,h0,h1,h2⟩
  have hex : ∀ i,∃ d : Mem,i < n→∃ ad,a = some ad∧MbAt W W.heap.size (ad.add (i * 3)) d:=fun i=>by
    by_cases hi : i < n
    · obtain ⟨ad,d,h⟩:=key i hi
      exact ⟨d,fun _=>⟨ad,h⟩⟩
    · exact ⟨(0,0,0),fun h=>absurd h hi⟩
  refine ⟨a,n,c,(List.range n).map fun i=>(hex i).choose,hcs,⟨by simp,fun i d hi=>?_⟩,Nat.le_trans hnc hcm⟩
  have hi' : i < n:=by
    have:=(List.getElem?_eq_some_iff.1 hi).1
    simpa using this
  rw [List.getElem?_map,List.getElem?_range hi'] at hi
  injection hi with hi
  rw [← hi];exact (hex i).choose_spec hi'
theorem rdz_msg (hf : DataW.trod enc Try.prog W base sp held fuel 27 cs = some x) (hs : Sz 27 x.1) : ∃ v : MgV,cs = v.cs.toList∧MgOk W W.heap.size v∧Wf v.m.u∧v.n1≤maxLen∧v.n2≤10000000000000∧v.n3≤maxLen:=by
  have hl:=rd_len Try.underlying27 cellsMg hf;obtain ⟨_,_,g0⟩:=rd_field Try.underlying27 hf 0 3 0 1 rfl cellsIq;obtain ⟨_,_,g1⟩:=rd_field Try.underlying27 hf 1 3 1 1 rfl cellsIq;obtain ⟨_,_,g2⟩:=rd_field Try.underlying27 hf 2 3 2 1 rfl cellsIq;obtain ⟨_,_,g3⟩:=rd_field Try.underlying27 hf 3 3 3 1 rfl cellsIq;obtain ⟨_,_,g4⟩:=rd_field Try.underlying27 hf 4 3 4 1 rfl cellsIq;obtain ⟨_,_,g5⟩:=rd_field Try.underlying27 hf 5 22 5 8 rfl cellsA;obtain ⟨_,_,g6⟩:=rd_field Try.underlying27 hf 6 23 13 1 rfl cellsDs;obtain ⟨_,_,g7,z7⟩:=rdz_field Try.underlying27 hf hs 7 24 14 1 rfl cellsEs;obtain ⟨_,_,g8⟩:=rd_field Try.underlying27 hf 8 25 15 1 rfl cellsMbs;obtain ⟨x0,e0,_⟩:=rd_int g0;obtain ⟨x1,e1,_⟩:=rd_int g1;obtain ⟨x2,e2,_⟩:=rd_int g2;obtain ⟨x3,e3,_⟩:=rd_int g3;obtain ⟨x4,e4,_⟩:=rd_int g4;obtain ⟨U,e5,hU,wU⟩:=rd_arr8 g5;obtain ⟨A1,n1,c1,l1,e6,hr1,hn1⟩:=rd_dots g6;obtain ⟨A2,n2,c2,xs,e7,hr2,hn2⟩:=rdz_evs g7 z7;obtain ⟨A3,n3,c3,l3,e8,hr3,hn3⟩:=rd_mbs g8;refine ⟨⟨⟨x0,x1,x2,x3,x4,U,l1,xs.map (·.e),l3⟩,A1,n1,c1,xs,A2,n2,c2,A3,n3,c3⟩,?_,⟨hU,hr1,hr2,rfl,hr3⟩,wU,hn1,hn2,hn3⟩
  match U,hU with
  | [u0,u1,u2,u3,u4,u5,u6,u7],_ =>
    match cs,hl with
    | [a0,a1,a2,a3,a4,a5,a6,a7,a8,a9,a10,a11,a12,a13,a14,a15],_ =>
      simp at e0 e1 e2 e3 e4 e5 e6 e7 e8
      obtain ⟨rfl,rfl,rfl,rfl,rfl,rfl,rfl,rfl⟩:=e5;subst e0 e1 e2 e3 e4 e6 e7 e8
      rfl
end
section
variable {H : Type} {enc : TypeId × Value→H} {W : World} {base : Nat} {sp : Nat→Bool} {held : Bool} {r : Reach} {b0 : Nat} {v : Value} {d : DataW H} {p : List MemPlace}
theorem open_msgz (hv : Value.okWide Try.prog W r b0 27 v) (h : DataW.Trod enc Try.prog W base sp held 27 v d p) (hs : Sz 27 d) :
    ∃ x : MgV,v = .agg x.cs∧MgOk W W.heap.size x∧Wf x.m.u∧x.n1≤maxLen∧x.n2≤10000000000000∧x.n3≤maxLen:=by
  obtain ⟨cs,rfl,hsz⟩:=okWide_struct Try.underlying27 hv;obtain ⟨fuel,hf0⟩:=h;have hf : DataW.trod enc Try.prog W base sp held fuel 27 cs.toList = some (d,p):=hf0;obtain ⟨x,h1,h2⟩:=rdz_msg hf hs;exact ⟨x,by rw [← Array.toArray_toList (xs:=cs),h1],h2⟩
end
end Go.Proofs.Ytcgalmnllegnbaa

namespace Go.Proofs.Ytcgalmnllegnbaa
set_option linter.unusedVariables false
set_option linter.unusedSimpArgs false
open Go.ChangeShapes Go.WideShapes Go.ChangeAt Go.RowKit Go.Deep
open Dot Evt
set_option maxRecDepth 100000
section
variable {H : Type} {enc : TypeId × Value→H} {W : World} {base : Nat} {sp : Nat→Bool} {held : Bool} {r : Reach} {b0 : Nat} {v : Value} {d : DataW H} {p : List MemPlace}
theorem open_msgc (hv : Value.okWide Try.prog W r b0 27 v) (h : DataW.Trod enc Try.prog W base sp held 27 v d p) (hs : Sz 27 d) :
    ∃ x : MgV,v = .agg x.cs∧MgOk W W.heap.size x∧Wf x.m.u∧x.n1≤maxLen∧x.n2≤10000000000000∧x.n3≤maxLen∧x.n2≤x.c2∧x.c2≤maxLen:=by
  obtain ⟨x,rfl,h1,h2,h3,h4,h5⟩:=open_msgz hv h hs;obtain ⟨fuel,hf0⟩:=h;have hf : DataW.trod enc Try.prog W base sp held fuel 27 x.cs.toList = some (d,p):=hf0;obtain ⟨_,_,g7⟩:=rd_field Try.underlying27 hf 7 24 14 1 rfl cellsEs;obtain ⟨a,n,c,e,hn,hc,_⟩:=rd_slice Try.underlying24 cellsE g7;have e2 : (x.cs.toList.drop 14).take 1 = [.slice x.A2 x.n2 x.c2]:=rfl;rw [e2] at e
  injection e with e _
  injection e with _ e3 e4
  exact ⟨x,rfl,h1,h2,h3,h4,h5,by rw [e3,e4];exact hn,by rw [e4];exact hc⟩
end
end Go.Proofs.Ytcgalmnllegnbaa

namespace Go.Proofs.Ytcgalmnllegnbaa.ChunkSplits
set_option linter.unusedVariables false
set_option linter.unusedSimpArgs false
set_option maxRecDepth 100000
open Go.ChangeShapes Go.WideShapes Go.ChangeAt Go.RowKit Go.Deep
open Dot Evt
open Ms (Mem)
set_option linter.unusedVariables false
set_option linter.unusedSimpArgs false
set_option maxHeartbeats 8000000 in
theorem walk (x : MgV) (mtu : Int) (w0 : World) (hk : MgOk w0 w0.heap.size x) (wu : Wf x.m.u) (b1 : x.n1≤maxLen) (b2 : x.n2≤10000000000000) (b3 : x.n3≤maxLen) (bc : x.n2≤x.c2) (bm : x.c2≤maxLen) (m1 : -9223372036854775808≤mtu) (m2 : mtu≤9223372036854775807) :
    Calls Try.prog 6 #[.agg x.cs,.int .i64 mtu] w0 fun e w'=>e = .returned (.bool true)∧Below w0.heap.size w0 w':=by
  have h : MgIn w0 x:=⟨hk,wu,b2,b3⟩
  have HIN:=Lib.hid fun (w' : World) (hb : Below w0.heap.size w0 w')=>h.below hb
  have HCAP:=Lib.hid (And.intro bc bm);have HEL:=Lib.hid h.ok.ev.1;have SZ:=Lib.hid x.size
  have HGR:=Lib.hid fun (w' : World) (hb : Below w0.heap.size w0 w')=>great21_any x w' (h.below hb)
  clear hk wu b1 b2 b3 h bc bm m1 m2;obtain ⟨C,hC⟩ : ∃ C,C = x.cs:=⟨_,rfl⟩;rw [← hC] at SZ HGR ⊢;have HC:=Lib.hid hC;clear hC
  go_enter Try.func6,Try.ntmps6
  go_upto_region 1 with fail
  refine nameW ?_;intro W hW;obtain ⟨g,hg⟩ : ∃ g,g = w0.heap.size:=⟨_,rfl⟩;rw [← hg]
  have kb : Blk W g 27 C:=by rw [hW,hg];exact Blk.new w0 _ _
  have gb : Below w0.heap.size w0 W:=by rw [hW];exact (Below.refl _ _).alloc (Nat.le_refl _) _
  clear hW hg;go_wp2_with fail;refine (alive21 W).mono ?_;rintro e w1 ⟨rfl,bb⟩;have kb:=kb.below bb kb.lt;have gb:=gb.trans (bb.mono gb.size);clear bb
  go_wp2_with ((with_reducible refine wpList_ld rowMg kb SZ.out ?_ ?_);rotate_left;(rfl))
  refine (HGR.out w1 gb).mono ?_;rintro e w2 ⟨⟨G,rfl,hG⟩,bb⟩;have kb:=kb.below bb kb.lt;have gb:=gb.trans (bb.mono gb.size);clear bb HGR
  cases G
  case true =>
    go_wp2_with fail;go_ret;exact ⟨rfl,gb⟩
  obtain ⟨hn1,hn3,hsum,hn2⟩:=hG rfl
  have hxm : ∀ y ∈ x.xs,y.m≤3000:=fun y hy=>by have:=evSum_mem x.xs y hy;omega
  have HX:=Lib.hid fun (w' : World) (hb : Below w0.heap.size w0 w')=>(⟨HIN.out w' hb,HCAP.out.1,HCAP.out.2,by omega,by omega,fun y hy=>by have:=hxm y hy;omega⟩ : MgC w' x)
  have HN2:=Lib.hid hn2;clear hG hn1 hn3 hsum hxm hn2;have HCP:=Lib.hid (by have:=rcopy17_own x w2 (HX.out w2 gb).ok (HX.out w2 gb).b1 (by have:=HN2.out;omega) (HX.out w2 gb).b3 (HX.out w2 gb).hm;rw [← HC.out] at this;exact this)
  go_wp2_with ((with_reducible refine wpList_ld rowMg kb SZ.out ?_ ?_);rotate_left;(rfl))
  refine HCP.out.mono ?_;rintro e w3 ⟨y,rfl,hym,hyi,e1,e2,e3,bb,ec1,ec2,ehm,_,_⟩;have kb:=kb.below bb kb.lt;have gb:=gb.trans (bb.mono gb.size)
  have HY3:=Lib.hid fun (w' : World) (hb : Below w3.heap.size w3 w')=>(⟨hyi.below hb,ec1,ec2,by rw [e1];exact (HX.out w2 (by assumption)).b1,by rw [e3];exact (HX.out w2 (by assumption)).b3,ehm⟩ : MgC w' y)
  have HYM:=Lib.hid (And.intro hym e2);have SY:=Lib.hid y.size;have OY:=Lib.hid y.one;obtain ⟨CY,hCY⟩ : ∃ CY,CY = y.cs:=⟨_,rfl⟩;rw [← hCY] at SY OY ⊢;have HCY:=Lib.hid hCY;clear bb hym hyi e1 e2 e3 ec1 ec2 ehm hCY HCP
  go_upto_region 6 with ((with_reducible refine wpList_st (cs:=CY) rowMg (Blk.new _ _ _) SY.out ?_ OY.out ?_ ?_ ?_);(rfl);rotate_left;(rfl);(rfl);intro w5 ky gy zy)
  have bn : Below w3.heap.size w3 w5:=new_below gy;have kb:=kb.below bn kb.lt;have gb:=gb.trans (bn.mono gb.size);obtain ⟨gY,hgY⟩ : ∃ gY,gY = w3.heap.size:=⟨_,rfl⟩;rw [← hgY] at ky ⊢
  have HY:=Lib.hid fun (w' : World) (hb : Below w5.heap.size w5 w')=>(HY3.out w5 bn).below hb
  clear gy zy hgY HY3 bn;obtain ⟨E1,hE1⟩ : ∃ E1,E1 = (Ms.fitM x.m mtu).1:=⟨_,rfl⟩;obtain ⟨E2,hE2⟩ : ∃ E2,E2 = (Ms.fitM x.m mtu).2:=⟨_,rfl⟩;have HSP:=Lib.hid (by have:=csplit_all y mtu w5 (HY.out w5 (Below.refl _ _));rw [← HCY.out,HYM.out.1,← hE2] at this;exact this)
  have HRS:=Lib.hid fun (w' : World) (hb : Below w0.heap.size w0 w')=>(by have:=rsplit_all x mtu w' (HX.out w' hb) (by have:=HN2.out;omega);rw [← HC.out,← hE2] at this;exact this : Calls Try.prog 23 #[.agg C,.int .i64 mtu] w' fun e w''=>∃ A c zs,e = .returned (.tuple #[.slice A zs.length c,.int .i64 (E2 : Nat)])∧SplAll w' x mtu A c zs w'')
  have HFC:=Lib.hid fun (w' : World) (hb : Below w5.heap.size w5 w')=>(by have:=cfit_any y mtu w' (HY.out w' hb);rw [← HCY.out,HYM.out.1,← hE1,← hE2] at this;exact this : Calls Try.prog 24 #[.agg CY,.int .i64 mtu] w' fun e w''=>e = .returned (.tuple #[.int .i64 (E1 : Nat),.int .i64 (E2 : Nat)])∧Below w'.heap.size w' w'')
  have HFR:=Lib.hid fun (w' : World) (hb : Below w0.heap.size w0 w')=>(by have:=rfit_any x mtu w' (HX.out w' hb) (by have:=HN2.out;omega);rw [← HC.out,← hE1,← hE2] at this;exact this : Calls Try.prog 25 #[.agg C,.int .i64 mtu] w' fun e w''=>e = .returned (.tuple #[.int .i64 (E1 : Nat),.int .i64 (E2 : Nat)])∧Below w'.heap.size w' w'')
  clear hE1 hE2
  go_wp2_with ((with_reducible refine wpList_ld rowMg ky SY.out ?_ ?_);rotate_left;(rfl))
  refine HSP.out.mono ?_;rintro e w6 ⟨A1,c1,zs,rfl,S1⟩;have kb6:=kb.below S1.bel kb.lt;have ky6:=ky.below S1.bel ky.lt;have gb6:=gb.trans (S1.bel.mono gb.size);have HS1:=Lib.hid S1;clear S1 HSP
  go_wp2_with ((with_reducible refine wpList_ld rowMg kb6 SZ.out ?_ ?_);rotate_left;(rfl))
  refine (HRS.out w6 gb6).mono ?_;rintro e w7 ⟨A2,c2,ys,rfl,S2⟩;have kb7:=kb6.below S2.bel kb6.lt;have ky7:=ky6.below S2.bel ky6.lt;have gb7:=gb6.trans (S2.bel.mono gb6.size);have hmm:=HS1.out.same S2 HYM.out.1
  have hlen : ys.length = zs.length:=by have:=congrArg List.length hmm;rw [List.length_map,List.length_map] at this;exact this.symm
  rw [hlen];have HS1:=Lib.hid (HS1.out.below S2.bel);have HS2:=Lib.hid S2;have HMM:=Lib.hid (And.intro hmm hlen);clear S2 HRS hmm hlen kb6 ky6
  go_wp2_with ((with_reducible refine wpList_ld rowMg ky7 SY.out ?_ ?_);rotate_left;(rfl))
  refine (HFC.out w7 HS1.out.bel).mono ?_;rintro e w8 ⟨rfl,b8⟩;have kb8:=kb7.below b8 kb7.lt;have ky8:=ky7.below b8 ky7.lt;have gb8:=gb7.trans (b8.mono gb7.size);have HS1:=Lib.hid (HS1.out.below b8);have HS2:=Lib.hid (HS2.out.below b8);clear b8 HFC kb7 ky7
  go_wp2_with ((with_reducible refine wpList_ld rowMg kb8 SZ.out ?_ ?_);rotate_left;(rfl))
  refine (HFR.out w8 gb8).mono ?_;rintro e w9 ⟨rfl,b9⟩;have kb9:=kb8.below b9 kb8.lt;have ky9:=ky8.below b9 ky8.lt;have gb9:=gb8.trans (b9.mono gb8.size);have HS1:=Lib.hid (HS1.out.below b9);have HS2:=Lib.hid (HS2.out.below b9);clear b9 HFR kb8 ky8
  have hzl : zs.length≤9223372036854775807:=by
    have:=ownsRow_le HS1.out.row.2
    unfold maxLen at this
    omega
  have hall:=rall17_eq A1 A2 zs.length c1 c2 zs ys w9 HS1.out.row.row (by have:=HS2.out.row.row;rw [HMM.out.2] at this;exact this) HMM.out.1 (fun z hz=>(HS1.out.part (HY.out w5 (Below.refl _ _)) (by rw [HYM.out.2];have:=HN2.out;omega) z hz).1) (fun z hz=>(HS2.out.part (HX.out w0 (Below.refl _ _)) (by have:=HN2.out;omega) z hz).1.ok) (by omega);have HALL:=Lib.hid hall;clear hall;go_wp2_with fail;refine HALL.out.mono ?_;rintro e w10 ⟨rfl,b10⟩;have kb10:=kb9.below b10 kb9.lt;have ky10:=ky9.below b10 ky9.lt;have gb10:=gb9.trans (b10.mono gb9.size);have HL:=Lib.hid (HS1.out.below b10).lw;have HBZ:=Lib.hid (show ∀ z ∈ zs,z.n2≤10000000000000∧z.n3≤1000000 from fun z hz=>by have h:=HS1.out.part (HY.out w5 (Below.refl _ _)) (by rw [HYM.out.2];have:=HN2.out;omega) z hz;exact ⟨h.2.1.ok.b2,h.1.b3⟩);clear b10 HALL HS1 HS2 kb9 ky9;go_wp2_with fail;obtain ⟨nz,hnz⟩ : ∃ nz,nz = zs.length:=⟨_,rfl⟩;rw [← hnz] at hzl ⊢;have HNZ:=Lib.hid hnz;clear hnz
  go_loopw [14,15,16,68] (fun _ _ _ i wr=>∃ k : Nat,k≤nz∧i = .int .i64 (k : Nat)∧LW w5.heap.size w5 A1 zs wr) (fun _ _ _ i _=>nz - (intOf i).toNat)
  case atStart=>exact ⟨0,by omega,rfl,HL.out⟩
  case round =>
  obtain ⟨k,hk,rfl,hL⟩:=hrel;have HLr:=Lib.hid hL;clear hL
  by_cases hlt : k < nz
  · have hkl : k < zs.length:=by rw [← HNZ.out];exact hlt
    obtain ⟨q,cur,hA,hB,h14,h15⟩:=HLr.out.row k _ (List.getElem?_eq_getElem hkl)
    have hwm:=fun (w : World) (h : LW w5.heap.size w5 A1 zs w)=>h.mem _ (List.getElem_mem hkl)
    have hwe:=fun (w : World) (h : LW w5.heap.size w5 A1 zs w)=>h.ev _ (List.getElem_mem hkl)
    have hrw:=fun (w : World) (h : LW w5.heap.size w5 A1 zs w)=>(by
      obtain ⟨q',cur',hA',hB',g14,g15⟩:=h.row k _ (List.getElem?_eq_getElem hkl);rw [hA] at hA'
      injection hA' with hA'
      injection hA' with hA'
      subst hA'
      exact ⟨by rw [hB'.cell];exact g14,by rw [hB'.cell];exact g15⟩ : w.cell? ⟨q,k * 16 + 14,none⟩ = some (.slice zs[k].A2 zs[k].n2 zs[k].c2)∧w.cell? ⟨q,k * 16 + 15,none⟩ = some (.slice zs[k].A3 zs[k].n3 zs[k].c3))
    have hbz:=HBZ.out _ (List.getElem_mem hkl)
    generalize zs[k] = z at *
    have HWM:=Lib.hid hwm;have HWE:=Lib.hid hwe;have HRW:=Lib.hid hrw
    have hk0 : (0 : Int)≤(k : Int):=by omega
    have hkn : (k : Int) < (nz : Int):=by omega
    have c15:=(hrw wr HLr.out).2;obtain ⟨hb2,hb3⟩:=hbz;clear hwm hwe hrw hB h14 h15;subst hA;go_wp2_with fail
    go_loopw [15,77] (fun _ i wr=>∃ j : Nat,j≤z.n3∧i = .int .i64 (j : Nat)∧LW w5.heap.size w5 (some ⟨q,0,none⟩) zs wr) (fun _ i _=>z.n3 - (intOf i).toNat)
    case atStart=>exact ⟨0,by omega,rfl,HLr.out⟩
    case round =>
      clear c15;obtain ⟨j,hj,rfl,hL⟩:=hrel;have HL2:=Lib.hid hL;have c15:=(HRW.out _ hL).2;have c14:=(HRW.out _ hL).1;clear hL
      by_cases hjl : j < z.n3
      · obtain ⟨qm,cm,hA3,kM,hsm,hBm⟩:=HWM.out _ HL2.out (by omega)
        rw [hA3] at c15;have HLS:=Lib.hid (HL2.out.set kM (by decide) hBm (j * 3 + 1) (.int .i64 9));obtain ⟨v0,x0⟩ : ∃ v0,World.cell? wr ⟨qm,j * 3,none⟩ = some v0:=⟨_,(kM.cell _).trans (Array.getElem?_eq_getElem (by omega))⟩;obtain ⟨v1,x1⟩ : ∃ v1,World.cell? wr ⟨qm,j * 3 + 1,none⟩ = some v1:=⟨_,(kM.cell _).trans (Array.getElem?_eq_getElem (by omega))⟩;have x2:=kM.free (j * 3 + 1);have hl9:=kM.lt
        have hj0 : (0 : Int)≤(j : Int):=by omega
        have hjn : (j : Int) < (z.n3 : Int):=by omega
        clear kM hsm c14;go_wp2_with fail
        go_roundw
        case rel=>exact ⟨j + 1,by omega,by go_num,HLS.out⟩
        case measure=>simp [intOf];omega
      have hjn : ¬ (j : Int) < (z.n3 : Int):=by omega
      clear c15 hjl;go_wp2_with fail
      go_loopw [16,95] (fun _ i wr=>∃ j : Nat,j≤z.n2∧i = .int .i64 (j : Nat)∧LW w5.heap.size w5 (some ⟨q,0,none⟩) zs wr) (fun _ i _=>z.n2 - (intOf i).toNat)
      case atStart=>exact ⟨0,by omega,rfl,HL2.out⟩
      case round =>
        clear c14 hjn;obtain ⟨i,hi,rfl,hL⟩:=hrel;have HL3:=Lib.hid hL;have c14:=(HRW.out _ hL).1;clear hL
        by_cases hil : i < z.n2
        · obtain ⟨qm,cm,hA2,kM,hsm,hBm⟩:=HWE.out _ HL3.out (by omega)
          rw [hA2] at c14;have HLS:=Lib.hid (HL3.out.set kM (by decide) hBm (i * 14 + 2) (.int .i64 0));obtain ⟨v0,x0⟩ : ∃ v0,World.cell? wr ⟨qm,i * 14,none⟩ = some v0:=⟨_,(kM.cell _).trans (Array.getElem?_eq_getElem (by omega))⟩;obtain ⟨v1,x1⟩ : ∃ v1,World.cell? wr ⟨qm,i * 14 + 2,none⟩ = some v1:=⟨_,(kM.cell _).trans (Array.getElem?_eq_getElem (by omega))⟩;have x2:=kM.free (i * 14 + 2);have hl9:=kM.lt
          have hj0 : (0 : Int)≤(i : Int):=by omega
          have hjn : (i : Int) < (z.n2 : Int):=by omega
          clear kM hsm;go_wp2_with fail
          go_roundw
          case rel=>exact ⟨i + 1,by omega,by go_num,HLS.out⟩
          case measure=>simp [intOf];omega
        have hjn : ¬ (i : Int) < (z.n2 : Int):=by omega
        clear c14 hil;go_wp2_with fail
        go_roundw
        case rel=>exact ⟨k + 1,by omega,by go_num,HL3.out⟩
        case measure=>simp [intOf];omega
  have hkn : ¬ (k : Int) < (nz : Int):=by omega
  have hbel:=HLr.out.bel;have kbf:=kb.below hbel kb.lt;have kyf:=ky.below hbel ky.lt;have gbf:=gb.trans (hbel.mono gb.size);have hyf:=HY.out wr hbel;have HSM:=Lib.hid (by have:=rsame17_eq y x wr hyf.ok (HX.out wr gbf).ok HYM.out.1 (by have:=hyf.b1;omega) (by have:=hyf.b3;omega) (fun z hz=>by have:=hyf.hm z hz;omega);rw [← HC.out,← HCY.out] at this;exact this);clear hyf hbel
  go_wp2_with first
    | ((with_reducible refine wpList_ld rowMg kyf SY.out ?_ ?_);rotate_left;(rfl))
    | ((with_reducible refine wpList_ld rowMg kbf SZ.out ?_ ?_);rotate_left;(rfl))
  refine HSM.out.mono ?_;rintro e wz ⟨rfl,bz⟩;have gbz:=gbf.trans (bz.mono gbf.size);go_wp2_with fail;go_ret;exact ⟨rfl,gbz⟩
set_option maxRecDepth 100000 in
theorem lifted (os : Os) (started : os.Started) (H : Type) (enc : TypeId × Value→H) :
    ReturnsInHanded {} Try.checked os 6 .any (Rows.chunkSplitsSpec.pre6 enc Try.prog Try.f6 Rows.chunkSplitsRow.domain false) (Rows.chunkSplitsSpec.post enc Try.prog Try.f6 false true false false):=by
  refine returnsInHanded_of_change_sized (C:=Try.checked) own started (by kernel_rfl) Try.func6
    (ChangeSpec.witness6 (enc:=enc) (C:=Try.checked) false ⟨#[],#[.agg ZM,.int .i64 0],[]⟩ 8 (by kernel_rfl) (by kernel_rfl) (by kernel_rfl) (by kernel_rfl)) ?_
  intro W base args ds gs before hval0 hW hcnd hsz0 _;have hsz : (DataW.weightsEach Try.prog (Try.f6.params.toList ++ []) (ds ++ gs)).all (·≤reachBytes) = true:=hsz0;have hval : ∀ (j : Nat) t v,Try.f6.params[j]? = some t→args[j]? = some v→Value.okWide Try.prog W .any base t v:=hval0;have hW':=hW;obtain ⟨p,q,hA0,hV,rfl,hfz,hnd⟩:=hW;have hA : DataW.TrodAll enc Try.prog W 0 (fun _=>true) true Try.f6.params.toList args.toList ds p:=hA0;rw [Try.params6] at hA hval hsz;obtain ⟨v0,vs0,d0,ds0,p0,q0,hargs,rfl,rfl,h0,r0⟩:=trodAll_cons hA;obtain ⟨v1,vs1,d1,ds1,p1,q1,rfl,rfl,rfl,h1,r1⟩:=trodAll_cons r0;obtain ⟨rfl,rfl,rfl⟩:=trodAll_nil r1
  obtain rfl : args = #[v0,v1]:=by cases args;simp_all
  obtain ⟨rfl,rfl⟩:=trodVars_none hV
  have lt0 : ∀ x ∈ p0,x.block < W.heap.size:=by obtain ⟨m,hm⟩:=h0;exact DataW.trod_lt m _ _ _ hm
  have k0:=h0
  have lt1 : ∀ x ∈ p1,x.block < W.heap.size:=by obtain ⟨m,hm⟩:=h1;exact DataW.trod_lt m _ _ _ hm
  have k1:=h1;have sz0 : Sz 27 d0:=sz_arg (j:=0) hsz rfl rfl;obtain ⟨x0,rfl,hk0,wu0,p10,p20,p30,p40,p50⟩:=open_msgc (hval 0 27 v0 rfl rfl) h0 sz0;obtain ⟨x1,rfl,rfl,rfl,wf1⟩:=open_int Try.underlying3 (hval 1 3 v1 rfl rfl) h1
  have hb1 : -9223372036854775808≤x1∧x1≤9223372036854775807:=by
    have hmin : IntKind.i64.min = -9223372036854775808:=rfl;have hmax : IntKind.i64.max = 9223372036854775807:=rfl
    simp only [Lit.wf,Bool.and_eq_true,decide_eq_true_eq] at wf1
    omega
  clear hA0 hval0
  refine (walk x0 x1 W hk0 wu0 p10 p20 p30 p40 p50 hb1.1 hb1.2).mono fun e W' ⟨he,bel⟩=>?_
  subst he;exact ⟨_,rfl,_,_,_,[],_,[],hW',trodAll_mk1 (shut_bool Try.underlying4 _),(trodAll_cons_mk (Below.trod laidOut (by kernel_rfl) (of_decide_eq_true (by kernel_rfl)) k0 bel lt0) (trodAll_cons_mk (Below.trod laidOut (by kernel_rfl) (of_decide_eq_true (by kernel_rfl)) k1 bel lt1) trodAll_mk0)),rfl,bel.frame _,fun h=>by cases h⟩
theorem proved : Rows.ChunkSplitsSaid :=
  OpenClaim.holds_of_wide 6 Try.f6 rfl rfl rfl rfl rfl rfl rfl ⟨rfl,rfl,rfl,rfl,rfl⟩ rfl rfl rfl rfl rfl (by kernel_rfl) Try.func6 (by kernel_rfl)
    (of_decide_eq_true (by kernel_rfl)) (by unfold Func.isWrapper;first | (rw [if_pos (by decide +kernel)];kernel_rfl) | (rw [if_neg (by decide +kernel)];exact ⟨rfl,rfl⟩))
    (fun os started H enc _=>lifted os started H enc)
#print axioms proved
