import Derived.Test.YtcgalmnllegnbaaGreatFactsD
import Derived.Test.YtcgalmnllegnbaaGreatDotRight
import Derived.Test.YtcgalmnllegnbaaGreatVintRead
import Derived.Test.YtcgalmnllegnbaaGreatMsgGetM
import Derived.Test.YtcgalmnllegnbaaGreatClone
import Derived.Deep.DeepCutAuto
import Derived.Deep.RegionWith
import Derived.Test.YtcgalmnllegnbaaGreatDotSame
import Derived.Test.YtcgalmnllegnbaaGreatDotEq
import Derived.Test.YtcgalmnllegnbaaGreatEvMem
import Derived.Test.YtcgalmnllegnbaaGreatEvRight
import Derived.Test.YtcgalmnllegnbaaGreatMsgRMem
import Derived.Test.YtcgalmnllegnbaaGreatDotRRight
namespace Go.Proofs.YtcgalmnllegnbaaGreat
set_option linter.unusedVariables false
set_option linter.unusedSimpArgs false
set_option maxRecDepth 100000
open Go.RowKit
open Dot Evt
open Ms (Mem)
theorem OwnEv.far {w : World} {base n c : Nat} {A : Option Addr} {xs : List EvV} (h : OwnEv w base A n c xs) {p : Addr} (hp : p.block < base) (u : Value) : OwnEv (w.setCell p u) base A n c xs :=
  ⟨h.1,ownsRow_keep h.2 fun k hk=>Below.heap_setCell w p u k (fun e=>by
    have:=(h.lt k (by cases A with
      | none=>cases hk
      | some a=>exact hk)).1
    omega)⟩
theorem EvOwn.far {w : World} {base : Nat} {y : EvV} (h : EvOwn w base y) {p : Addr} (hp : p.block < base) (u : Value) : EvOwn (w.setCell p u) base y :=
  ⟨h.1,h.2.1.setFar (fun e=>by have:=(h.2.1.lt _ e).1;omega) u,h.2.2⟩
theorem OwnEv.kept {w w' : World} {base n c q : Nat} {A : Option Addr} {xs : List EvV} (h : OwnEv w base A n c xs) (hg : w.grownBy w' (some q)) (hq : q < base) : OwnEv w' base A n c xs :=
  ⟨h.1,ownsRow_keep h.2 fun k hk=>hg.block k (ownsRow_lt h.2 hk) (fun e=>by
    injection e with e
    have:=(h.lt k (by cases A with
      | none=>cases hk
      | some a=>exact hk)).1
    omega)⟩
theorem EvOwn.kept {w w' : World} {base q : Nat} {y : EvV} (h : EvOwn w base y) (hg : w.grownBy w' (some q)) (hq : q < base) : EvOwn w' base y :=
  ⟨h.1,h.2.1.grown hg (.inr (fun e=>by have:=(h.2.1.lt _ e).1;omega)),h.2.2⟩
end Go.Proofs.YtcgalmnllegnbaaGreat

namespace Go.Proofs.YtcgalmnllegnbaaGreat
set_option linter.unusedVariables false
set_option linter.unusedSimpArgs false
set_option maxRecDepth 100000
open Go.RowKit
open Dot Evt
structure MgOwn (w : World) (base : Nat) (x : MgV) : Prop where
  u : x.m.u.length = 8
  wu : Wf x.m.u
  more : OwnD w base x.A1 x.n1 x.c1 x.m.more
  ev : OwnEv w base x.A2 x.n2 x.c2 x.xs
  eo : ∀ y ∈ x.xs,EvOwn w base y
  es : x.m.ev = x.xs.map (·.e)
  mem : OwnMb 71 w base x.A3 x.n3 x.c3 x.m.mem
section
variable {w w' : World} {base : Nat} {x : MgV}
theorem MgOwn.below (h : MgOwn w base x) (hb : Below w.heap.size w w') : MgOwn w' base x :=
  ⟨h.u,h.wu,h.more.below hb (Nat.le_refl _),h.ev.below hb (Nat.le_refl _),fun y hy=>⟨(h.eo y hy).1,(h.eo y hy).2.1.below hb (Nat.le_refl _),(h.eo y hy).2.2⟩,h.es,h.mem.below hb (Nat.le_refl _)⟩
theorem MgOwn.mono {base' : Nat} (h : MgOwn w base x) (hb : base'≤base) : MgOwn w base' x :=
  ⟨h.u,h.wu,h.more.mono hb,h.ev.mono hb,fun y hy=>⟨(h.eo y hy).1,(h.eo y hy).2.1.mono hb,(h.eo y hy).2.2⟩,h.es,h.mem.mono hb⟩
theorem MgOwn.far (h : MgOwn w base x) {p : Addr} (hp : p.block < base) (u : Value) : MgOwn (w.setCell p u) base x :=
  ⟨h.u,h.wu,h.more.setFar (fun e=>by have:=(h.more.lt _ e).1;omega) u,h.ev.far hp u,fun y hy=>(h.eo y hy).far hp u,h.es,h.mem.setFar (fun e=>by have:=(h.mem.lt _ e).1;omega) u⟩
theorem MgOwn.kept {q : Nat} (h : MgOwn w base x) (hg : w.grownBy w' (some q)) (hq : q < base) : MgOwn w' base x :=
  ⟨h.u,h.wu,h.more.grown hg (.inr (fun e=>by have:=(h.more.lt _ e).1;omega)),h.ev.kept hg hq,fun y hy=>(h.eo y hy).kept hg hq,h.es,h.mem.grown hg (.inr (fun e=>by have:=(h.mem.lt _ e).1;omega))⟩
theorem MgOwn.ok (h : MgOwn w base x) : MgOk w w.heap.size x:=⟨h.u,h.more.rd,h.ev.row (fun y hy=>(h.eo y hy).ok),h.es,h.mem.rd⟩
theorem MgOwn.mgin (h : MgOwn w base x) (h2 : x.n2≤10000000000000) (h3 : x.n3≤maxLen) : MgIn w x:=⟨h.ok,h.wu,h2,h3⟩
end
theorem zeroM_wf : Wf Ms.zero.u:=fun y hy=>by simp [Ms.zero] at hy;rw [hy];exact wf_of (by omega) (by omega)
def zeroV : MgV:=⟨Ms.zero,none,0,0,[],none,0,0,none,0,0⟩
theorem zeroV_own (w : World) (base : Nat) : MgOwn w base zeroV:=⟨rfl,zeroM_wf,OwnD.nil _ _,OwnEv.nil _ _,fun y hy=>by simp [zeroV] at hy,rfl,OwnMb.nil _ _ _⟩
theorem right_lens {x : MgV} {w : World} {base : Nat} (h : MgOwn w base x) (hR : Ms.rightM x.m = true) : x.n1≤1000∧x.n2≤1000∧x.n3≤8:=by
  have ha:=((Ms.right_iff x.m).1 hR).2.2.2;have hk:=(Ms.right_head hR).1;have h8:=Ms.members_len (Ms.right_head hR).2.2.2.1;refine ⟨?_,?_,by rw [h.mem.1];exact h8⟩
  · rw [h.more.1]
    unfold Ms.askSeen at ha
    by_cases h4 : x.m.kind = 4
    · rw [if_pos h4] at ha
      have:=((right_iff _ _).1 ha.1).2.1
      omega
    · rw [if_neg h4] at ha
      rw [(Ms.eight_zero ha.1).2]
      simp
  · rw [h.ev.1,← List.length_map (f:=(·.e)),← h.es]
    unfold Ms.askEv at ha
    by_cases h5 : x.m.kind = 5
    · rw [if_pos h5,Bool.and_eq_true] at ha
      have:=of_decide_eq_true ha.2.2
      omega
    · rw [if_neg h5] at ha
      rw [of_decide_eq_true ha.2]
      simp
def GiveMg (w : World) (m : Ms.Msg) (y : Nat) (e : Ending) (w' : World) : Prop :=
  ∃ x : MgV,e = .returned (.tuple #[.agg x.cs,.int .i64 (y : Nat)])∧x.m = m∧MgOwn w' w.heap.size x∧Below w.heap.size w w'
end Go.Proofs.YtcgalmnllegnbaaGreat

namespace Go.Proofs.YtcgalmnllegnbaaGreat
set_option linter.unusedVariables false
set_option linter.unusedSimpArgs false
set_option maxRecDepth 100000
open Go.RowKit
def MNum (w : World) (g : Nat) (bs : List UInt8) (e : Ending) (w' : World) : Prop :=
  w.grownBy w' (some g)∧match Vint.dec bs with
    | .ok (x,r)=>e = .returned (.int .i64 (x : Nat))∧∃ A c,Rdr w' g A r.length c r 0
    | .error x=>e = .panicked [{ v:=mflt (x : Nat),recovered:=false }]
theorem MNum.good {w w' : World} {g : Nat} {bs : List UInt8} {e : Ending} (h : MNum w g bs e w') {x : Nat} {r : List UInt8} (hd : Vint.dec bs = .ok (x,r)) : e = .returned (.int .i64 (x : Nat))∧(∃ A c,Rdr w' g A r.length c r 0)∧w.grownBy w' (some g):=by
  obtain ⟨h1,h2⟩:=h;rw [hd] at h2;exact ⟨h2.1,h2.2,h1⟩
theorem MNum.bad {w w' : World} {g : Nat} {bs : List UInt8} {e : Ending} (h : MNum w g bs e w') {x : Nat} (hd : Vint.dec bs = .error x) : e = .panicked [{ v:=mflt (x : Nat),recovered:=false }]∧w.grownBy w' (some g):=by
  obtain ⟨h1,h2⟩:=h;rw [hd] at h2;exact ⟨h2,h1⟩
theorem grownBy_transM {w w1 w2 : World} {g : Nat} (h : w.grownBy w1 (some g)) (k : w1.grownBy w2 (some g)) : w.grownBy w2 (some g) :=
  ⟨k.os.trans h.os,k.tape.trans h.tape,k.output.trans h.output,Nat.le_trans h.size k.size,fun b hb hne=>(k.block b (Nat.lt_of_lt_of_le hb h.size) hne).trans (h.block b hb hne)⟩
set_option maxHeartbeats 4000000 in
theorem mnum_any (g : Nat) (A : Option Addr) (n c : Nat) (bs : List UInt8) (w : World) (hR : Rdr w g A n c bs 0) :
    Calls Tryz.prog 48 #[.agg #[.pointer (some ⟨g,0,none⟩)]] w (MNum w g bs):=by
  obtain ⟨W,hW⟩ : ∃ W,W = w.alloc (.cells #[.pointer (some ⟨g,0,none⟩)] 51):=⟨_,rfl⟩;obtain ⟨s,hs⟩ : ∃ s,s = w.heap.size:=⟨_,rfl⟩
  have hBW : Below w.heap.size w W:=by rw [hW];exact (Below.refl _ _).alloc (Nat.le_refl _) _
  have hRW : Rdr W g A n c bs 0:=hR.below (hBW.mono (by have:=hR.lt;omega))
  have ks : Blk W s 51 #[.pointer (some ⟨g,0,none⟩)]:=by rw [hW,hs];exact Blk.new _ _ _
  have o0 : w.grownBy W (some g):=only_of_below hBW _
  have hgs : g < s:=by rw [hs];exact hR.lt
  have HW:=Lib.hid hW;have HS:=Lib.hid hs;have HIB:=Lib.hid (int_any g A n c bs 0 W hRW);clear hW hs hR
  go_enter Tryz.func48,Tryz.ntmps48
  go_upto_region 1 with fail
  rw [← HW.out,← HS.out];have hc0 : W.cell? ⟨s,0,none⟩ = some (.pointer (some ⟨g,0,none⟩)):=ks.cell 0;go_wp2_with fail;refine HIB.out.mono ?_;rintro e w2 ⟨rfl,g1,A1,c1,r2⟩;have s2:=ks.grown g1 (by intro h;injection h;omega);have o2:=grownBy_transM o0 g1;obtain ⟨m,r,x,hI⟩ : ∃ m r x,Vint.intM bs 0 = (m,r,x):=⟨_,_,_,rfl⟩;rw [hI] at r2 ⊢
  simp only at r2 ⊢
  have HI:=Lib.hid hI;obtain ⟨okb,hok⟩ : ∃ okb,(((x : Nat) : Int) == 0) = okb:=⟨_,rfl⟩;have HOK:=Lib.hid hok;clear g1 ks hc0 hI hok HIB hBW hRW o0
  go_upto_region 2 with fail
  refine wp_region_tailF 5 7 (fun L v w=>v 1 = .pointer (some ⟨s,0,none⟩)∧Below w2.heap.size w2 w∧(L 0 = true→v 7 = .pointer (some ⟨s,0,none⟩))∧(L 1 = true→v 8 = .pointer (some ⟨g,0,none⟩))∧(L 2 = true→v 9 = .int .i64 (x : Nat))∧(L 3 = true→v 10 = .bool okb)∧(L 4 = true→v 11 = .pointer (some ⟨s,0,none⟩))∧(L 5 = true→v 12 = .pointer (some ⟨g,0,none⟩))∧(L 6 = true→v 13 = .int .i64 (x : Nat))) [7,8,9,10,11,12,13] (by kernel_rfl) (by kernel_rfl) (by kernel_rfl) (by kernel_rfl) (by kernel_rfl) (by kernel_rfl) ?h0 ?hst ?hend
  case h0 =>
    intro L h0;have h0 : ∀ i,i < 7→L i = false:=h0;exact ⟨rfl,(Below.refl _ _).drew,offF h0 (i:=0) (by decide),offF h0 (i:=1) (by decide),offF h0 (i:=2) (by decide),offF h0 (i:=3) (by decide),offF h0 (i:=4) (by decide),offF h0 (i:=5) (by decide),offF h0 (i:=6) (by decide)⟩
  case hst =>
    show FactSteps _ _ _ _ [0,1,2,3,4,5,6]
    refine @FactSteps.cons _ _ _ _ 0 _ [] _ rfl (by kernel_rfl) ?s0 ?_;rotate_left;refine @FactSteps.cons _ _ _ _ 1 _ [0] _ rfl (by kernel_rfl) ?s1 ?_;rotate_left;refine @FactSteps.cons _ _ _ _ 2 _ [1] _ rfl (by kernel_rfl) ?s2 ?_;rotate_left;refine @FactSteps.cons _ _ _ _ 3 _ [2] _ rfl (by kernel_rfl) ?s3 ?_;rotate_left;refine @FactSteps.cons _ _ _ _ 4 _ [] _ rfl (by kernel_rfl) ?s4 ?_;rotate_left;refine @FactSteps.cons _ _ _ _ 5 _ [4] _ rfl (by kernel_rfl) ?s5 ?_;rotate_left;refine @FactSteps.cons _ _ _ _ 6 _ [5,2] _ rfl (by kernel_rfl) ?s6 ?_;rotate_left;exact FactSteps.nil
    case s0 =>
      rintro L a v w hv hg hL hd hcl ⟨e1,hb,f0,f1,f2,f3,f4,f5,f6⟩ K hK;refine step_do rfl ?_;clear hv;go_simp;exact hK.out _ _ ⟨e1,hb,fun _=>rfl,f1,f2,f3,f4,f5,f6⟩
    case s1 =>
      rintro L a v w hv hg hL hd hcl ⟨e1,hb,f0,f1,f2,f3,f4,f5,f6⟩ K hK;have g0:=f0 (hd 0 (by decide));have cs : w.cell? ⟨s,0,none⟩ = some (.pointer (some ⟨g,0,none⟩)):=(s2.below hb s2.lt).cell 0;refine step_do rfl ?_;clear hv;go_simp;exact hK.out _ _ ⟨e1,hb,f0,fun _=>rfl,f2,f3,f4,f5,f6⟩
    case s2 =>
      rintro L a v w hv hg hL hd hcl ⟨e1,hb,f0,f1,f2,f3,f4,f5,f6⟩ K hK;have g1:=f1 (hd 1 (by decide));refine step_do rfl ?_;clear hv;go_simp;refine (err_any g A1 _ c1 r x w (r2.below (hb.mono (by have:=r2.lt;omega)))).mono ?_;rintro e wy ⟨rfl,rfl⟩;exact hK.out _ _ ⟨e1,hb,f0,f1,fun _=>rfl,f3,f4,f5,f6⟩
    case s3 =>
      rintro L a v w hv hg hL hd hcl ⟨e1,hb,f0,f1,f2,f3,f4,f5,f6⟩ K hK;have hk:=HOK.out;refine step_do rfl ?_;clear hv;go_simp;exact hK.out _ _ ⟨e1,hb,f0,f1,f2,fun _=>rfl,f4,f5,f6⟩
    case s4 =>
      rintro L a v w hv hg hL hd hcl ⟨e1,hb,f0,f1,f2,f3,f4,f5,f6⟩ K hK;refine step_do rfl ?_;clear hv;go_simp;exact hK.out _ _ ⟨e1,hb,f0,f1,f2,f3,fun _=>rfl,f5,f6⟩
    case s5 =>
      rintro L a v w hv hg hL hd hcl ⟨e1,hb,f0,f1,f2,f3,f4,f5,f6⟩ K hK;have g4:=f4 (hd 4 (by decide));have cs : w.cell? ⟨s,0,none⟩ = some (.pointer (some ⟨g,0,none⟩)):=(s2.below hb s2.lt).cell 0;refine step_do rfl ?_;clear hv;go_simp;exact hK.out _ _ ⟨e1,hb,f0,f1,f2,f3,f4,fun _=>rfl,f6⟩
    case s6 =>
      rintro L a v w hv hg hL hd hcl ⟨e1,hb,f0,f1,f2,f3,f4,f5,f6⟩ K hK;have g5:=f5 (hd 5 (by decide));refine step_do rfl ?_;clear hv;go_simp;refine (err_any g A1 _ c1 r x w (r2.below (hb.mono (by have:=r2.lt;omega)))).mono ?_;rintro e wy ⟨rfl,rfl⟩;exact hK.out _ _ ⟨e1,hb,f0,f1,f2,f3,f4,f5,fun _=>rfl⟩
  case hend =>
  rintro L v w3 hall ⟨e1,hb,f0,f1,f2,f3,f4,f5,f6⟩;have hL : ∀ i,i < 7→L i = true:=hall;have f0:=f0 (hL 0 (by decide));have f1:=f1 (hL 1 (by decide));have f2:=f2 (hL 2 (by decide));have f3:=f3 (hL 3 (by decide));have f4:=f4 (hL 4 (by decide));have f5:=f5 (hL 5 (by decide));have f6:=f6 (hL 6 (by decide))
  simp only [finA,List.foldl_cons,List.foldl_nil,Act.put,List.setIfInBounds_toArray,List.set_cons_succ,List.set_cons_zero,f0,f1,f3,f4,f5,f2,f6]
  have o3 : w.grownBy w3 (some g):=grownBy_transM o2 (only_of_below hb _);have r3:=r2.below (hb.mono (by have:=r2.lt;omega));clear e1 f0 f1 f2 f3 f4 f5 f6 hL hall hb
  show wpList _ _ _ [_] _ _
  cases hd : Vint.dec bs with
  | ok p =>
    obtain ⟨y,rr⟩:=p;have hy:=HI.out;rw [Vint.intM_ok hd] at hy
    injection hy with h1 h2
    injection h2 with h2 h3
    subst h1 h2 h3;obtain rfl : okb = true:=HOK.out.symm.trans rfl;have HD:=Lib.hid hd;clear hd;go_wp2_with fail;refine (mmust_ok _ _).mono ?_;rintro e w4 ⟨rfl,rfl⟩;go_wp2_with fail;go_ret;refine ⟨o3,?_⟩;rw [HD.out];exact ⟨rfl,A1,c1,r3⟩
  | error y =>
    have hy:=HI.out;rw [Vint.intM_bad hd] at hy;have hne:=Vint.dec_err hd
    injection hy with h1 h2
    injection h2 with h2 h3
    subst h1 h2 h3
    obtain rfl : okb = false:=by
      rw [← HOK.out,beq_eq_false_iff_ne]
      omega
    have HD:=Lib.hid hd;clear hd hne;go_wp2_with fail;refine (mmust_bad _ _).mono ?_;rintro e w4 ⟨rfl,rfl⟩;go_wp2_with fail;refine ⟨rfl,o3,?_⟩;rw [HD.out]
end Go.Proofs.YtcgalmnllegnbaaGreat

namespace Go.Proofs.YtcgalmnllegnbaaGreat
set_option linter.unusedVariables false
set_option linter.unusedSimpArgs false
set_option maxRecDepth 100000
open Go.RowKit
open Dot Evt
abbrev sN : Value:=.slice none 0 0
theorem rowRdM : RowT Tryz.prog 51 1:=⟨_,Tryz.underlying51,rfl,by kernel_rfl⟩
theorem grownM {w w1 w2 : World} {g : Nat} (h : w.grownBy w1 (some g)) (k : Below w.heap.size w1 w2) : w.grownBy w2 (some g) :=
  ⟨k.os.trans h.os,k.tape.trans h.tape,k.output.trans h.output,Nat.le_trans h.size k.size,fun b hb hne=>(k.block b hb).trans (h.block b hb hne)⟩
structure MH (g s t : Nat) (w0 : World) (m : Ms.Msg) (A3 : Option Addr) (c3 : Nat) (r : List UInt8) (w : World) : Prop where
  o : w0.grownBy w (some g)
  hg : g < w0.heap.size
  hs : w0.heap.size≤s
  ht : w0.heap.size≤t
  st : s ≠ t
  ks : Blk w s 51 #[.pointer (some ⟨g,0,none⟩)]
  kt : Blk w t 30 (mgc m sN sN (.slice A3 m.mem.length c3))
  own : OwnMb 71 w w0.heap.size A3 m.mem.length c3 m.mem
  rd : ∃ A c,Rdr w g A r.length c r 0
section
variable {g s t : Nat} {w0 w w' : World} {m m' : Ms.Msg} {A3 A' : Option Addr} {c3 c' : Nat} {r r' : List UInt8} {e : Ending}
theorem MH.fs (h : MH g s t w0 m A3 c3 r w) : A3.map (·.block) ≠ some s:=own_ne h.own.2 h.ks (by decide)
theorem MH.ft (h : MH g s t w0 m A3 c3 r w) : A3.map (·.block) ≠ some t:=own_ne h.own.2 h.kt (by decide)
theorem MH.below (h : MH g s t w0 m A3 c3 r w) (hb : Below w.heap.size w w') : MH g s t w0 m A3 c3 r w':=by
  obtain ⟨A,c,hR⟩:=h.rd;exact ⟨grownBy_transM h.o (only_of_below hb _),h.hg,h.hs,h.ht,h.st,h.ks.below hb h.ks.lt,h.kt.below hb h.kt.lt,h.own.below hb (Nat.le_refl _),A,c,hR.below (hb.mono (by have:=hR.lt;omega))⟩
theorem MH.num (h : MH g s t w0 m A3 c3 r w) (hB : MNum w g r e w') {x : Nat} (hd : Vint.dec r = .ok (x,r')) : e = .returned (.int .i64 (x : Nat))∧MH g s t w0 m A3 c3 r' w':=by
  obtain ⟨e1,hR,gg⟩:=hB.good hd;have h1:=h.hg;have h2:=h.hs;have h3:=h.ht;exact ⟨e1,grownBy_transM h.o gg,h.hg,h.hs,h.ht,h.st,h.ks.grown gg (by intro e;injection e with e;omega),h.kt.grown gg (by intro e;injection e with e;omega),h.own.grown gg (.inr (fun e=>by have:=h.own.lt g e;omega)),hR⟩
theorem MH.bad (h : MH g s t w0 m A3 c3 r w) (hB : MNum w g r e w') {x : Nat} (hd : Vint.dec r = .error x) : e = .panicked [{ v:=mflt (x : Nat),recovered:=false }]∧w0.grownBy w' (some g):=by
  obtain ⟨e1,gg⟩:=hB.bad hd;exact ⟨e1,grownBy_transM h.o gg⟩
theorem MH.set (h : MH g s t w0 m A3 c3 r w) (k : Nat) (v : Value) (hm : m'.mem = m.mem) (hc : (mgc m sN sN (.slice A3 m.mem.length c3)).setIfInBounds k v = mgc m' sN sN (.slice A3 m.mem.length c3)) : MH g s t w0 m' A3 c3 r (w.setCell ⟨t,k,none⟩ v):=by
  obtain ⟨A,c,hR⟩:=h.rd;have h1:=h.hg;have h3:=h.ht;have kt:=h.kt.set_ k v;rw [hc] at kt;refine ⟨grownM h.o ((Below.refl _ _).setCell (by show _≤t;omega) _),h.hg,h.hs,h.ht,h.st,h.ks.far (p:=⟨t,k,none⟩) h.st _,by rw [hm];exact kt,?_,A,c,hR.below ((Below.refl (g + 1) w).setCell (by show g + 1≤t;omega) _)⟩;rw [hm];exact h.own.setFar (p:=⟨t,k,none⟩) h.ft v
theorem MH.far (h : MH g s t w0 m A3 c3 r w) {q k : Nat} {v : Value} (q1 : w0.heap.size≤q) (q2 : s ≠ q) (q3 : t ≠ q) (q4 : A3.map (·.block) ≠ some q) : MH g s t w0 m A3 c3 r (w.setCell ⟨q,k,none⟩ v):=by
  obtain ⟨A,c,hR⟩:=h.rd;have h1:=h.hg;exact ⟨grownM h.o ((Below.refl _ _).setCell (by show _≤q;omega) _),h.hg,h.hs,h.ht,h.st,h.ks.far (p:=⟨q,k,none⟩) q2 _,h.kt.far (p:=⟨q,k,none⟩) q3 _,h.own.setFar (p:=⟨q,k,none⟩) q4 v,A,c,hR.below ((Below.refl (g + 1) w).setCell (by show g + 1≤q;omega) _)⟩
theorem MH.app (h : MH g s t w0 m A3 c3 r w) {v : Ms.Mem} {w1 : World} (hb : Below w.heap.size w w1) (o : OwnMb 71 w' w0.heap.size A' (m.mem.length + 1) c' (m.mem ++ [v])) (gg : w1.grownBy w' (A3.map (·.block))) (bb : Below w0.heap.size w1 w') :
    Blk w' t 30 (mgc m sN sN (.slice A3 m.mem.length c3))∧MH g s t w0 { m with mem:=m.mem ++ [v] } A' c' r (w'.setCell ⟨t,15,none⟩ (.slice A' (m.mem.length + 1) c')):=by
  have h1:=h.below hb;have fs:=h1.fs;have ft:=h1.ft;obtain ⟨A,c,hR⟩:=h1.rd;have hg:=h.hg;have ht:=h.ht;have ks:=h1.ks.grown gg fs;have kt:=h1.kt.grown gg ft;refine ⟨kt,grownM (grownM h1.o bb) ((Below.refl _ _).setCell (by show _≤t;omega) _),h.hg,h.hs,h.ht,h.st,ks.far (p:=⟨t,15,none⟩) h.st _,?_,?_,A,c,(hR.below (bb.mono (by omega))).below ((Below.refl (g + 1) w').setCell (by show g + 1≤t;omega) _)⟩
  · have:=kt.set_ 15 (.slice A' (m.mem.length + 1) c')
    rw [List.length_append];exact this
  · have:=o.setFar (p:=⟨t,15,none⟩) (own_ne o.2 kt (by decide)) (.slice A' (m.mem.length + 1) c')
    rw [List.length_append];exact this
end
def HeadO (w : World) (g : Nat) (R : Except Nat (Ms.Msg × List UInt8)) (e : Ending) (w' : World) : Prop :=
  match R with
    | .ok (m,r)=>∃ A3 c3,e = .returned (.agg (mgc m sN sN (.slice A3 m.mem.length c3)))∧OwnMb 71 w' w.heap.size A3 m.mem.length c3 m.mem∧∃ A c,Rdr w' g A r.length c r 0
    | .error x=>e = .panicked [{ v:=mflt (x : Nat),recovered:=false }]
def HeadE (w : World) (g : Nat) (bs : List UInt8) (e : Ending) (w' : World) : Prop:=w.grownBy w' (some g)∧HeadO w g (Ms.headE bs) e w'
theorem HeadO.err {w w' : World} {g : Nat} {R : Except Nat (Ms.Msg × List UInt8)} {x : Nat} (h : R = .error x) : HeadO w g R (.panicked [{ v:=mflt (x : Nat),recovered:=false }]) w':=by
  rw [h];exact rfl
theorem dec_tot (bs : List UInt8) : ∃ (ok : Bool) (x : Nat) (r : List UInt8) (y : Nat),(ok = true→Vint.dec bs = .ok (x,r))∧(ok = false→Vint.dec bs = .error y):=by
  cases h : Vint.dec bs with
  | ok q=>exact ⟨true,q.1,q.2,0,fun _=>rfl,fun h=>(by cases h)⟩
  | error y=>exact ⟨false,0,[],y,fun h=>(by cases h),fun _=>rfl⟩
def sel (a b : Bool) (r1 r2 r3 : List UInt8) : List UInt8:=if b = true then r3 else if a = true then r2 else r1
theorem th_sizeH (a b c : Int) : (#[Value.int .i64 a,.int .i64 b,.int .i64 c]).size = 3:=rfl
theorem th_oneH (a b c : Int) : (#[Value.int .i64 a,.int .i64 b,.int .i64 c]).all (·.oneCell') = true:=by simp [Value.oneCell']
set_option maxHeartbeats 4000000 in
theorem mhead_any (g : Nat) (A : Option Addr) (n c : Nat) (bs : List UInt8) (w0 : World) (hR : Rdr w0 g A n c bs 0) :
    Calls Tryz.prog 19 #[.agg #[.pointer (some ⟨g,0,none⟩)]] w0 (HeadE w0 g bs):=by
  have hg:=hR.lt;obtain ⟨R,hRR⟩ : ∃ R,R = Ms.headE bs:=⟨_,rfl⟩
  have HN:=Lib.hid fun (r : List UInt8) (wx : World) (hx : ∃ A c,Rdr wx g A r.length c r 0)=>(by obtain ⟨A,c,hx⟩:=hx;exact mnum_any g A _ c r wx hx : Calls Tryz.prog 48 #[.agg #[.pointer (some ⟨g,0,none⟩)]] wx (MNum wx g r))
  have hl : n = bs.length:=hR.2.1.1;subst hl
  unfold HeadE
  rw [← hRR];have HRR:=Lib.hid hRR;clear hRR
  go_enter Tryz.func19,Tryz.ntmps19
  go_upto_region 1 with fail
  refine nameW ?_;intro W hW;obtain ⟨s,hs⟩ : ∃ s,s = w0.heap.size:=⟨_,rfl⟩;obtain ⟨t,ht⟩ : ∃ t,t = w0.heap.size + 1:=⟨_,rfl⟩;rw [← ht,← hs]
  have S0 : MH g s t w0 Ms.zero none 0 bs W:=by
    rw [hW,hs,ht];have b1 : Below w0.heap.size w0 (w0.alloc (.cells #[.pointer (some ⟨g,0,none⟩)] 51)):=(Below.refl _ _).alloc (Nat.le_refl _) _;have b2:=b1.alloc (by simp) (.cells (mgc Ms.zero sN sN sN) 30);refine ⟨only_of_below b2 _,hg,Nat.le_refl _,by omega,by omega,(Blk.new _ _ _).alloc _,?_,OwnMb.nil _ _ _,A,c,hR.below (b2.mono (by omega))⟩
    have:=Blk.new (w0.alloc (.cells #[.pointer (some ⟨g,0,none⟩)] 51)) 30 (mgc Ms.zero sN sN sN)
    rwa [show (w0.alloc (.cells #[.pointer (some ⟨g,0,none⟩)] 51)).heap.size = w0.heap.size + 1 by simp] at this
  clear hW hs ht hg hR
  go_wp2_with ((with_reducible refine wpList_ld (n:=1) rowRdM S0.ks rfl ?_ ?_);rotate_left;(rfl))
  refine (HN.out bs W S0.rd).mono ?_;intro e w1 hB
  cases hd : Vint.dec bs with
  | error y =>
    obtain ⟨rfl,gg⟩:=S0.bad hB hd;have HE:=Lib.hid (show R = .error y by rw [HRR.out];unfold Ms.headE;rw [hd]);clear hd hB S0;go_wp2_with fail;exact ⟨rfl,gg,HeadO.err HE.out⟩
  | ok q0 =>
  obtain ⟨k,r1⟩:=q0;obtain ⟨rfl,S1⟩:=S0.num hB hd;have HE0:=Lib.hid (show R = (if 1≤k∧k≤5 then Ms.frmE { Ms.zero with kind:=(k : Nat) } r1 else .error 4) by rw [HRR.out];unfold Ms.headE;rw [hd]);have c0 : w1.cell? ⟨t,0,none⟩ = some (.int .i64 0):=S1.kt.cell 0;have u0:=S1.kt.free 0;have hl0:=S1.kt.lt;obtain ⟨m1,hm1⟩ : ∃ m1 : Ms.Msg,m1 = { Ms.zero with kind:=(k : Nat) }:=⟨_,rfl⟩
  have S2 : MH g s t w0 m1 none 0 r1 (w1.setCell ⟨t,0,none⟩ (.int .i64 (k : Nat))):=by rw [hm1];exact S1.set 0 (.int .i64 (k : Nat)) rfl rfl
  obtain ⟨w2,hw2⟩ : ∃ w2,w2 = w1.setCell ⟨t,0,none⟩ (.int .i64 (k : Nat)):=⟨_,rfl⟩;rw [← hw2] at S2;have HW2:=Lib.hid hw2;have HM1:=Lib.hid hm1;clear hd hB S0 S1 hw2 hm1
  go_upto_region 2 with fail
  rw [← HW2.out];clear c0 u0 hl0;have c0 : w2.cell? ⟨t,0,none⟩ = some (.int .i64 (k : Nat)):=(S2.kt.cell 0).trans (by rw [HM1.out];rfl);obtain ⟨okk,hok⟩ : ∃ okk,okk = inB (k : Int) 1 5:=⟨_,rfl⟩;have HOK:=Lib.hid hok;have HWI:=Lib.hid (mwithin_any (k : Int) 1 5 w2);rw [← hok] at HWI;clear hok;go_wp2_with fail;refine HWI.out.mono ?_;rintro e w3 ⟨rfl,rfl⟩
  cases okk
  · have hk:=HOK.out.symm
    have HE:=Lib.hid (show R = .error 4 by
      rw [HE0.out,if_neg];intro h;rw [(inB_iff (k : Int) 1 5).2 (by omega)] at hk
      cases hk)
    have gg:=S2.o;clear hk S2 c0;go_wp2_with fail;refine (mmust_bad _ _).mono ?_;rintro e w4 ⟨rfl,rfl⟩;go_wp2_with fail;exact ⟨rfl,gg,HeadO.err (x:=4) HE.out⟩
  have hk : 1≤k∧k≤5:=by
    have:=(inB_iff (k : Int) 1 5).1 HOK.out.symm
    omega
  have HE1:=Lib.hid (show R = Ms.frmE m1 r1 by rw [HE0.out,if_pos hk,HM1.out]);have HK:=Lib.hid (show 1≤m1.kind∧m1.kind≤5 by rw [HM1.out];simp only;omega);clear hk c0 HE0 HOK HWI HW2;go_wp2_with fail;refine (mmust_ok _ _).mono ?_;rintro e w3 ⟨rfl,rfl⟩;obtain ⟨ok1,x1,r2,y1,do1,db1⟩:=dec_tot r1;obtain ⟨ok2,x2,r3,y2,do2,db2⟩:=dec_tot r2;have DO1:=Lib.hid do1;have DB1:=Lib.hid db1;have DO2:=Lib.hid do2;have DB2:=Lib.hid db2;have HF:=HE1;clear HE1;have HE1:=Lib.hid (fun h=>by rw [HF.out];unfold Ms.frmE;rw [DB1.out h] : ok1 = false→R = .error y1);have HE2:=Lib.hid (fun h1 h=>by rw [HF.out];unfold Ms.frmE;rw [DO1.out h1];simp only;unfold Ms.toE;rw [DB2.out h] : ok1 = true→ok2 = false→R = .error y2);have HE3:=Lib.hid (fun h1 h2=>by rw [HF.out];unfold Ms.frmE;rw [DO1.out h1];simp only;unfold Ms.toE;rw [DO2.out h2] : ok1 = true→ok2 = true→R = Ms.cntE { m1 with frm:=(x1 : Nat),«to»:=(x2 : Nat) } r3);clear do1 db1 do2 db2
  go_upto_region 3 with fail
  refine wp_region_tailD 3 5 (fun L v w=>v 1 = .pointer (some ⟨s,0,none⟩)∧v 2 = .pointer (some ⟨t,0,none⟩)∧MH g s t w0 m1 none 0 (sel (L 1) (L 3) r1 r2 r3) w∧(L 0 = true→v 13 = .agg #[.pointer (some ⟨g,0,none⟩)])∧(L 1 = true→(v 14 = .int .i64 (x1 : Nat)∧ok1 = true))∧(L 2 = true→v 15 = .agg #[.pointer (some ⟨g,0,none⟩)])∧(L 3 = true→(v 16 = .int .i64 (x2 : Nat)∧ok2 = true))∧(L 4 = true→v 17 = .pointer (some ⟨t,1,none⟩))) [13,14,15,16,17] (by kernel_rfl) (by kernel_rfl) (by kernel_rfl) (by kernel_rfl) (by kernel_rfl) (by kernel_rfl) ?h0 ?hst ?hend
  case h0 =>
    intro L h0;have h0 : ∀ i,i < 5→L i = false:=h0;exact ⟨rfl,rfl,(by rw [h0 1 (by decide),h0 3 (by decide)];exact S2.below (Below.refl _ _).drew),offF h0 (i:=0) (by decide),offF h0 (i:=1) (by decide),offF h0 (i:=2) (by decide),offF h0 (i:=3) (by decide),offF h0 (i:=4) (by decide)⟩
  case hst =>
    show FactSteps _ _ _ _ [0,1,2,3,4]
    refine @FactSteps.cons _ _ _ _ 0 _ [] _ rfl (by kernel_rfl) ?s0 ?_;rotate_left;refine @FactSteps.cons _ _ _ _ 1 _ [0] _ rfl (by kernel_rfl) ?s1 ?_;rotate_left;refine @FactSteps.cons _ _ _ _ 2 _ [] _ rfl (by kernel_rfl) ?s2 ?_;rotate_left;refine @FactSteps.cons _ _ _ _ 3 _ [2,1] _ rfl (by kernel_rfl) ?s3 ?_;rotate_left;refine @FactSteps.cons _ _ _ _ 4 _ [0,1] _ rfl (by kernel_rfl) ?s4 ?_;rotate_left;exact FactSteps.nil
    case s0 =>
      rintro L a v w hv hg hL hd hcl ⟨e1,e2,hM,f0,f1,f2,f3,f4⟩ K hK;refine step_do rfl ?_;refine wp_ld rowRdM (.tmp 1) rfl ((hv 1).trans e1) (hM.ks) rfl ?_;exact hK.out _ _ ⟨e1,e2,hM,fun _=>rfl,f1,f2,f3,f4⟩
    case s1 =>
      rintro L a v w hv hg hL hd hcl ⟨e1,e2,hM,f0,f1,f2,f3,f4⟩ K hK;have c3 : L 3 = false:=off_of hcl (j:=3) (by kernel_rfl : waitsAt _ 3 = [2,1]) (d:=1) (by decide) hL;have g0:=f0 (hd 0 (by decide))
      have hM2 : MH g s t w0 m1 none 0 r1 w:=by rw [hL,c3] at hM;exact hM
      refine step_do rfl ?_;clear hv;go_simp;refine (HN.out _ w hM2.rd).mono ?_;rintro e wy hB
      by_cases hk : ok1 = true
      rotate_left
      · obtain ⟨rfl,gg⟩:=hM2.bad hB (DB1.out (Bool.eq_false_iff.2 hk))
        exact fun hD=>⟨hD,gg,HeadO.err (HE1.out (Bool.eq_false_iff.2 hk))⟩
      obtain ⟨rfl,hM3⟩:=hM2.num hB (DO1.out hk);exact hK.out _ _ ⟨e1,e2,(by show MH g s t w0 m1 none 0 (sel true (L 3) r1 r2 r3) wy;rw [c3];exact hM3),f0,fun _=>⟨rfl,hk⟩,f2,(offC c3),f4⟩
    case s2 =>
      rintro L a v w hv hg hL hd hcl ⟨e1,e2,hM,f0,f1,f2,f3,f4⟩ K hK;refine step_do rfl ?_;refine wp_ld rowRdM (.tmp 1) rfl ((hv 1).trans e1) (hM.ks) rfl ?_;exact hK.out _ _ ⟨e1,e2,hM,f0,f1,fun _=>rfl,f3,f4⟩
    case s3 =>
      rintro L a v w hv hg hL hd hcl ⟨e1,e2,hM,f0,f1,f2,f3,f4⟩ K hK;have g2:=f2 (hd 2 (by decide));have h1 : L 1 = true:=hd 1 (by decide)
      have hM2 : MH g s t w0 m1 none 0 r2 w:=by rw [hL,h1] at hM;exact hM
      obtain ⟨-,k1⟩:=f1 h1;refine step_do rfl ?_;clear hv;go_simp;refine (HN.out _ w hM2.rd).mono ?_;rintro e wy hB
      by_cases hk : ok2 = true
      rotate_left
      · obtain ⟨rfl,gg⟩:=hM2.bad hB (DB2.out (Bool.eq_false_iff.2 hk))
        exact fun hD=>⟨hD,gg,HeadO.err (HE2.out k1 (Bool.eq_false_iff.2 hk))⟩
      obtain ⟨rfl,hM3⟩:=hM2.num hB (DO2.out hk);exact hK.out _ _ ⟨e1,e2,hM3,f0,f1,f2,fun _=>⟨rfl,hk⟩,f4⟩
    case s4 =>
      rintro L a v w hv hg hL hd hcl ⟨e1,e2,hM,f0,f1,f2,f3,f4⟩ K hK;have g0:=f0 (hd 0 (by decide));refine step_do rfl ?_;clear hv;go_simp;exact hK.out _ _ ⟨e1,e2,hM,f0,f1,f2,f3,fun _=>rfl⟩
  case hend =>
  rintro L v wx hall ⟨e1,e2,hM,f0,f1,f2,f3,f4⟩;have hL : ∀ i,i < 5→L i = true:=hall;have f0:=f0 (hL 0 (by decide));have f1:=f1 (hL 1 (by decide));have f2:=f2 (hL 2 (by decide));have f3:=f3 (hL 3 (by decide));have f4:=f4 (hL 4 (by decide));rw [hL 1 (by decide),hL 3 (by decide)] at hM;have S3 : MH g s t w0 m1 none 0 r3 wx:=hM;obtain ⟨f1,k1⟩:=f1;obtain ⟨f3,k2⟩:=f3
  simp only [finA,List.foldl_cons,List.foldl_nil,Act.put,List.setIfInBounds_toArray,List.set_cons_succ,List.set_cons_zero,f0,f2,f4,f1,f3]
  clear e1 e2 f0 f1 f2 f3 f4 hL hall;have HE4:=Lib.hid (HE3.out k1 k2);clear HE1 HE2 HE3 DO1 DB1 DO2 DB2 HF k1 k2 S2 hM
  show wpList _ _ _ [_,_,_] _ _
  have c1 : wx.cell? ⟨t,1,none⟩ = some (.int .i64 m1.frm):=S3.kt.cell 1;have c2 : wx.cell? ⟨t,2,none⟩ = some (.int .i64 m1.to):=S3.kt.cell 2;have u1:=S3.kt.free 1;have u2:=S3.kt.free 2;have hl0:=S3.kt.lt;obtain ⟨m2,hm2⟩ : ∃ m2 : Ms.Msg,m2 = { m1 with frm:=(x1 : Nat),«to»:=(x2 : Nat) }:=⟨_,rfl⟩
  have S4 : MH g s t w0 m2 none 0 r3 ((wx.setCell ⟨t,1,none⟩ (.int .i64 (x1 : Nat))).setCell ⟨t,2,none⟩ (.int .i64 (x2 : Nat))):=by
    rw [hm2];exact (S3.set (m':={ m1 with frm:=(x1 : Nat) }) 1 (.int .i64 (x1 : Nat)) rfl rfl).set (m':={ m1 with frm:=(x1 : Nat),«to»:=(x2 : Nat) }) 2 (.int .i64 (x2 : Nat)) rfl rfl
  have HE5:=Lib.hid (show R = Ms.cntE m2 r3 by rw [HE4.out,hm2]);have HM2:=Lib.hid (show m2.mem = []∧1≤m2.kind∧m2.kind≤5 by rw [hm2];exact ⟨by rw [HM1.out];rfl,HK.out⟩);obtain ⟨w4,hw4⟩ : ∃ w4,w4 = (wx.setCell ⟨t,1,none⟩ (.int .i64 (x1 : Nat))).setCell ⟨t,2,none⟩ (.int .i64 (x2 : Nat)):=⟨_,rfl⟩;rw [← hw4] at S4;have HW4:=Lib.hid hw4;clear hw4 hm2 HE4 HM1 HK S3
  go_upto_region 4 with fail
  rw [← HW4.out];clear c1 c2 u1 u2 hl0 HW4
  go_wp2_with ((with_reducible refine wpList_ld (n:=1) rowRdM S4.ks rfl ?_ ?_);rotate_left;(rfl))
  refine (HN.out r3 w4 S4.rd).mono ?_;intro e w5 hB
  cases hd : Vint.dec r3 with
  | error y =>
    obtain ⟨rfl,gg⟩:=S4.bad hB hd;have HE:=Lib.hid (show R = .error y by rw [HE5.out];unfold Ms.cntE;rw [hd]);clear hd hB S4;go_wp2_with fail;exact ⟨rfl,gg,HeadO.err HE.out⟩
  | ok q0 =>
  obtain ⟨z,r4⟩:=q0;obtain ⟨rfl,S5⟩:=S4.num hB hd;have HE6:=Lib.hid (show R = (if z≤8 then Ms.memE m2 z r4 else .error 6) by rw [HE5.out];unfold Ms.cntE;rw [hd]);clear hd hB S4 HE5
  by_cases hz : z≤8
  case neg =>
    have hz' : decide ((z : Int)≤8) = false:=decide_eq_false (by omega);have HE:=Lib.hid (show R = .error 6 by rw [HE6.out,if_neg hz]);have gg:=S5.o;clear hz S5
    go_upto_region 5 with fail
    go_wp2_with fail;refine (mmust_bad _ _).mono ?_;rintro e w4 ⟨rfl,rfl⟩;go_wp2_with fail;exact ⟨rfl,gg,HeadO.err (x:=6) HE.out⟩
  have hz' : decide ((z : Int)≤8) = true:=decide_eq_true (by omega);have HE7:=Lib.hid (show R = Ms.memE m2 z r4 by rw [HE6.out,if_pos hz]);have HZ8:=Lib.hid hz;clear hz HE6
  go_upto_region 5 with fail
  go_wp2_with fail;refine (mmust_ok _ _).mono ?_;rintro e w6 ⟨rfl,rfl⟩;go_wp2_with fail
  go_loopw [25] (fun i wr=>∃ (k : Nat) (l : List Ms.Mem) (A3 : Option Addr) (c3 : Nat) (r : List UInt8),k≤z∧i = .int .i64 (k : Nat)∧l.length = k∧MH g s t w0 { m2 with mem:=l } A3 c3 r wr∧R = Ms.memE { m2 with mem:=l } (z - k) r) (fun i _=>z - (intOf i).toNat)
  case atStart =>
    have hm2 : ({ m2 with mem:=[] } : Ms.Msg) = m2:=by
      have:=HM2.out.1
      cases m2
      simp only at this
      rw [this]
    exact ⟨0,[],none,0,r4,by omega,rfl,rfl,by rw [hm2];exact S5,by rw [hm2];exact HE7.out⟩
  case round =>
  clear S5 HE7;obtain ⟨k,l,A3,c3,r,hk,rfl,hlen,S,he⟩:=hrel;have HEQ:=Lib.hid he;have HLEN:=Lib.hid hlen;clear he hlen
  by_cases hlt : k < z
  · have hzj : z - k = (z - (k + 1)) + 1:=by omega
    have HE8:=Lib.hid (show R = Ms.memE { m2 with mem:=l } ((z - (k + 1)) + 1) r by rw [← hzj];exact HEQ.out)
    have hlt' : (k : Int) < (z : Int):=by omega
    clear hzj
    go_upto_region 8 with fail
    go_wp2_with ((with_reducible refine wpList_ld (n:=1) rowRdM S.ks rfl ?_ ?_);rotate_left;(rfl))
    refine (HN.out r wr S.rd).mono ?_;intro e w7 hB
    cases hd1 : Vint.dec r with
    | error y =>
      obtain ⟨rfl,gg⟩:=S.bad hB hd1;have HE:=Lib.hid (show R = .error y by rw [HE8.out];exact Ms.memE_err (by unfold Ms.tripE;rw [hd1]));clear hd1 hB S;go_wp2_with fail;exact ⟨rfl,gg,HeadO.err HE.out⟩
    | ok q0 =>
    obtain ⟨a1,r1⟩:=q0;obtain ⟨rfl,S1⟩:=S.num hB hd1;have HD1:=Lib.hid hd1;clear hd1 hB S
    go_upto_region 9 with ((with_reducible refine wpList_st (cs:=#[.int .i64 (a1 : Nat),.int .i64 0,.int .i64 0]) rowMb (Blk.new _ _ _) (th_sizeH _ _ _) ?_ (th_oneH _ _ _) ?_ ?_ ?_);(rfl);rotate_left;(rfl);(rfl);intro w8 kq g2 z2)
    obtain ⟨q,hq⟩ : ∃ q,q = w7.heap.size:=⟨_,rfl⟩;rw [← hq] at kq ⊢;have bq : Below w7.heap.size w7 w8:=new_below g2;have S2:=S1.below bq
    have q1 : w0.heap.size≤q:=by rw [hq];exact S1.o.size
    have q2 : s ≠ q:=by have:=S1.ks.lt;omega
    have q3 : t ≠ q:=by have:=S1.kt.lt;omega
    have q4 : A3.map (·.block) ≠ some q:=fun e=>by have:=S1.own.lt q e;omega
    have qg : g ≠ q:=by have:=S1.hg;omega
    clear g2 z2 bq S1 hq
    go_wp2_with ((with_reducible refine wpList_ld (n:=1) rowRdM S2.ks rfl ?_ ?_);rotate_left;(rfl))
    refine (HN.out r1 w8 S2.rd).mono ?_;intro e w9 hB
    cases hd2 : Vint.dec r1 with
    | error y =>
      obtain ⟨rfl,gg⟩:=S2.bad hB hd2;have HE:=Lib.hid (show R = .error y by rw [HE8.out];exact Ms.memE_err (by unfold Ms.tripE;rw [HD1.out];simp only [hd2]));clear hd2 hB S2;go_wp2_with fail;exact ⟨rfl,gg,HeadO.err HE.out⟩
    | ok q0 =>
    obtain ⟨a2,r2⟩:=q0;obtain ⟨-,-,gg⟩:=hB.good hd2;obtain ⟨rfl,S3⟩:=S2.num hB hd2;have kq3:=kq.grown gg (by intro e;injection e with e;exact qg e);have d1:=kq3.cell 1;have v1:=kq3.free 1;have hl0:=kq3.lt;have kq4 : Blk (w9.setCell ⟨q,1,none⟩ (.int .i64 (a2 : Nat))) q 71 #[.int .i64 (a1 : Nat),.int .i64 (a2 : Nat),.int .i64 0]:=kq3.set_ 1 (.int .i64 (a2 : Nat));have S4:=S3.far (k:=1) (v:=.int .i64 (a2 : Nat)) q1 q2 q3 q4;obtain ⟨wa,hwa⟩ : ∃ wa,wa = w9.setCell ⟨q,1,none⟩ (.int .i64 (a2 : Nat)):=⟨_,rfl⟩;rw [← hwa] at kq4 S4;have HWA:=Lib.hid hwa;have HD2:=Lib.hid hd2;clear hd2 hB gg S2 S3 kq hwa
    go_upto_region 10 with fail
    rw [← HWA.out];clear d1 v1 kq3 hl0 HWA
    go_wp2_with ((with_reducible refine wpList_ld (n:=1) rowRdM S4.ks rfl ?_ ?_);rotate_left;(rfl))
    refine (HN.out r2 wa S4.rd).mono ?_;intro e wb hB
    cases hd3 : Vint.dec r2 with
    | error y =>
      obtain ⟨rfl,gg⟩:=S4.bad hB hd3;have HE:=Lib.hid (show R = .error y by rw [HE8.out];exact Ms.memE_err (by unfold Ms.tripE;rw [HD1.out];simp only [HD2.out,hd3]));clear hd3 hB S4;go_wp2_with fail;exact ⟨rfl,gg,HeadO.err HE.out⟩
    | ok q0 =>
    obtain ⟨a3,r3'⟩:=q0;obtain ⟨-,-,gg⟩:=hB.good hd3;obtain ⟨rfl,S5⟩:=S4.num hB hd3;have HE9:=Lib.hid (show R = Ms.memE { m2 with mem:=l ++ [(((a1 : Nat) : Int),((a2 : Nat) : Int),((a3 : Nat) : Int))] } (z - (k + 1)) r3' by rw [HE8.out];exact Ms.memE_on (by unfold Ms.tripE;rw [HD1.out];simp only [HD2.out,hd3]));have kq5:=kq4.grown gg (by intro e;injection e with e;exact qg e);have d1:=kq5.cell 2;have v1:=kq5.free 2;have hl0:=kq5.lt;have kq6 : Blk (wb.setCell ⟨q,2,none⟩ (.int .i64 (a3 : Nat))) q 71 #[.int .i64 (a1 : Nat),.int .i64 (a2 : Nat),.int .i64 (a3 : Nat)]:=kq5.set_ 2 (.int .i64 (a3 : Nat));have S6:=S5.far (k:=2) (v:=.int .i64 (a3 : Nat)) q1 q2 q3 q4;obtain ⟨wc,hwc⟩ : ∃ wc,wc = wb.setCell ⟨q,2,none⟩ (.int .i64 (a3 : Nat)):=⟨_,rfl⟩;rw [← hwc] at kq6 S6;have HWC:=Lib.hid hwc;clear hd3 hB gg S4 S5 kq4 hwc HD1 HD2 HE8 qg
    go_upto_region 11 with fail
    rw [← HWC.out];clear d1 v1 kq5 hl0 HWC
    have c15 : wc.cell? ⟨t,15,none⟩ = some (.slice A3 k c3):=by rw [← HLEN.out];exact S6.kt.cell 15
    have ho : OwnMb 71 wc w0.heap.size A3 k c3 l:=by rw [← HLEN.out];exact S6.own
    have hbw:=S6.o.size;have HS6:=Lib.hid S6;have hz8:=HZ8.out;clear S6
    go_wp2_with first
      | ((with_reducible refine wpList_ld rowMb kq6 (th_sizeH _ _ _) ?_ ?_);rotate_left;(rfl))
      | (at_builtin;refine wpList_appMb rfl (.tmp 37) (.tmp 39) rfl rfl (ho.alloc _) (news:=[(((a1 : Nat) : Int),((a2 : Nat) : Int),((a3 : Nat) : Int))]) rfl (Rd.made _ _ _ _) rfl ?h2 ?h3 ?h4)
    case h2=>omega
    case h3=>simp;omega
    intro A9 c9 wd o9 g9 m9 b9;rw [← HLEN.out] at o9;obtain ⟨kt9,S9⟩:=HS6.out.app (v:=(((a1 : Nat) : Int),((a2 : Nat) : Int),((a3 : Nat) : Int))) ((Below.refl _ _).alloc (Nat.le_refl _) (.cells #[.int .i64 (a1 : Nat),.int .i64 (a2 : Nat),.int .i64 (a3 : Nat)] 71)) o9 g9 b9
    have c15' : wd.cell? ⟨t,15,none⟩ = some (.slice A3 k c3):=by rw [← HLEN.out];exact kt9.cell 15
    have v15:=kt9.free 15
    have S9 : MH g s t w0 { m2 with mem:=l ++ [(((a1 : Nat) : Int),((a2 : Nat) : Int),((a3 : Nat) : Int))] } A9 c9 r3' (wd.setCell ⟨t,15,none⟩ (.slice A9 (k + 1) c9)):=by rw [← HLEN.out];exact S9
    have hl15:=kt9.lt;have HS9:=Lib.hid S9;clear kt9 S9 o9 g9 m9 b9 c15 HS6 kq6 ho;go_wp2_with fail
    go_roundw
    case rel=>exact ⟨k + 1,l ++ [(((a1 : Nat) : Int),((a2 : Nat) : Int),((a3 : Nat) : Int))],A9,c9,r3',by omega,by go_num,by rw [List.length_append,HLEN.out];rfl,HS9.out,HE9.out⟩
    case measure=>simp [intOf];omega
  obtain rfl : k = z:=by omega
  have hkd : ¬ (k : Int) < (k : Int):=by omega
  obtain ⟨m3,hm3⟩ : ∃ m3 : Ms.Msg,m3 = { m2 with mem:=l }:=⟨_,rfl⟩;have HS:=Lib.hid (show R = Ms.seqE m3 r by rw [HEQ.out,Nat.sub_self,hm3];rfl);rw [← hm3] at S;have HK3:=Lib.hid (show 1≤m3.kind∧m3.kind≤5 by rw [hm3];exact HM2.out.2);have c0 : wr.cell? ⟨t,0,none⟩ = some (.int .i64 m3.kind):=S.kt.cell 0;have HH:=Lib.hid (has17_any m3.kind wr HK3.out);obtain ⟨bq,hbq⟩ : ∃ bq,bq = decide (m3.kind ≠ 5):=⟨_,rfl⟩;obtain ⟨br,hbr⟩ : ∃ br,br = decide (m3.kind = 2∨m3.kind = 3):=⟨_,rfl⟩;obtain ⟨bs4,hb4⟩ : ∃ b,b = decide (m3.kind = 4):=⟨_,rfl⟩;obtain ⟨bs5,hb5⟩ : ∃ b,b = decide (m3.kind = 5):=⟨_,rfl⟩
  have hv : hasV m3.kind = .agg #[.bool bq,.bool br,.bool bs4,.bool bs5]:=by rw [hbq,hbr,hb4,hb5];rfl
  rw [hv] at HH;have HBQ:=Lib.hid hbq;have HBR:=Lib.hid hbr;clear hm3 HEQ HM2 hbq hbr hb4 hb5 hv HLEN HK3 hz' hk
  go_upto_region 13 with fail
  go_wp2_with fail;refine HH.out.mono ?_;rintro e w6 ⟨rfl,b6⟩;have S6:=S.below b6;clear S b6 c0 HH
  go_upto_region 14 with ((with_reducible refine wpList_st (cs:=#[.bool bq,.bool br,.bool bs4,.bool bs5]) rowPt (Blk.new _ _ _) rfl ?_ (pt_one _ _ _ _) ?_ ?_ ?_);(rfl);rotate_left;(rfl);(rfl);intro w7 kp g2 z2)
  obtain ⟨p,hp⟩ : ∃ p,p = w6.heap.size:=⟨_,rfl⟩;rw [← hp] at kp ⊢;have S7:=S6.below (new_below g2)
  have hpt : p ≠ t:=by have:=S6.kt.lt;omega
  have hpg : p ≠ g:=by have:=S6.o.size;have:=S6.hg;omega
  have c0:=kp.cell 0;clear g2 z2 S6 hp
  go_upto_if 47 with fail
  go_cut [] (fun wx=>∃ (m4 : Ms.Msg) (r' : List UInt8),MH g s t w0 m4 A3 c3 r' wx∧Blk wx p 56 #[.bool bq,.bool br,.bool bs4,.bool bs5]∧m4.kind = m3.kind∧R = Ms.nodeE m4 r')
  case first =>
    cases bq
    · have HE:=Lib.hid (show R = Ms.nodeE m3 r by
        have:=of_decide_eq_false HBQ.out.symm
        rw [HS.out];unfold Ms.seqE;rw [if_neg this])
      have HH:=Lib.hid (And.intro S7 kp);clear S7 kp c0;go_wp2_with fail;go_meet;exact ⟨m3,r,HH.out.1,HH.out.2,rfl,HE.out⟩
    · have HNE:=Lib.hid (show m3.kind ≠ 5 from of_decide_eq_true HBQ.out.symm)
      go_wp2_with ((with_reducible refine wpList_ld (n:=1) rowRdM S7.ks rfl ?_ ?_);rotate_left;(rfl))
      refine (HN.out r w7 S7.rd).mono ?_;intro e w8 hB
      cases hd : Vint.dec r with
      | error y =>
        obtain ⟨rfl,gg⟩:=S7.bad hB hd;have HE:=Lib.hid (show R = .error y by rw [HS.out];unfold Ms.seqE;rw [if_pos HNE.out,hd]);clear hd hB S7;go_wp2_with fail;exact ⟨rfl,gg,HeadO.err HE.out⟩
      | ok q0 =>
      obtain ⟨z1,r9⟩:=q0;obtain ⟨-,-,gg⟩:=hB.good hd;obtain ⟨rfl,S8⟩:=S7.num hB hd;have kp8:=(kp.grown gg (by intro e;injection e with e;exact hpg e.symm)).far (p:=⟨t,3,none⟩) hpt (.int .i64 (z1 : Nat));have HE:=Lib.hid (show R = Ms.nodeE { m3 with seq:=(z1 : Nat) } r9 by rw [HS.out];unfold Ms.seqE;rw [if_pos HNE.out,hd]);have d3 : w8.cell? ⟨t,3,none⟩ = some (.int .i64 m3.seq):=S8.kt.cell 3;have v3:=S8.kt.free 3;have hl0:=S8.kt.lt;have S9:=S8.set (m':={ m3 with seq:=(z1 : Nat) }) 3 (.int .i64 (z1 : Nat)) rfl rfl;have HH:=Lib.hid (And.intro S9 kp8);clear hd hB gg S7 S8 S9 kp kp8 c0;go_wp2_with fail;go_meet;exact ⟨_,r9,HH.out.1,HH.out.2,rfl,HE.out⟩
  case rest =>
  clear S7 kp c0 HS;obtain ⟨m4,r7,S7,kp,hk4,he⟩:=hcut;have HS:=Lib.hid he;have HK4:=Lib.hid hk4;have c1:=kp.cell 1;clear he hk4
  go_upto_if 52 with fail
  go_cut [] (fun wx=>∃ (m5 : Ms.Msg) (r' : List UInt8),MH g s t w0 m5 A3 c3 r' wx∧R = .ok (m5,r'))
  case first =>
    cases br
    · have HE:=Lib.hid (show R = .ok (m4,r7) by
        have:=of_decide_eq_false HBR.out.symm
        rw [← HK4.out] at this
        rw [HS.out];exact Ms.node_skip this)
      have HH:=Lib.hid S7;clear S7 kp c1;go_wp2_with fail;go_meet;exact ⟨m4,r7,HH.out,HE.out⟩
    · have HNE:=Lib.hid (show m4.kind = 2∨m4.kind = 3 by rw [HK4.out];exact of_decide_eq_true HBR.out.symm)
      obtain ⟨w7,hw7⟩ : ∃ w7,w7 = wc:=⟨_,rfl⟩;subst hw7
      go_wp2_with ((with_reducible refine wpList_ld (n:=1) rowRdM S7.ks rfl ?_ ?_);rotate_left;(rfl))
      refine (HN.out r7 _ S7.rd).mono ?_;intro e w8 hB
      cases hd : Vint.dec r7 with
      | error y =>
        obtain ⟨rfl,gg⟩:=S7.bad hB hd;have HE:=Lib.hid (show R = .error y by rw [HS.out];unfold Ms.nodeE;rw [if_pos HNE.out,hd]);clear hd hB S7;go_wp2_with fail;exact ⟨rfl,gg,HeadO.err HE.out⟩
      | ok q0 =>
      obtain ⟨z1,r9⟩:=q0;obtain ⟨rfl,S8⟩:=S7.num hB hd;have HE:=Lib.hid (show R = .ok ({ m4 with node:=(z1 : Nat) },r9) by rw [HS.out];unfold Ms.nodeE;rw [if_pos HNE.out,hd]);have d3 : w8.cell? ⟨t,4,none⟩ = some (.int .i64 m4.node):=S8.kt.cell 4;have v3:=S8.kt.free 4;have hl0:=S8.kt.lt;have S9:=S8.set (m':={ m4 with node:=(z1 : Nat) }) 4 (.int .i64 (z1 : Nat)) rfl rfl;have HH:=Lib.hid S9;clear hd hB S7 S8 S9 kp c1;go_wp2_with fail;go_meet;exact ⟨_,r9,HH.out,HE.out⟩
  case rest =>
  clear S7 kp c1 HS;obtain ⟨m5,r8,S,he⟩:=hcut;have HE:=Lib.hid he;clear he;obtain ⟨cs,hcs⟩ : ∃ cs,cs = mgc m5 sN sN (.slice A3 m5.mem.length c3):=⟨_,rfl⟩;have kt:=S.kt;rw [← hcs] at kt;have SZ:=Lib.hid (show cs.size = 16 by rw [hcs];rfl);have ON:=Lib.hid (show cs.all (·.oneCell') = true by rw [hcs];exact mgc_one ..);have HCS:=Lib.hid hcs;clear hcs
  go_wp2_with first
    | ((with_reducible refine wpList_ld rowMg kt SZ.out ?_ ?_);rotate_left;(rfl))
    | ((with_reducible refine wpList_st rowMg kt SZ.out SZ.out ON.out ?_ ?_ ?_);rotate_left;(rfl);(rfl);intro w9 k9 g9 z9)
  obtain ⟨A9,c9,hR9⟩:=S.rd;have h1:=S.hg;have h2:=S.ht;refine bodyPost_ret (v:=.agg cs) (results_blk rfl rowMg k9 SZ.out rfl) rfl ⟨grownM S.o (only_Below g9 (by omega) S.o.size),?_⟩;rw [HE.out];exact ⟨A3,c3,by rw [HCS.out],S.own.grown g9 (.inr S.ft),A9,c9,hR9.below (only_Below g9 (by omega) (by have:=hR9.lt;omega))⟩
end Go.Proofs.YtcgalmnllegnbaaGreat

namespace Go.Proofs.YtcgalmnllegnbaaGreat
set_option linter.unusedVariables false
set_option linter.unusedSimpArgs false
set_option maxRecDepth 100000
open Go.RowKit
theorem grownBy_transV {w w1 w2 : World} {g : Nat} (h : w.grownBy w1 (some g)) (k : w1.grownBy w2 (some g)) : w.grownBy w2 (some g) :=
  ⟨k.os.trans h.os,k.tape.trans h.tape,k.output.trans h.output,Nat.le_trans h.size k.size,fun b hb hne=>(k.block b (Nat.lt_of_lt_of_le hb h.size) hne).trans (h.block b hb hne)⟩
theorem bytes1_any (g b1 b2 b3 : Nat) (A : Option Addr) (n c : Nat) (bs : List UInt8) (v : Value) (w : World) (hR : Rdr w g A n c bs 0) (h1 : w.cell? ⟨b1,0,none⟩ = some (.pointer (some ⟨g,0,none⟩))) (h2 : w.cell? ⟨b2,0,none⟩ = some (.int .i64 (n : Nat))) (k3 : Blk w b3 22 #[v])
    (h1g : b1 ≠ g) (h2g : b2 ≠ g) (h3g : b3 ≠ g) (hl : n≤140737488355000) :
    Calls Tryz.prog 50 #[.pointer (some ⟨b1,0,none⟩),.pointer (some ⟨b2,0,none⟩),.pointer (some ⟨b3,0,none⟩)] w fun e w'=>e = .returned (.tuple #[]) ∧
      ∃ w1 A' c' A2 n2 c2,w.grownBy w1 (some g)∧Rdr w1 g A2 n2 c2 [] 0∧OwnB w1 w.heap.size A' n c' bs∧w' = w1.setCell ⟨b3,0,none⟩ (.slice A' n c'):=by
  have hlt:=hR.lt;have hbl:=hR.2.1;have HP:=Lib.hid (pass_ok n g A n c bs 0 w hR (Nat.le_refl _));have hd : bs.drop n = []:=List.drop_eq_nil_of_le (by have:=hbl.1;omega);clear hR
  go_enter Tryz.func50,Tryz.ntmps50
  go_wp2_with fail;refine HP.out.mono ?_;rintro e w1 ⟨A2,n2,c2,u,rfl,hw1,hR2⟩;rw [hd] at hR2
  have hb1 : RdB w1 g A n bs:=by rw [hw1];exact hbl.below ((Below.refl g w).setCell (Nat.le_refl _) u)
  have g1 : w.grownBy w1 (some g):=by rw [hw1];exact only_set (only_of_below (Below.refl _ _) _) _
  have k1:=k3.grown g1 (by intro e;injection e with e;exact h3g e.symm);clear hw1 hd hbl HP;go_wp2_with fail;refine (clone_any A n c bs g w1 hb1 (Nat.le_of_lt hR2.lt) (by omega)).mono ?_;rintro e w2 ⟨A3,n3,c3,rfl,ho,hb2⟩
  obtain rfl : n3 = n:=by rw [ho.1,hb1.1]
  have k2:=k1.below hb2 k1.lt;have g2 : w.grownBy w2 (some g):=grownBy_transV g1 (only_of_below hb2 _);have R2:=hR2.below (hb2.mono (by have:=hR2.lt;omega));have o2:=ho.mono g1.size;have c0:=k2.cell 0;have f0:=k2.free 0;have HH:=Lib.hid (And.intro g2 (And.intro R2 o2));clear g1 k1 hb1 hR2 hb2 ho g2 R2 o2 h1 h2 k3;go_wp2_with fail
  go_end0
  exact ⟨rfl,w2,A3,c3,A2,n2,c2,HH.out.1,HH.out.2.1,HH.out.2.2,rfl⟩
def BytesDone (w : World) (g n : Nat) (bs : List UInt8) (e : Ending) (w' : World) : Prop :=
  ∃ A' c' A2 n2 c2,e = .returned (.slice A' n c')∧w.grownBy w' (some g)∧OwnB w' w.heap.size A' n c' bs∧Rdr w' g A2 n2 c2 [] 0
set_option maxHeartbeats 1000000 in
theorem bytes_any (g : Nat) (A : Option Addr) (n c : Nat) (bs : List UInt8) (w : World) (hR : Rdr w g A n c bs 0) (hl : n≤140737488355000) :
    Calls Tryz.prog 20 #[.pointer (some ⟨g,0,none⟩),.int .i64 (n : Nat)] w (BytesDone w g n bs):=by
  have hlt:=hR.lt
  have hmf : ∀ (fn : Fn) (first cap : Array Value) (w : World),(Instr.makeFunc fn first cap).run Tryz.prog w = .ok (.func fn first cap) w:=fun _ _ _ _=>rfl
  have hck : ∀ args w,(callFunc 50 args).run Tryz.prog w = .ok (.enter 50 args) w:=by
    intro args w
    simp [go_sem]
  obtain ⟨s,hs⟩ : ∃ s,s = w.heap.size:=⟨_,rfl⟩;obtain ⟨W,hW⟩ : ∃ W,W = ((w.alloc (.cells #[.pointer (some ⟨g,0,none⟩)] 48)).alloc (.cells #[.int .i64 (n : Nat)] 3)).alloc (.cells #[.slice none 0 0] 22):=⟨_,rfl⟩
  have hBW : Below s w W:=by rw [hW,hs];exact (((Below.refl _ _).alloc (Nat.le_refl _) _).alloc (by simp) _).alloc (by simp;omega) _
  have hRW : Rdr W g A n c bs 0:=hR.below (hBW.mono (by omega))
  have q1 : Blk W s 48 #[.pointer (some ⟨g,0,none⟩)]:=by rw [hW,hs];exact ((Blk.new w _ _).alloc _).alloc _
  have q2 : Blk W (s + 1) 3 #[.int .i64 (n : Nat)]:=by
    have h:=(Blk.new (w.alloc (.cells #[.pointer (some ⟨g,0,none⟩)] 48)) 3 #[.int .i64 (n : Nat)]).alloc (.cells #[.slice none 0 0] 22);rw [hW,hs]
    simpa using h
  have q3 : Blk W (s + 1 + 1) 22 #[.slice none 0 0]:=by
    have h:=Blk.new ((w.alloc (.cells #[.pointer (some ⟨g,0,none⟩)] 48)).alloc (.cells #[.int .i64 (n : Nat)] 3)) 22 #[.slice none 0 0];rw [hW,hs]
    simpa using h
  have q4 : W.heap.size = s + 3:=by rw [hW,hs];simp
  have hGW : w.grownBy W (some g):=only_of_below (by rw [← hs];exact hBW) _;have HW:=Lib.hid hW;have HS:=Lib.hid hs;clear hW hs;have y1:=readW_below W g A n c;have y2:=hRW.below (y1.mono (by have:=HS.out;omega));have y3:=q1.below y1 q1.lt;have y4:=q2.below y1 q2.lt;have y5:=q3.below y1 q3.lt;have y6 : w.grownBy (readW W g A n c) (some g):=grownBy_transV hGW (only_of_below y1 _)
  have hgs : g < s:=by rw [HS.out];exact hlt
  have hb1:=bytes1_any g s (s + 1) (s + 1 + 1) A n c bs _ _ y2 (y3.cell 0) (y4.cell 0) y5 (by omega) (by omega) (by omega) hl;have HB1:=Lib.hid hb1;clear hb1 y2 y3 y4 q1 q2
  go_enter Tryz.func20,Tryz.ntmps20
  go_wp2_with fail;rw [← HW.out,← HS.out];refine (reading_any g _ _ A n c bs W hRW _ hck HB1.out ?_).mono ?_
  · rintro e' w1 ⟨rfl,h⟩
    exact .inl rfl
  rintro e' w2 ⟨rfl,hr⟩
  rcases hr with ⟨_,w1,A',c',A2,n2,c2,z1,z2,z3,rfl⟩ | ⟨x',w1,⟨hx,_⟩,rfl⟩
  · have hne : some g ≠ some (s + 1 + 1):=fun e=>by injection e;omega
    have z4:=grownBy_transV y6 z1;have k1:=(y5.grown z1 hne).set_ 0 (.slice A' n c');have t1 : w.grownBy (w1.setCell ⟨s + 1 + 1,0,none⟩ (.slice A' n c')) (some g):=only_new z4 (by show _≤s + 1 + 1;have:=HS.out;omega) _;have t2 : Rdr (w1.setCell ⟨s + 1 + 1,0,none⟩ (.slice A' n c')) g A2 n2 c2 [] 0:=z2.below ((Below.refl (g + 1) w1).setCell (by show g + 1≤s + 1 + 1;omega) _)
    have hn3 : A'.map (·.block) ≠ some (s + 1 + 1):=fun e=>by have:=(z3.lt _ e).1;have:=y1.size;omega
    have t3:=(z3.setFar (p:=⟨s + 1 + 1,0,none⟩) hn3 (.slice A' n c')).mono (Nat.le_trans hGW.size y1.size)
    generalize w1.setCell ⟨s + 1 + 1,0,none⟩ (.slice A' n c') = w2 at *
    have c2':=k1.cell 0;have f2:=k1.free 0;have t4 : w.grownBy (w2.setCell ⟨s + 1 + 1,0,none⟩ (.slice A' n c')) (some g):=only_new t1 (by show _≤s + 1 + 1;have:=HS.out;omega) _;have t5 : Rdr (w2.setCell ⟨s + 1 + 1,0,none⟩ (.slice A' n c')) g A2 n2 c2 [] 0:=t2.below ((Below.refl (g + 1) w2).setCell (by show g + 1≤s + 1 + 1;omega) _);have t6:=t3.setFar (p:=⟨s + 1 + 1,0,none⟩) hn3 (.slice A' n c');have HH:=Lib.hid (And.intro t4 (And.intro t6 t5));have k2:=(k1.set_ 0 (.slice A' n c')).cell 0;clear t1 t2 t3 t4 t5 t6 z1 z2 z3 z4 y5 y6 y1 q3 hGW hBW;go_wp2_with fail;exact bodyPost_ret (v:=.slice A' n c') (by simp [results,Tryz.results20,go_sem,c2']) rfl ⟨A',c',A2,n2,c2,rfl,HH.out.1,HH.out.2.1,HH.out.2.2⟩
  · cases hx
end Go.Proofs.YtcgalmnllegnbaaGreat

namespace Go.Proofs.YtcgalmnllegnbaaGreat
set_option linter.unusedVariables false
set_option linter.unusedSimpArgs false
set_option maxRecDepth 100000
open Go.RowKit
namespace Frame
theorem dec_nil : dec [] = .error 3:=rfl
theorem dec_form {v : UInt8} {t : List UInt8} (hv : v ≠ 1) : dec (v :: t) = .error 4:=by
  unfold dec
  simp only [if_pos hv]
theorem dec_int {t : List UInt8} {x : Nat} (h : Vint.dec t = .error x) : dec (1 :: t) = .error x:=by
  unfold dec
  simp only [h]
  exact if_neg (by simp)
theorem dec_size {t r : List UInt8} {k : Nat} (h : Vint.dec t = .ok (k,r)) (hk : 4096 < k) : dec (1 :: t) = .error 6:=by
  unfold dec
  simp only [h]
  rw [if_neg (by simp),if_pos hk]
theorem dec_short {t r : List UInt8} {k : Nat} (h : Vint.dec t = .ok (k,r)) (hk : k≤4096) (hr : r.length < k + 4) : dec (1 :: t) = .error 3:=by
  unfold dec
  simp only [h]
  rw [if_neg (by simp),if_neg (by omega),if_pos hr]
theorem dec_sum {t r : List UInt8} {k : Nat} (h : Vint.dec t = .ok (k,r)) (hk : k≤4096) (hr : k + 4≤r.length) (hs : (r.drop k).take 4 ≠ be (Crc.sum ((1 :: t).take ((1 :: t).length - r.length + k)))) : dec (1 :: t) = .error 5:=by
  unfold dec
  simp only [h]
  rw [if_neg (by simp),if_neg (by omega),if_neg (by omega),if_neg hs]
theorem dec_good {t r : List UInt8} {k : Nat} (h : Vint.dec t = .ok (k,r)) (hk : k≤4096) (hr : k + 4≤r.length) (hs : (r.drop k).take 4 = be (Crc.sum ((1 :: t).take ((1 :: t).length - r.length + k)))) : dec (1 :: t) = .ok (r.take k,r.drop (k + 4)):=by
  unfold dec
  simp only [h]
  rw [if_neg (by simp),if_neg (by omega),if_neg (by omega),if_pos hs]
def ReadF (w : World) (B : Nat) (bs : List UInt8) (e : Ending) (w' : World) : Prop :=
  Below w.heap.size w w'∧match dec bs with
    | .ok (x,_)=>∃ A' c',e = .returned (.tuple #[.slice A' x.length c',.int .i64 ((frm x).length : Nat)])∧RdB w' B A' x.length x
    | .error y=>e = .panicked [{ v:=flt y,recovered:=false }]
theorem ReadF.bad {w w' : World} {B : Nat} {bs : List UInt8} {e : Ending} {y : Nat} (h : dec bs = .error y) (he : e = .panicked [{ v:=flt y,recovered:=false }]) (hb : Below w.heap.size w w') : ReadF w B bs e w':=by
  unfold ReadF
  rw [h];exact ⟨hb,he⟩
set_option maxRecDepth 100000 in
set_option maxHeartbeats 400000 in
theorem read_any (A : Option Addr) (n c : Nat) (bs : List UInt8) (B : Nat) (w : World) (hb : RdB w B A n bs) (hB : B≤w.heap.size) (hl : n≤140737488355000) (hc : n≤c) (hm : c≤maxLen) :
    Calls Tryz.prog 39 #[.slice A n c] w (ReadF w B bs):=by
  obtain rfl:=hb.1
  unfold maxLen at hm
  rcases bs with _ | ⟨v,t⟩
  · go_enter Tryz.func39,Tryz.ntmps39
    go_wp2_with fail;refine (must_no (by first | rfl | (simp;done) | (simp;omega)) _ _).mono ?_;rintro e w1 ⟨rfl,rfl⟩;go_wp2_with fail;exact ⟨rfl,ReadF.bad dec_nil rfl (Below.refl _ _)⟩
  have hd0 : decide ((0 : Int) < ((v :: t).length : Int)) = true:=decide_eq_true (by simp);obtain ⟨a,rfl,hab,hv0⟩:=hb.at_ (k:=0) (by simp)
  have hv1 : w.cell? a = some (bv v):=by simpa [go_sem] using hv0
  clear hv0
  by_cases hv : v ≠ 1
  · have hq : ((v.toNat : Int) == 1) = false:=by
      rw [beq_eq_false_iff_ne];intro e;exact hv (UInt8.toNat_inj.1 (by show v.toNat = 1;omega))
    go_enter Tryz.func39,Tryz.ntmps39
    go_wp2_with fail;refine (must_yes (by first | rfl | (simp;done) | (simp;omega)) _ _).mono ?_;rintro e w1 ⟨rfl,rfl⟩;go_wp2_with fail;refine (must_no (by first | rfl | (simp;done) | (simp;omega)) _ _).mono ?_;rintro e w1 ⟨rfl,rfl⟩;go_wp2_with fail;exact ⟨rfl,ReadF.bad (dec_form hv) rfl (Below.refl _ _)⟩
  have hv:=Decidable.not_not.1 hv
  have hq : ((v.toNat : Int) == 1) = true:=by rw [hv];rfl
  have HV:=Lib.hid hv;clear hv;obtain ⟨L,hL⟩ : ∃ L,L = (v :: t).length:=⟨_,rfl⟩;rw [← hL] at hb hl hc hd0 ⊢
  have hLt : t.length + 1 = L:=by rw [hL];simp
  have hd1 : decide (0 < L) = true:=decide_eq_true (by omega);clear hL
  go_enter Tryz.func39,Tryz.ntmps39
  go_wp2_with fail;refine (must_yes (by first | rfl | (simp;done) | (simp;omega)) _ _).mono ?_;rintro e w1 ⟨rfl,rfl⟩;go_wp2_with fail;refine (must_yes (by first | rfl | (simp;done) | (simp;omega)) _ _).mono ?_;rintro e w1 ⟨rfl,rfl⟩;have hbt:=hb.drop 1;rw [List.drop_one,List.tail_cons] at hbt;have HBT:=Lib.hid hbt;clear hbt
  go_upto_region 3 with fail
  go_cut [4] (fun p wx=>∃ (g : Nat) (A1 : Option Addr) (c1 : Nat),p = .pointer (some ⟨g,0,none⟩)∧w.heap.size≤g∧Rdr wx g A1 t.length c1 t 0∧Below w.heap.size w wx)
  case first =>
    by_cases hc1 : c = 1
    · subst hc1
      obtain rfl : t = []:=List.eq_nil_of_length_eq_zero (by omega)
      obtain rfl : L = 1:=by omega
      go_wp2_with fail;refine (new_any _ _ _ [] 0 _ (RdB.nil _ _ _) (by omega) (by omega)).mono ?_;rintro e w1 ⟨A1,c1,g,rfl,hg,hR,hb1⟩;go_wp2_with fail;go_meet;exact ⟨g,A1,c1,rfl,hg,hR,hb1⟩
    · go_wp2_with fail
      refine (new_any _ _ _ t B _ HBT.out hB (by omega)).mono ?_;rintro e w1 ⟨A1,c1,g,rfl,hg,hR,hb1⟩;go_wp2_with fail;go_meet;exact ⟨g,A1,c1,rfl,hg,hR,hb1⟩
  case rest =>
    obtain ⟨g,A1,c1,rfl,hg,hR,hb1⟩:=hcut;go_wp2_with fail;refine (int_any _ _ _ _ _ _ _ hR).mono ?_;rintro e w2 ⟨rfl,hg2,A2,c2,hR2⟩;have hb2 : Below w.heap.size w w2:=hb1.trans (only_Below hg2 hg hb1.size)
    rename_i w1
    have HR:=Lib.hid hR;clear hR hg2 hb1
    rcases hdt : Vint.dec t with x | ⟨k,r⟩
    · rw [Vint.intM_bad hdt] at hR2 ⊢
      simp only at hR2 ⊢
      have hx : x ≠ 0:=by have:=Vint.dec_err hdt;omega
      have hq0 : ((x : Int) == 0) = false:=by rw [beq_eq_false_iff_ne];omega
      have HD:=Lib.hid hdt;clear hdt;go_wp2_with fail;refine (err_any _ _ _ _ _ _ _ hR2).mono ?_;rintro e w3 ⟨rfl,rfl⟩;go_wp2_with fail;refine (err_any _ _ _ _ _ _ _ hR2).mono ?_;rintro e w3 ⟨rfl,rfl⟩;go_wp2_with fail;refine (must_no (by first | rfl | (simp;done) | (simp;omega)) _ _).mono ?_;rintro e w3 ⟨rfl,rfl⟩;go_wp2_with fail;refine ⟨rfl,ReadF.bad ?_ rfl hb2⟩;rw [HV.out];exact dec_int HD.out
    · rw [Vint.intM_ok hdt] at hR2 ⊢
      simp only at hR2 ⊢
      have hkt:=(Vint.dec_ok hdt).2;have hrl:=(Vint.dec_ok_lt hdt).1
      unfold Vint.top at hkt
      obtain ⟨q,hq9⟩ : ∃ q,q = r.length:=⟨_,rfl⟩;rw [← hq9] at hR2 hrl;have HQ:=Lib.hid hq9;have HD:=Lib.hid hdt;clear hdt hq9;go_wp2_with fail;refine (err_any _ _ _ _ _ _ _ hR2).mono ?_;rintro e w3 ⟨rfl,rfl⟩;go_wp2_with fail;refine (err_any _ _ _ _ _ _ _ hR2).mono ?_;rintro e w3 ⟨rfl,rfl⟩;go_wp2_with fail;refine (must_yes (by first | rfl | (simp;done) | (simp;omega)) _ _).mono ?_;rintro e w3 ⟨rfl,rfl⟩
      by_cases hk : 4096 < k
      · have hdk : decide (k≤4096) = false:=decide_eq_false (by omega)
        go_wp2_with fail;refine (must_no (by first | rfl | (simp;done) | (simp;omega)) _ _).mono ?_;rintro e w3 ⟨rfl,rfl⟩;go_wp2_with fail;refine ⟨rfl,ReadF.bad ?_ rfl hb2⟩;rw [HV.out];exact dec_size HD.out hk
      have hdk : decide (k≤4096) = true:=decide_eq_true (by omega);go_wp2_with fail;refine (must_yes (by first | rfl | (simp;done) | (simp;omega)) _ _).mono ?_;rintro e w3 ⟨rfl,rfl⟩;go_wp2_with fail;refine (left_any _ _ _ _ _ _ _ hR2).mono ?_;rintro e w3 ⟨rfl,rfl⟩;obtain ⟨H,hH⟩ : ∃ H,H + q = L:=⟨L - q,by omega⟩
      have ew : IntKind.i64.wrap ((L : Int) - (q : Int)) = (H : Int):=by rw [IntWalk.i64_in _ (by omega)];omega
      go_wp2_with fail;refine (left_any _ _ _ _ _ _ _ hR2).mono ?_;rintro e w3 ⟨rfl,rfl⟩
      by_cases hs : q < k + 4
      · have hdk : decide ((k : Int) + 4≤(q : Int)) = false:=decide_eq_false (by omega)
        go_wp2_with fail;refine (must_no (by first | rfl | (simp;done) | (simp;omega)) _ _).mono ?_;rintro e w3 ⟨rfl,rfl⟩;go_wp2_with fail;refine ⟨rfl,ReadF.bad ?_ rfl hb2⟩;rw [HV.out];exact dec_short HD.out (by omega) (by rw [← HQ.out];omega)
      obtain ⟨E,hE⟩ : ∃ E,H + k = E:=⟨_,rfl⟩
      have eHk : (H : Int) + (k : Int) = (E : Int):=by omega
      have ew4 : IntKind.i64.wrap ((E : Int) + 4) = ((E + 4 : Nat) : Int):=by rw [IntWalk.i64_in _ (by omega)];rfl
      have hcE : E + 4≤c:=by omega
      have hdk2 : decide ((k : Int) + 4≤(q : Int)) = true:=decide_eq_true (by omega);go_wp2_with fail;refine (must_yes (by first | rfl | (simp;done) | (simp;omega)) _ _).mono ?_;rintro e w3 ⟨rfl,rfl⟩
      have hEL : E + 4≤L:=by omega
      have hbw : RdB w2.drew B (some a) L (v :: t):=hb.below (hb2.mono hB).drew;have rd52 : RdB w2.drew B (some a) E ((v :: t).take E):=hbw.take (by omega)
      have hdr : ((v :: t).drop E).take 4 = (r.drop k).take 4:=by
        have e1:=(Vint.dec_ok HD.out).1;have l1:=congrArg List.length e1;rw [List.length_append,← HQ.out] at l1;rw [← hE,← List.drop_drop]
        congr 2
        have e2 : v :: t = (v :: Vint.enc k) ++ r:=by rw [e1];rfl
        rw [e2,show H = (v :: Vint.enc k).length by rw [List.length_cons];omega,List.drop_left]
      have rd49 : RdB w2.drew B (some (a.add E)) 4 ((r.drop k).take 4):=by
        rw [← hdr];exact (hbw.drop E).take (by omega)
      have rdX : RdB w2.drew B (some (a.add H)) k (r.take k):=by
        have e1:=(Vint.dec_ok HD.out).1;have l1:=congrArg List.length e1;rw [List.length_append,← HQ.out] at l1
        have e2 : (v :: t).drop H = r:=by
          have e2 : v :: t = (v :: Vint.enc k) ++ r:=by rw [e1];rfl
          rw [e2,show H = (v :: Vint.enc k).length by rw [List.length_cons];omega,List.drop_left]
        have:=(hbw.drop H).take (k:=k) (by omega)
        rw [e2] at this;exact this
      have hsum : (v :: t).length - r.length + k = E:=by
        rw [← HQ.out,List.length_cons,hLt]
        omega
      have HSU:=Lib.hid hsum;clear hdr hsum;obtain ⟨X,hX⟩ : ∃ X,X = (r.drop k).take 4:=⟨_,rfl⟩;rw [← hX] at rd49;obtain ⟨P,hP⟩ : ∃ P,P = (v :: t).take E:=⟨_,rfl⟩;rw [← hP] at rd52;have HX:=Lib.hid hX;have HP:=Lib.hid hP;clear hX hP;have hBw : B≤w2.drew.heap.size:=Nat.le_trans hB hb2.size
      go_upto_region 10 with fail
      obtain ⟨E4,hE4⟩ : ∃ E4,E4 = E + 4:=⟨_,rfl⟩;have ew5 : IntKind.i64.wrap (E4 : Int) = (E4 : Int):=IntWalk.i64_in _ (by omega)
      have eE5 : (E : Int) + 4 = (E4 : Int):=by omega
      have le5 : E4≤c:=by omega
      have le6 : E≤E4:=by omega
      have le7 : E4 - E = 4:=by omega
      have le8 : ¬ c = E:=by omega
      have le9 : E≤c:=by omega
      have leA : H≤E:=by omega
      have leB : ¬ c = H:=by omega
      have leC : E - H = k:=by omega
      have HE4:=Lib.hid hE4;clear ew4 hE4;refine wp_region_any (by kernel_rfl) ?_
      try (change wpAny _ _ _ _ _ _ _ (World.drew _))
      refine wpAny_take (i:=0) (v:=?rv250) rfl (by kernel_rfl) (by kernel_rfl) (by kernel_rfl) (fun _ _ _ h=>h) (Or.inl ⟨by rfl,?ry250⟩) ?_
      case ry250=>((intro w;go_simp);(try with_reducible rfl))
      simp only [Act.put,List.getElem_toArray,List.getElem_cons_zero,List.getElem_cons_succ,List.setIfInBounds_toArray,List.set_cons_succ,List.set_cons_zero]
      refine wpAny_take (i:=1) (v:=?rv253) rfl (by kernel_rfl) (by kernel_rfl) (by kernel_rfl) (fun _ _ _ h=>h) (Or.inl ⟨by rfl,?ry253⟩) ?_
      case ry253=>((intro w;go_simp);(try with_reducible rfl))
      simp only [Act.put,List.getElem_toArray,List.getElem_cons_zero,List.getElem_cons_succ,List.setIfInBounds_toArray,List.set_cons_succ,List.set_cons_zero]
      refine wpAny_take (i:=2) (v:=?rv256) rfl (by kernel_rfl) (by kernel_rfl) (by kernel_rfl) (fun _ _ _ h=>h) (Or.inl ⟨by rfl,?ry256⟩) ?_
      case ry256=>((intro w;go_simp);(try with_reducible rfl))
      simp only [Act.put,List.getElem_toArray,List.getElem_cons_zero,List.getElem_cons_succ,List.setIfInBounds_toArray,List.set_cons_succ,List.set_cons_zero]
      refine wpAny_take (i:=3) (v:=?rv259) rfl (by kernel_rfl) (by kernel_rfl) (by kernel_rfl) (fun _ _ _ h=>h) (Or.inl ⟨by rfl,?ry259⟩) ?_
      case ry259=>((intro w;go_simp);(try with_reducible rfl))
      simp only [Act.put,List.getElem_toArray,List.getElem_cons_zero,List.getElem_cons_succ,List.setIfInBounds_toArray,List.set_cons_succ,List.set_cons_zero]
      refine wpAny_take (i:=4) (v:=?rv262) rfl (by kernel_rfl) (by kernel_rfl) (by kernel_rfl) (fun _ _ _ h=>h) (Or.inl ⟨by rfl,?ry262⟩) ?_
      case ry262=>((intro w;go_simp);(try with_reducible rfl))
      simp only [Act.put,List.getElem_toArray,List.getElem_cons_zero,List.getElem_cons_succ,List.setIfInBounds_toArray,List.set_cons_succ,List.set_cons_zero]
      refine wpAny_take (i:=5) (v:=?rv265) rfl (by kernel_rfl) (by kernel_rfl) (by kernel_rfl) (fun _ _ _ h=>h) (Or.inl ⟨by rfl,?ry265⟩) ?_
      case ry265=>((intro w;go_simp);(try with_reducible rfl))
      simp only [Act.put,List.getElem_toArray,List.getElem_cons_zero,List.getElem_cons_succ,List.setIfInBounds_toArray,List.set_cons_succ,List.set_cons_zero]
      refine wpAny_take (i:=6) (v:=?rv268) rfl (by kernel_rfl) (by kernel_rfl) (by kernel_rfl) (fun _ _ _ h=>h) (Or.inl ⟨by rfl,?ry268⟩) ?_
      case ry268=>((intro w;go_simp);(try with_reducible rfl))
      simp only [Act.put,List.getElem_toArray,List.getElem_cons_zero,List.getElem_cons_succ,List.setIfInBounds_toArray,List.set_cons_succ,List.set_cons_zero]
      refine wpAny_take (i:=7) (v:=?rv271) rfl (by kernel_rfl) (by kernel_rfl) (by kernel_rfl) (fun _ _ _ h=>h) (Or.inl ⟨by rfl,?ry271⟩) ?_
      case ry271=>((intro w;go_simp);(try with_reducible rfl))
      simp only [Act.put,List.getElem_toArray,List.getElem_cons_zero,List.getElem_cons_succ,List.setIfInBounds_toArray,List.set_cons_succ,List.set_cons_zero]
      refine wpAny_ready (rs:=[8]) (by kernel_rfl) (by simp) ?_;refine AllReady.cons rfl (fun K hK=>?_) AllReady.nil;go_simp;refine (sum_any _ _ _ _ _ _ rd52 hBw (by unfold maxLen;omega)).mono ?_;rintro e w3 ⟨A3,n3,c3,rfl,o3,b3⟩;have rd49b:=rd49.below (b3.mono hBw);have rdXb:=rdX.below (b3.mono hBw);have hb3 : Below w.heap.size w w3:=hb2.drew.trans (b3.mono hb2.size);obtain rfl:=o3.1;refine hK _ _ ?_;clear hK K;refine wpAny_ready (rs:=[9]) (by kernel_rfl) (by simp) ?_;refine AllReady.cons rfl (fun K hK=>?_) AllReady.nil;go_simp;refine (equal_any _ _ _ _ _ _ _ _ _ _ _ rd49b o3.rd (by omega) rfl).mono ?_;rintro e w4 ⟨rfl,m4,rfl⟩;have hb4:=below_drewN hb3 m4;have rdXc : RdB (w3.drewN m4) B (some (a.add H)) k (r.take k):=rdXb
      generalize w3.drewN m4 = w4 at *
      refine hK _ _ ?_;clear hK K;refine wpAny_ready (rs:=[10]) (by kernel_rfl) (by simp) ?_;refine AllReady.cons rfl (fun K hK=>?_) AllReady.nil
      by_cases hxs : X = be (Crc.sum P)
      · have HXS:=Lib.hid hxs
        clear hxs;go_simp;refine (must_yes (by exact decide_eq_true HXS.out) _ _).mono ?_;rintro e w5 ⟨rfl,rfl⟩;refine hK _ _ ?_;clear hK K;refine wpAny_done (by kernel_rfl) ?_ _;go_wp2_with fail;go_ret2
        have hdec : dec (v :: t) = .ok (r.take k,r.drop (k + 4)):=by
          rw [HV.out];refine dec_good HD.out (by omega) (by rw [← HQ.out];omega) ?_;rw [← HX.out,HXS.out,HP.out,← HSU.out,HV.out]
        have hrk : (r.take k).length = k:=by rw [List.length_take,← HQ.out];omega
        have hfl : (frm (r.take k)).length = E4:=by
          have:=congrArg List.length (dec_ok hdec).1
          rw [List.length_append,List.length_drop,← HQ.out,List.length_cons] at this
          have:=HE4.out
          omega
        refine ⟨hb4,?_⟩;rw [hdec];refine ⟨some (a.add H),c - H,?_,?_⟩
        · rw [hrk,hfl]
          rfl
        · rw [hrk]
          exact rdXc
      · have HXS:=Lib.hid hxs
        clear hxs;go_simp;refine (must_no (by exact decide_eq_false HXS.out) _ _).mono ?_;rintro e w5 ⟨rfl,rfl⟩;refine ⟨rfl,ReadF.bad ?_ rfl hb4⟩;rw [HV.out];refine dec_sum HD.out (by omega) (by rw [← HQ.out];omega) ?_;rw [← HX.out];intro e
        apply HXS.out
        rw [e,HP.out,← HSU.out,HV.out]
end Frame
end Go.Proofs.YtcgalmnllegnbaaGreat

namespace Go.Proofs.YtcgalmnllegnbaaGreat
set_option linter.unusedVariables false
set_option linter.unusedSimpArgs false
set_option maxRecDepth 100000
open Go.RowKit
namespace Frame
def GetF (w : World) (bs : List UInt8) (e : Ending) (w' : World) : Prop :=
  Below w.heap.size w w'∧match dec bs with
    | .ok (x,r)=>∃ A1 c1 A2 c2,e = .returned (.tuple #[.slice A1 x.length c1,.slice A2 r.length c2,.int .i64 0])∧OwnB w' w.heap.size A1 x.length c1 x∧OwnB w' w.heap.size A2 r.length c2 r∧∀ g,A1.map (·.block) = some g→A2.map (·.block) ≠ some g
    | .error y=>e = .returned (.tuple #[.slice none 0 0,.slice none 0 0,.int .i64 (y : Nat)])
set_option maxRecDepth 100000 in
set_option maxHeartbeats 400000 in
theorem get_any (A : Option Addr) (n c : Nat) (bs : List UInt8) (B : Nat) (w : World) (hb : RdB w B A n bs) (hB : B≤w.heap.size) (hl : n≤140737488355000) (hc : n≤c) (hm : c≤maxLen) :
    Calls Tryz.prog 13 #[.slice A n c] w (GetF w bs):=by
  obtain rfl:=hb.1;have hb0:=hb.alloc hB (.cells #[.int .i64 0] 31);have k0:=Blk.new w 31 #[.int .i64 0];have hbw : Below w.heap.size w (w.alloc (.cells #[.int .i64 0] 31)):=(Below.refl _ _).alloc (Nat.le_refl _) _
  have hBw : B≤(w.alloc (.cells #[.int .i64 0] 31)).heap.size:=by simp;omega
  rcases hd : dec bs with y | ⟨x,r⟩
  · have HD:=Lib.hid hd
    clear hd
    go_enter_defers Tryz.func13,Tryz.ntmps13
    go_wp2_with fail;refine (read_any _ _ _ bs B _ hb0 hBw hl hc hm).mono ?_;rintro e w1 ⟨hb1,he⟩;rw [HD.out] at he
    simp only at he
    subst he;have k1:=k0.below hb1 k0.lt;have hb2:=hbw.trans (hb1.mono hbw.size);go_wp2_with fail;refine leaves_cons (f:=38) (args:=#[.pointer (some ⟨w.heap.size,0,none⟩)]) (by simp) (by simp [go_sem]) ?_;refine (caught_panic _ _ _ _ _ (k1.cell 0) (k1.free 0)).mono ?_;rintro e u' w'' ⟨rfl,rfl,rfl⟩;have k2:=(k1.alloc (.cells #[.int .i64 (y : Nat)] 130)).set_ 0 (.int .i64 (y : Nat));have c2:=k2.cell 0;have hb3 : Below w.heap.size w ((w1.alloc (.cells #[.int .i64 (y : Nat)] 130)).setCell ⟨w.heap.size,0,none⟩ (.int .i64 (y : Nat))):=(hb2.alloc hb2.size _).setCell (Nat.le_refl _) _;refine ⟨.tuple #[.slice none 0 0,.slice none 0 0,.int .i64 (y : Nat)],by simp [results,Tryz.results13,go_sem,c2],hb3,?_⟩;rw [HD.out]
  · have HD:=Lib.hid hd
    obtain ⟨hfx,hxl⟩:=dec_ok hd
    have hfl : (frm x).length + r.length = bs.length:=by rw [hfx,List.length_append]
    have hpos : 0 < (frm x).length:=by rw [frm_length];omega
    have hdr : bs.drop (frm x).length = r:=by rw [hfx,List.drop_left]
    obtain ⟨a,rfl,hab,_⟩:=hb.at_ (k:=0) (by omega);obtain ⟨m,hmm⟩ : ∃ m,m = (frm x).length:=⟨_,rfl⟩;rw [← hmm] at hfl hpos hdr;have HM:=Lib.hid hmm;have HR:=Lib.hid hdr;clear hd hfx hmm hdr
    go_enter_defers Tryz.func13,Tryz.ntmps13
    go_wp2_with fail;refine (read_any _ _ _ bs B _ hb0 hBw hl hc hm).mono ?_;rintro e w1 ⟨hb1,he⟩;rw [HD.out] at he
    simp only at he
    obtain ⟨A1,c1,rfl,hx1⟩:=he;rw [← HM.out];have k1:=k0.below hb1 k0.lt;have hb2:=hbw.trans (hb1.mono hbw.size);have hr1:=(hb0.below (hb1.mono hBw)).drop m;rw [HR.out] at hr1
    have hrn : bs.length - m = r.length:=by omega
    rw [hrn] at hr1
    have hr2 : RdB w1.drew B (if c = m then some a else some (a.add m)) r.length r:=by
      split
      · rename_i h
        have : r = []:=List.eq_nil_of_length_eq_zero (by omega);rw [this];exact RdB.nil _ _ _
      · exact hr1
    have hx2 : RdB w1.drew B A1 x.length x:=hx1;obtain ⟨A2,hA2⟩ : ∃ A2,A2 = (if c = m then some a else some (a.add m)):=⟨_,rfl⟩;rw [← hA2] at hr2;have hA3:=hA2.symm;clear hA2 hr1 hx1
    have le1 : m≤bs.length:=by omega
    have hB1 : B≤w1.drew.heap.size:=Nat.le_trans hBw hb1.size
    go_upto_region 3 with fail
    refine wp_nopanic ?_
    go_region_with (first
      | (go_at_call_of 40 (Value.slice A1 x.length c1);refine (clone_any _ _ _ _ _ _ hx2 hB1 (by omega)).mono ?_;rintro e w3 ⟨A3,n3,c3,rfl,o3,b3⟩;have hr3:=hr2.below (b3.mono hB1);have hB3:=Nat.le_trans hB1 b3.size;have k3:=k1.drew.below b3 k1.lt;obtain rfl:=o3.1)
      | (go_at_call 40;refine (clone_any _ _ _ _ _ _ hr3 hB3 (by omega)).mono ?_;rintro e w4 ⟨A4,n4,c4,rfl,o4,b4⟩;have k4:=k3.below b4 k3.lt;have f4:=k4.free 0;have q4:=k4.cell 0;have o3b:=o3.below b4 (Nat.le_refl _);obtain rfl:=o4.1))
    refine NoPanic.ok ?_;go_wp2_with fail;refine leaves_cons (f:=38) (args:=#[.pointer (some ⟨w.heap.size,0,none⟩)]) (by simp) (by simp [go_sem]) ?_;refine (caught_none _ _).mono ?_;rintro e u' w'' ⟨rfl,rfl,rfl⟩;have k5:=k4.set_ 0 (.int .i64 0);have c5:=k5.cell 0;have hs1 : w.heap.size < w1.heap.size:=k1.lt;have hs3 : w1.heap.size≤w3.heap.size:=b3.size
    have ne3 : A3.map (·.block) ≠ some w.heap.size:=fun e=>by
      have:=(o3b.lt _ e).1
      simp at this
      omega
    have ne4 : A4.map (·.block) ≠ some w.heap.size:=fun e=>by
      have:=(o4.lt _ e).1
      omega
    have hb4 : Below w.heap.size w w4:=(hb2.drew.trans (b3.mono hb2.size)).trans (b4.mono (by have:=hb2.size;omega));refine ⟨.tuple #[.slice A3 x.length c3,.slice A4 r.length c4,.int .i64 0],by simp [results,Tryz.results13,go_sem,c5],hb4.setCell (Nat.le_refl _) _,?_⟩;rw [HD.out];refine ⟨A3,c3,A4,c4,rfl,(o3b.setFar ne3 _).mono ?_,(o4.setFar ne4 _).mono ?_,fun g hg hg2=>?_⟩
    · show w.heap.size≤w1.heap.size;omega
    · omega
    · have l1:=(o3.lt _ hg).2
      have l2:=(o4.lt _ hg2).1
      omega
end Frame
end Go.Proofs.YtcgalmnllegnbaaGreat

namespace Go.Proofs.YtcgalmnllegnbaaGreat
set_option linter.unusedVariables false
set_option linter.unusedSimpArgs false
set_option maxRecDepth 100000
open Go.RowKit
theorem grown_reflF (w : World) (row : Option Nat) : w.grownBy w row:=⟨rfl,rfl,rfl,Nat.le_refl _,fun _ _ _=>rfl⟩
theorem fail1_any (b x : Nat) (hx : x ≠ 0) (w : World) (h : w.cell? ⟨b,0,none⟩ = some (.int .i64 (x : Nat))) :
    Calls Tryz.prog 83 #[.pointer (some ⟨b,0,none⟩)] w fun e w'=>e = .panicked [{ v:=fault (x : Nat),recovered:=false }]∧w = w':=by
  have hd : (((x : Nat) : Int) != 0) = true:=by rw [bne_iff_ne];omega
  go_enter Tryz.func83,Tryz.ntmps83
  go_wp2
  exact ⟨rfl,rfl,rfl⟩
def FailDone (w : World) (g x : Nat) (bs : List UInt8) (e : Nat) (r : Ending) (w' : World) : Prop :=
  r = .returned (.tuple #[])∧w.grownBy w' (some g)∧∃ A' c',Rdr w' g A' bs.length c' bs (if e = 0 then x else e)
theorem fail_any (g x : Nat) (hx : x ≠ 0) (A : Option Addr) (n c : Nat) (bs : List UInt8) (e : Nat) (w : World) (hR : Rdr w g A n c bs e) :
    Calls Tryz.prog 53 #[.pointer (some ⟨g,0,none⟩),.int .i64 (x : Nat)] w (FailDone w g x bs e):=by
  unfold FailDone
  obtain rfl:=hR.2.1.1;have hlt:=hR.lt
  have hmf : ∀ (fn : Fn) (first cap : Array Value) (w : World),(Instr.makeFunc fn first cap).run Tryz.prog w = .ok (.func fn first cap) w:=fun _ _ _ _=>rfl
  have hck : ∀ args w,(callFunc 83 args).run Tryz.prog w = .ok (.enter 83 args) w:=by
    intro args w
    simp [go_sem]
  obtain ⟨W,hW⟩ : ∃ W,W = w.alloc (.cells #[.int .i64 (x : Nat)] 31):=⟨_,rfl⟩
  have hBW : Below w.heap.size w W:=by rw [hW];exact (Below.refl _ _).alloc (Nat.le_refl _) _
  have hRW : Rdr W g A bs.length c bs e:=hR.below (hBW.mono (by omega))
  have q1 : Blk W w.heap.size 31 #[.int .i64 (x : Nat)]:=by rw [hW];exact Blk.new w _ _
  have q4 : W.heap.size = w.heap.size + 1:=by rw [hW];simp
  have HW:=Lib.hid hW;have Q4:=Lib.hid q4;clear hW q4
  by_cases he : e = 0
  · subst he
    rw [if_pos rfl];have y1:=(readW_below W g A bs.length c);have y2:=hRW.below (y1.mono (by have:=Q4.out;omega));have y3:=q1.below y1 q1.lt;have y6 : w.grownBy (readW W g A bs.length c) (some g):=only_of_below (hBW.trans (y1.mono (by have:=Q4.out;omega))) _
    go_enter Tryz.func53,Tryz.ntmps53
    go_wp2_with fail;rw [← HW.out];refine (reading_any g _ _ A _ c bs W hRW _ hck (fail1_any _ x hx _ (y3.cell 0)) ?_).mono ?_
    · rintro e' w1 ⟨rfl,rfl⟩
      exact .inr ⟨_,A,bs.length,c,bs,rfl,grown_reflF _ _,y2⟩
    rintro e' w2 ⟨rfl,hr⟩
    rcases hr with ⟨h,_⟩ | ⟨x',w1,⟨hx',rfl⟩,rfl⟩
    · cases h
    · obtain rfl : x' = x:=by injection hx' with h;injection h with h;injection h with h;injection h with _ h;injection h with h;injection h with h;injection h with h;injection h
      have r2 : Rdr (backW (readW W g A bs.length c) g A bs.length c x) g A bs.length c bs x:=backW_rdr y2 y2.2.1 hR.2.2.1 hR.2.2.2 x;have g2:=backW_only y6 A bs.length c x
      generalize backW (readW W g A bs.length c) g A bs.length c x = w2 at *
      go_wp2_with fail
      go_end0
      exact ⟨rfl,g2,A,c,r2⟩
  · rw [if_neg he]
    go_enter Tryz.func53,Tryz.ntmps53
    go_wp2_with fail;rw [← HW.out];refine (reading_fail g e A _ c bs W hRW he _).mono ?_;rintro e' w2 ⟨rfl,h2⟩;have r2:=hRW.below (h2.mono (by have:=Q4.out;omega));have g2 : w.grownBy w2 (some g):=only_of_below (hBW.trans (h2.mono (by have:=Q4.out;omega))) _;go_wp2_with fail
    go_end0
    exact ⟨rfl,g2,A,c,r2⟩
end Go.Proofs.YtcgalmnllegnbaaGreat

namespace Go.Proofs.YtcgalmnllegnbaaGreat
set_option linter.unusedVariables false
set_option linter.unusedSimpArgs false
set_option maxRecDepth 100000
open Go.RowKit
open Dot
def pad8 (l : List Int) : List Int:=l ++ List.replicate (8 - l.length) 0
theorem pad8_len {l : List Int} (h : l.length≤8) : (pad8 l).length = 8:=by unfold pad8;rw [List.length_append,List.length_replicate];omega
theorem pad8_set {l : List Int} (h : l.length < 8) (v : Int) : (pad8 l).set l.length v = pad8 (l ++ [v]):=by
  unfold pad8
  rw [List.set_append_right _ _ (Nat.le_refl _),Nat.sub_self,List.length_append,List.length_singleton,List.append_assoc]
  congr 1
  obtain ⟨j,hj⟩ : ∃ j,8 - l.length = j + 1:=⟨7 - l.length,by omega⟩;rw [hj,show 8 - (l.length + 1) = j by omega]
  rfl
theorem pad8_all {l : List Int} (h : l.length = 8) : pad8 l = l:=by unfold pad8;rw [h];simp
def GetEnd (w : World) (bs : List UInt8) (e : Ending) (w' : World) : Prop:=∃ A m c,e = .returned (.tuple #[.agg (uc (getU bs) (.slice A m c)),.int .i64 ((getE bs : Nat) : Int)])∧OwnD w' w.heap.size A m c (getL bs)∧Below w.heap.size w w'
theorem zero9 : (#[.int .i64 0,.int .i64 0,.int .i64 0,.int .i64 0,.int .i64 0,.int .i64 0,.int .i64 0,.int .i64 0,.slice none 0 0] : Array Value) = uc (uptoS noG) (.slice none 0 0):=by kernel_rfl
theorem zero9p : (#[.int .i64 0,.int .i64 0,.int .i64 0,.int .i64 0,.int .i64 0,.int .i64 0,.int .i64 0,.int .i64 0,.slice none 0 0] : Array Value) = uc (pad8 []) (.slice none 0 0):=by kernel_rfl
theorem Rdr.blk {w : World} {g : Nat} {A : Option Addr} {n c : Nat} {bs : List UInt8} {e : Nat} (h : Rdr w g A n c bs e) : Blk w g 94 #[.slice A n c,.int .i64 (e : Nat)]:=h.1
theorem get_bad {bs : List UInt8} (h : getE bs ≠ 0) : getU bs = uptoS noG∧getL bs = []:=by unfold getU getL;rw [if_neg h,if_neg h];exact ⟨rfl,rfl⟩
set_option maxRecDepth 100000 in
set_option maxHeartbeats 1000000 in
theorem get_any (A : Option Addr) (n c : Nat) (bs : List UInt8) (B : Nat) (w : World) (hb : RdB w B A n bs) (hB : B≤w.heap.size) (hl : n≤1000000000) :
    Calls Tryz.prog 23 #[.slice A n c] w (GetEnd w bs):=by
  unfold GetEnd
  have ZS:=Lib.hid (show (#[.int .i64 0,.int .i64 0,.int .i64 0,.int .i64 0,.int .i64 0,.int .i64 0,.int .i64 0,.int .i64 0,.slice none 0 0] : Array Value).size = 9 from rfl);have ZS1:=Lib.hid (show (#[.int .i64 0,.int .i64 0,.int .i64 0,.int .i64 0,.int .i64 0,.int .i64 0,.int .i64 0,.int .i64 0,.slice none 0 0] : Array Value).all (·.oneCell') = true by rw [zero9];exact uc_one rfl);obtain ⟨GE,hGE⟩ : ∃ GE,GE = getE bs:=⟨_,rfl⟩;have HGE0:=Lib.hid hGE.symm;clear hGE;have HNB:=Lib.hid hb.1
  go_enter Tryz.func23,Tryz.ntmps23
  go_upto_region 1 with fail
  refine nameW ?_;intro wv hwv;obtain ⟨b,hbb⟩ : ∃ b,b = w.heap.size:=⟨_,rfl⟩;rw [← hbb]
  have kz : Blk wv b 59 #[.int .i64 0,.int .i64 0,.int .i64 0,.int .i64 0,.int .i64 0,.int .i64 0,.int .i64 0,.int .i64 0,.slice none 0 0]:=by rw [hwv,hbb];exact Blk.new w _ _
  have gb : Below w.heap.size w wv:=by rw [hwv];exact (Below.refl _ _).alloc (Nat.le_refl _) _
  have hbw : w.heap.size≤b:=by omega
  have hrv : RdB wv B A n bs:=hb.below (gb.mono hB);have hBv:=Nat.le_trans hB gb.size;clear hwv hbb hb;go_wp2_with fail;refine (new_any A n c bs B wv hrv hBv (by omega)).mono ?_;rintro e w1 ⟨A1,c1,g,rfl,hg,hR,h1⟩;have kz1:=kz.below h1 kz.lt;have b1:=gb.trans (h1.mono gb.size);have hbg : b < g:=Nat.lt_of_lt_of_le kz.lt hg;clear kz h1 hrv gb;obtain ⟨w2,hw2⟩ : ∃ w2,w2 = w1.alloc (.cells #[.int .i64 0,.int .i64 0,.int .i64 0,.int .i64 0,.int .i64 0,.int .i64 0,.int .i64 0,.int .i64 0,.slice none 0 0] 59):=⟨_,rfl⟩;obtain ⟨gs,hgs⟩ : ∃ gs,gs = w1.heap.size:=⟨_,rfl⟩
  have ks : Blk w2 gs 59 (uc (pad8 []) (.slice none 0 0)):=by rw [hw2,hgs,← zero9p];exact Blk.new w1 _ _
  have kz2:=kz1.alloc (.cells #[.int .i64 0,.int .i64 0,.int .i64 0,.int .i64 0,.int .i64 0,.int .i64 0,.int .i64 0,.int .i64 0,.slice none 0 0] 59);have b2:=b1.alloc b1.size (.cells #[.int .i64 0,.int .i64 0,.int .i64 0,.int .i64 0,.int .i64 0,.int .i64 0,.int .i64 0,.int .i64 0,.slice none 0 0] 59);have hgl:=hR.lt;have hR2:=hR.below ((Below.refl (g + 1) w1).alloc (by omega) (.cells #[.int .i64 0,.int .i64 0,.int .i64 0,.int .i64 0,.int .i64 0,.int .i64 0,.int .i64 0,.int .i64 0,.slice none 0 0] 59));rw [← hw2] at kz2 b2 hR2
  have hggs : g < gs:=by omega
  have HW:=Lib.hid hw2;have HGS:=Lib.hid hgs;clear hw2 hgs kz1 b1 hR hgl
  go_upto_region 3 with fail
  rw [← HW.out,← HGS.out];go_wp2_with fail
  go_loopw [12] (fun i wr=>∃ (k : Nat) (A' : Option Addr) (c' : Nat),k≤8∧i = .int .i64 k∧Rdr wr g A' (rdI k bs 0).2.1.length c' (rdI k bs 0).2.1 (rdI k bs 0).2.2∧Blk wr gs 59 (uc (pad8 (rdI k bs 0).1) (.slice none 0 0))∧Blk wr b 59 #[.int .i64 0,.int .i64 0,.int .i64 0,.int .i64 0,.int .i64 0,.int .i64 0,.int .i64 0,.int .i64 0,.slice none 0 0]∧Below w.heap.size w wr) (fun i _=>8 - (intOf i).toNat)
  case atStart=>exact ⟨0,A1,c1,by omega,rfl,hR2,ks,kz2,b2⟩
  case round =>
  clear hR2 ks kz2 b2;obtain ⟨k,A1,c1,hk,rfl,hR,ks,kz,gW⟩:=hrel
  by_cases hlt : k < 8
  case pos =>
    have hln:=rdI_len bs 0 k
    have hs : rdI (k + 1) bs 0 = ((rdI k bs 0).1 ++ [((Vint.intM (rdI k bs 0).2.1 (rdI k bs 0).2.2).1 : Int)],(Vint.intM (rdI k bs 0).2.1 (rdI k bs 0).2.2).2):=by rw [rdI]
    generalize rdI k bs 0 = S at *
    obtain ⟨L,r,e⟩:=S
    simp only at hs hR ks hln
    have hps:=pad8_set (l:=L) (by omega);have hpl:=pad8_len (l:=L) (by omega);have HSt:=Lib.hid hs;have HPS:=Lib.hid hps;have HPL:=Lib.hid hpl
    have hk0 : (0 : Int)≤(k : Int):=by omega
    have hk1 : (k : Int) < 8:=by omega
    clear hs hps hpl;go_wp2_with fail;refine (int_any g A1 _ c1 r e wr hR).mono ?_;rintro e' w3 ⟨rfl,g3,A2,c2,R3⟩
    generalize Vint.intM r e = V at *
    obtain ⟨v,r',e'⟩:=V
    simp only at R3 HSt
    have ks3:=ks.grown g3 (fun h=>by injection h;omega);have kz3:=kz.grown g3 (fun h=>by injection h;omega);have gW3:=gW.grown g3 gW.size (fun q hq=>by injection hq;omega);have c0 : w3.cell? ⟨gs,k,none⟩ = some (.int .i64 ((pad8 L).getD k 0)):=(ks3.cell k).trans (uc_at HPL.out _ hlt);have f0:=ks3.free k;have hset:=uc_set HPL.out (.slice none 0 0) hlt ((v : Nat) : Int);rw [show (pad8 L).set k ((v : Nat) : Int) = pad8 (L ++ [((v : Nat) : Int)]) by rw [← hln];exact HPS.out _] at hset;have ks4:=ks3.set_ k (.int .i64 ((v : Nat) : Int));rw [hset] at ks4;have kz4:=kz3.far (p:=⟨gs,k,none⟩) (by show b ≠ gs;omega) (.int .i64 ((v : Nat) : Int));have gW4:=gW3.setCell (p:=⟨gs,k,none⟩) (by show _≤gs;omega) (.int .i64 ((v : Nat) : Int));have R4:=R3.below ((Below.refl (g + 1) w3).setCell (p:=⟨gs,k,none⟩) (by show _≤gs;omega) (.int .i64 ((v : Nat) : Int)));have KS:=Lib.hid ks4;have KZ:=Lib.hid kz4;have GW:=Lib.hid gW4;have RR:=Lib.hid R4;clear hset ks4 kz4 gW4 R4 ks kz gW hR R3 ks3 kz3 gW3 g3;go_wp2_with fail
    go_roundw
    case rel=>exact ⟨k + 1,A2,c2,by omega,by go_num,by rw [HSt.out];exact RR.out,by rw [HSt.out];exact KS.out,KZ.out,GW.out⟩
    case measure=>simp [intOf];omega
  case neg =>
  obtain rfl : k = 8:=by omega
  have hUl:=rdI_len bs 0 8
  have hNN : rdN bs = Vint.intM (rdI 8 bs 0).2.1 (rdI 8 bs 0).2.2:=by rw [rdN]
  have hUU : rdU bs = (rdI 8 bs 0).1:=by rw [rdU]
  rw [pad8_all hUl,← hUU] at ks;rw [← hUU] at hUl
  generalize rdI 8 bs 0 = S at *
  obtain ⟨L0,r,e⟩:=S
  simp only at hNN hR
  have HNN:=Lib.hid hNN;have HUL:=Lib.hid hUl;have HRL:=Lib.hid (show rdL bs = rdDs (rdN bs).1 (rdN bs).2.1 (failM (rdN bs).1 (rdN bs).2.2) by rw [rdL])
  have hgedef : getE bs = if (rdL bs).2.2 = 0∧((rdL bs).2.1 ≠ []∨rightB (rdU bs) (rdL bs).1 = false) then 4 else (rdL bs).2.2:=by rw [getE]
  have HGD:=Lib.hid hgedef
  have hgu : getE bs = 0→getU bs = rdU bs∧getL bs = (rdL bs).1:=fun h=>by unfold getU getL;rw [if_pos h,if_pos h];exact ⟨rfl,rfl⟩
  have HGU:=Lib.hid hgu;clear hNN hUU hUl hgedef hgu
  generalize rdU bs = U at *
  go_wp2_with fail;refine (int_any g A1 _ c1 r e wr hR).mono ?_;rintro e1 w3 ⟨rfl,g3,A2,c2,R3⟩;have hsm:=intM_small r e;rw [← HNN.out] at R3 hsm ⊢
  generalize rdN bs = V at *
  obtain ⟨v,r,e⟩:=V
  simp only at R3 HRL hsm ⊢
  have ks3:=ks.grown g3 (fun h=>by injection h;omega);have kz3:=kz.grown g3 (fun h=>by injection h;omega);have gW3:=gW.grown g3 gW.size (fun q hq=>by injection hq;omega);clear ks kz gW hR g3 HNN
  by_cases hbig : 768 < v
  case pos =>
    have he0 : e = 0:=by
      false_or_by_contra
      have:=hsm (by assumption)
      omega
    subst he0
    have hfm : failM v 0 = 6:=by unfold failM;rw [if_pos hbig];rfl
    have hrl:=HRL.out;rw [hfm,rdDs_stuck r 6 0 (show (6 : Nat) ≠ 0 by decide) v (by omega)] at hrl
    have hge : getE bs = 6:=by rw [HGD.out,hrl];rfl
    have HGE:=Lib.hid hge;have hdb : decide ((768 : Int) < ((v : Nat) : Int)) = true:=decide_eq_true (by omega);clear HRL HGD HGU hfm hrl hge hsm;go_wp2_with fail;refine (fail_any g 6 (by decide) A2 _ c2 r 0 _ R3).mono ?_;rintro e1 w4 ⟨rfl,g4,A4,c4,R4⟩;rw [if_pos rfl] at R4;have kz4:=kz3.grown g4 (fun h=>by injection h;omega);have gW4:=gW3.grown g4 gW3.size (fun q hq=>by injection hq;omega);clear ks3 kz3 gW3 R3 g4;go_wp2_with fail
    go_loopw [8] (fun i wr=>∃ k : Nat,k = 0∧i = .int .i64 k∧w4 = wr) (fun _ _=>0)
    case atStart=>exact ⟨0,rfl,rfl,rfl⟩
    case round =>
      obtain ⟨k,hk0,rfl,rfl⟩:=hrel
      have hk1 : (k : Int) < ((v : Nat) : Int):=by omega
      clear hk0 hbig hdb;have hR:=R4;have kz:=kz4;have gW:=gW4;clear R4 kz4 gW4;go_wp2_with fail;refine (err_any g _ _ _ _ _ _ hR).mono ?_;rintro e w88 ⟨rfl,rfl⟩;go_wp2_with fail;refine (err_any g _ _ _ _ _ _ hR).mono ?_;rintro e w89 ⟨rfl,rfl⟩
      have hxe : ((((6 : Nat) : Int)) != 0) = true:=by rw [bne_iff_ne];omega
      go_wp2_with fail;refine (err_any g _ _ _ _ _ _ hR).mono ?_;rintro e w90 ⟨rfl,rfl⟩;go_wp2_with fail;refine (err_any g _ _ _ _ _ _ hR).mono ?_;rintro e w91 ⟨rfl,rfl⟩
      go_wp2_with ((with_reducible refine wpList_st rowS kz ZS.out ZS.out ZS1.out ?_ ?_ ?_);rotate_left;(rfl);(rfl);intro w92 k92 g92 z92)
      rw [zero9] at k92;have gz:=gW.grown g92 gW.size (fun q hq=>by injection hq;omega);have hbad:=get_bad (bs:=bs) (by rw [HGE.out];omega);refine bodyPost_ret (v:=.tuple #[.agg (uc (uptoS noG) (.slice none 0 0)),.int .i64 ((6 : Nat) : Int)]) (results_blk2 rfl rowS k92 (by rfl) rfl rfl) rfl ⟨none,0,0,by rw [HGE.out,hbad.1],by rw [hbad.2];exact OwnD.nil _ _,gz⟩
  case neg =>
    have hfm : failM v e = e:=by unfold failM;rw [if_neg hbig]
    have hdb : decide ((768 : Int) < ((v : Nat) : Int)) = false:=decide_eq_false (by omega);have hrl:=HRL.out;rw [hfm] at hrl;have HRL2:=Lib.hid hrl;clear hrl hfm HRL hsm;go_wp2_with fail;obtain ⟨wo,hwo⟩ : ∃ wo,wo = w3:=⟨_,rfl⟩
    have hbs : g + 1≤wo.heap.size:=by rw [hwo];exact R3.lt
    have hbs2 : gs < wo.heap.size:=by rw [hwo];exact ks3.lt
    have hbs3 : b < wo.heap.size:=by omega
    have hbs4 : wo.heap.size≤w3.heap.size:=by rw [hwo];exact Nat.le_refl _
    have hwo0 : w.heap.size≤wo.heap.size:=by rw [hwo];exact gW3.size
    clear hwo
    go_loopw [8] (fun i wr=>∃ (k : Nat) (A' : Option Addr) (c' : Nat) (Ad : Option Addr) (m cd : Nat),k≤v∧i = .int .i64 k∧m≤k∧Rdr wr g A' (rdDs k r e).2.1.length c' (rdDs k r e).2.1 (rdDs k r e).2.2∧Blk wr gs 59 (uc U (.slice Ad m cd))∧OwnD wr wo.heap.size Ad m cd (rdDs k r e).1∧Blk wr b 59 #[.int .i64 0,.int .i64 0,.int .i64 0,.int .i64 0,.int .i64 0,.int .i64 0,.int .i64 0,.int .i64 0,.slice none 0 0]∧Below w.heap.size w wr∧wo.heap.size≤wr.heap.size) (fun i _=>v - (intOf i).toNat)
    case atStart=>exact ⟨0,A2,c2,none,0,0,by omega,rfl,by omega,R3,ks3,OwnD.nil _ _,kz3,gW3,hbs4⟩
    case round =>
    clear R3 ks3 kz3 gW3 hbs4;obtain ⟨k,A2,c2,Ad,m,cd,hk,rfl,hmk,hR,ks,oD,kz,gW,hws⟩:=hrel
    have hk0 : (0 : Int)≤(k : Int):=by omega
    have hst : k < v→(rdDs k r e).2.2 = 0→rdDs (k + 1) r e = ((rdDs k r e).1 ++ [(rdD1 (rdDs k r e).2).1],(rdD1 (rdDs k r e).2).2):=fun _ h=>by rw [rdDs,if_pos h]
    have hfin : (k = v∨(rdDs k r e).2.2 ≠ 0)→rdDs v r e = rdDs k r e:=fun h=>by
      rcases h with h | h
      · rw [h]
      · exact rdDs_stuck r e k h v hk
    generalize rdDs k r e = S at *
    obtain ⟨L,r1,e1⟩:=S
    simp only at hR oD hst hfin
    have HST:=Lib.hid hst;have HFN:=Lib.hid hfin;clear hst hfin
    by_cases hgo : k < v∧e1 = 0
    case pos =>
      obtain ⟨hlt,rfl⟩:=hgo;have hst:=HST.out hlt rfl;have HST2:=Lib.hid hst
      have hk1 : (k : Int) < ((v : Nat) : Int):=by omega
      have hv:=hbig;clear HST HFN hst HRL2 HGD HGU;go_wp2_with fail;refine (err_any g _ _ _ _ _ _ hR).mono ?_;rintro e w40 ⟨rfl,rfl⟩;go_wp2_with fail;refine (int_any g A2 _ c2 r1 0 wr hR).mono ?_;rintro e' w4 ⟨rfl,g4,A4,c4,R4⟩
      have hrd : rdD1 (r1,0) = ((((Vint.intM r1 0).1 : Int),((Vint.intM (Vint.intM r1 0).2.1 (Vint.intM r1 0).2.2).1 : Int)),(Vint.intM (Vint.intM r1 0).2.1 (Vint.intM r1 0).2.2).2):=by rw [rdD1]
      rw [hrd] at HST2;clear hrd
      generalize Vint.intM r1 0 = V1 at *
      obtain ⟨x1,r2,e2⟩:=V1
      simp only at R4 HST2
      have ks4:=ks.grown g4 (fun h=>by injection h;omega);have kz4:=kz.grown g4 (fun h=>by injection h;omega);have gW4:=gW.grown g4 gW.size (fun q hq=>by injection hq;omega);have o4:=oD.grown g4 (.inr (own_ne oD.2 hR.blk (by decide)));have hws4:=Nat.le_trans hws g4.size;clear ks kz gW oD hR g4;obtain ⟨wn,hwn⟩ : ∃ wn,wn = w4.alloc (.cells #[.int .i64 (x1 : Nat),.int .i64 0] 100):=⟨_,rfl⟩;obtain ⟨gd,hgd⟩ : ∃ gd,gd = w4.heap.size:=⟨_,rfl⟩
      have kn : Blk wn gd 100 #[.int .i64 (x1 : Nat),.int .i64 0]:=by rw [hwn,hgd];exact Blk.new w4 _ _
      have ks5:=ks4.alloc (.cells #[.int .i64 (x1 : Nat),.int .i64 0] 100);have kz5:=kz4.alloc (.cells #[.int .i64 (x1 : Nat),.int .i64 0] 100);have gW5:=gW4.alloc gW4.size (.cells #[.int .i64 (x1 : Nat),.int .i64 0] 100);have o5:=o4.alloc (.cells #[.int .i64 (x1 : Nat),.int .i64 0] 100);have R5:=R4.below ((Below.refl (g + 1) w4).alloc (by omega) (.cells #[.int .i64 (x1 : Nat),.int .i64 0] 100))
      have hAd : Ad.map (·.block) ≠ some gd:=fun h=>by have:=(o4.lt gd h).2;omega
      have hgd2 : wo.heap.size≤gd:=by omega
      have hws5 : wo.heap.size≤wn.heap.size:=by rw [hwn];simp;omega
      rw [← hwn] at ks5 kz5 gW5 o5 R5;have HW:=Lib.hid hwn;have HGDd:=Lib.hid hgd;clear hwn hgd ks4 kz4 gW4 o4 R4 hws4
      go_upto_region 15 with fail
      rw [← HW.out,← HGDd.out];go_wp2_with fail;refine (int_any g A4 _ c4 r2 e2 wn R5).mono ?_;rintro e' w6 ⟨rfl,g6,A6,c6,R6⟩
      generalize Vint.intM r2 e2 = V2 at *
      obtain ⟨x2,r3,e3⟩:=V2
      simp only at R6 HST2
      have ks6:=ks5.grown g6 (fun h=>by injection h;omega);have kz6:=kz5.grown g6 (fun h=>by injection h;omega);have kn6:=kn.grown g6 (fun h=>by injection h;omega);have gW6:=gW5.grown g6 gW5.size (fun q hq=>by injection hq;omega);have o6:=o5.grown g6 (.inr (own_ne o5.2 R5.blk (by decide)));have hws6:=Nat.le_trans hws5 g6.size;have d1 : w6.cell? ⟨gd,1,none⟩ = some (.int .i64 0):=kn6.cell 1;have df:=kn6.free 1;have kn7:=kn6.set_ 1 (.int .i64 (x2 : Nat));have ks7:=ks6.far (p:=⟨gd,1,none⟩) (by show gs ≠ gd;omega) (.int .i64 (x2 : Nat));have kz7:=kz6.far (p:=⟨gd,1,none⟩) (by show b ≠ gd;omega) (.int .i64 (x2 : Nat));have gW7:=gW6.setCell (p:=⟨gd,1,none⟩) (Nat.le_trans hwo0 hgd2) (.int .i64 (x2 : Nat));have o7:=o6.setFar (p:=⟨gd,1,none⟩) hAd (.int .i64 (x2 : Nat));have R7:=R6.below ((Below.refl (g + 1) w6).setCell (p:=⟨gd,1,none⟩) (by show _≤gd;omega) (.int .i64 (x2 : Nat)))
      have hws7 : wo.heap.size≤(w6.setCell ⟨gd,1,none⟩ (.int .i64 (x2 : Nat))).heap.size:=by simpa [World.setCell] using hws6
      obtain ⟨w7,hw7⟩ : ∃ w7,w7 = w6.setCell ⟨gd,1,none⟩ (.int .i64 (x2 : Nat)):=⟨_,rfl⟩;rw [← hw7] at kn7 ks7 kz7 gW7 o7 R7 hws7;have HW7:=Lib.hid hw7;clear hw7 ks5 kz5 gW5 o5 R5 ks6 kz6 gW6 o6 R6 kn kn6 g6 hws5 hws6
      go_upto_region 16 with fail
      rw [← HW7.out];have c8 : w7.cell? ⟨gs,8,none⟩ = some (.slice Ad m cd):=(ks7.cell 8).trans (uc_last HUL.out _);have f8:=ks7.free 8;have t0 : w7.cell? ⟨gd,0,none⟩ = some (.int .i64 (x1 : Nat)):=kn7.cell 0;have t1 : w7.cell? ⟨gd,1,none⟩ = some (.int .i64 (x2 : Nat)):=kn7.cell 1;clear d1 df;have rX:=Rd.made w7 #[.int .i64 (x1 : Nat),.int .i64 (x2 : Nat)] 100 (0,0);have oX:=o7.alloc (.cells #[.int .i64 (x1 : Nat),.int .i64 (x2 : Nat)] 100)
      go_wp2_with (at_builtin;refine stop ?_)
      unfold Stop
      refine wpList_appD rfl (.tmp 44) (.tmp 46) rfl (by rfl) oX (by rfl) (m:=1) (news:=[(((x1 : Nat) : Int),((x2 : Nat) : Int))]) rX rfl (by omega) (Nat.le_trans hws7 (by simp)) ?_;intro A8 c8' w8 o8 g8 m8 b8;have hne:=own_ne oX.2 (ks7.alloc (.cells #[.int .i64 (x1 : Nat),.int .i64 (x2 : Nat)] 100)) (by decide);have hnez:=own_ne oX.2 (kz7.alloc (.cells #[.int .i64 (x1 : Nat),.int .i64 (x2 : Nat)] 100)) (by decide);have ks8:=(ks7.alloc (.cells #[.int .i64 (x1 : Nat),.int .i64 (x2 : Nat)] 100)).grown g8 hne;have kz8:=(kz7.alloc (.cells #[.int .i64 (x1 : Nat),.int .i64 (x2 : Nat)] 100)).grown g8 hnez;have gW8:=(gW7.alloc gW7.size (.cells #[.int .i64 (x1 : Nat),.int .i64 (x2 : Nat)] 100)).trans (b8.mono hwo0);have R8:=(R7.below ((Below.refl (g + 1) w7).alloc (by omega) (.cells #[.int .i64 (x1 : Nat),.int .i64 (x2 : Nat)] 100))).below (b8.mono hbs);have hws8:=Nat.le_trans hws7 (Nat.le_trans (show w7.heap.size≤_ by simp) b8.size);have c9 : w8.cell? ⟨gs,8,none⟩ = some (.slice Ad m cd):=(ks8.cell 8).trans (uc_last HUL.out _);have f9:=ks8.free 8;have hne8:=own_ne o8.2 ks8 (by decide);have ks9:=ks8.set_ 8 (.slice A8 (m + 1) c8');rw [uc_setS HUL.out] at ks9;have kz9:=kz8.far (p:=⟨gs,8,none⟩) (by show b ≠ gs;omega) (.slice A8 (m + 1) c8');have gW9:=gW8.setCell (p:=⟨gs,8,none⟩) (by show _≤gs;omega) (.slice A8 (m + 1) c8');have o9:=o8.setFar (p:=⟨gs,8,none⟩) hne8 (.slice A8 (m + 1) c8');have R9:=R8.below ((Below.refl (g + 1) w8).setCell (p:=⟨gs,8,none⟩) (by show _≤gs;omega) (.slice A8 (m + 1) c8'))
      have hws9 : wo.heap.size≤(w8.setCell ⟨gs,8,none⟩ (.slice A8 (m + 1) c8')).heap.size:=by simpa [World.setCell] using hws8
      have KS:=Lib.hid ks9;have KZ:=Lib.hid kz9;have GW:=Lib.hid gW9;have OO:=Lib.hid o9;have RR:=Lib.hid R9;have WS:=Lib.hid hws9;clear ks9 kz9 gW9 o9 R9 hws9 ks8 kz8 gW8 o8 R8 hws8 g8 m8 b8 rX oX ks7 kz7 gW7 o7 R7 hws7 kn7 t0 t1 c8 f8 hne hnez hne8;go_wp2_with fail
      go_roundw
      case rel=>exact ⟨_,_,_,_,_,_,_,_,_,_,_,_,_,_,_,_,_,_,_,_,_,_,_,_,⟨k + 1,A6,c6,A8,m + 1,c8',by omega,by go_num,by omega,by rw [HST2.out];exact RR.out,KS.out,by rw [HST2.out];exact OO.out,KZ.out,GW.out,WS.out⟩,rfl⟩
      case measure=>simp [intOf];omega
    case neg =>
      have hf2:=HFN.out (by omega);have hrl:=HRL2.out;rw [hf2] at hrl;have hge:=HGD.out;rw [hrl] at hge;have hgu:=HGU.out;rw [hrl] at hgu
      simp only at hge hgu
      have HGEd:=Lib.hid hge;have HGUd:=Lib.hid hgu
      have hr8:=fun w' (h : Below wr.heap.size wr w')=>right_any U HUL.out Ad m cd L w' ((oD.rd.below h).more h.size)
      have HR8:=Lib.hid hr8;clear HST HFN hf2 hrl hge hgu HRL2 HGD HGU hr8
      by_cases hlt : k < v
      case' pos =>
        have he1 : e1 ≠ 0:=fun h=>hgo ⟨hlt,h⟩
        have hk1 : (k : Int) < ((v : Nat) : Int):=by omega
        have hq : (((e1 : Nat) : Int) == 0) = false:=by rw [beq_eq_false_iff_ne];omega
        go_wp2_with fail;refine (err_any g _ _ _ _ _ _ hR).mono ?_;rintro e w40 ⟨rfl,rfl⟩;go_wp2_with fail;refine (err_any g _ _ _ _ _ _ hR).mono ?_;rintro e w41 ⟨rfl,rfl⟩
      case' neg =>
        obtain rfl : k = v:=by omega
        clear hgo;go_wp2_with fail;refine (err_any g _ _ _ _ _ _ hR).mono ?_;rintro e w41 ⟨rfl,rfl⟩
      all_goals
        by_cases he : e1 = 0
        case neg =>
          have hq2 : (((e1 : Nat) : Int) == 0) = false:=by rw [beq_eq_false_iff_ne];omega
          have hge:=HGEd.out;rw [if_neg (fun h=>he h.1)] at hge;have HGE:=Lib.hid hge;clear HGEd HGUd HR8 hge
          have hxe : ((((e1 : Nat) : Int)) != 0) = true:=by rw [bne_iff_ne];omega
          go_wp2_with fail;refine (err_any g _ _ _ _ _ _ hR).mono ?_;rintro e w90 ⟨rfl,rfl⟩;go_wp2_with fail;refine (err_any g _ _ _ _ _ _ hR).mono ?_;rintro e w91 ⟨rfl,rfl⟩
          go_wp2_with ((with_reducible refine wpList_st rowS kz ZS.out ZS.out ZS1.out ?_ ?_ ?_);rotate_left;(rfl);(rfl);intro w92 k92 g92 z92)
          rw [zero9] at k92;have gz:=gW.grown g92 gW.size (fun q hq=>by injection hq;omega);have hbad:=get_bad (bs:=bs) (by rw [HGE.out];omega);refine bodyPost_ret (v:=.tuple #[.agg (uc (uptoS noG) (.slice none 0 0)),.int .i64 ((e1 : Nat) : Int)]) (results_blk2 rfl rowS k92 (by rfl) rfl rfl) rfl ⟨none,0,0,by rw [HGE.out,hbad.1],by rw [hbad.2];exact OwnD.nil _ _,gz⟩
        case pos =>
          subst he
          by_cases hrn : r1 = []
          case neg =>
            have hlen : (0 : Int) < ((r1.length : Nat) : Int):=by have:=List.length_pos_iff.2 hrn;omega
            have hlen2 : 0 < r1.length:=List.length_pos_iff.2 hrn;have hge:=HGEd.out;rw [if_pos ⟨rfl,.inl hrn⟩] at hge;have HGE:=Lib.hid hge;clear HGEd HGUd HR8 hge;go_wp2_with fail;refine (left_any g _ _ _ _ _ _ hR).mono ?_;rintro e w42 ⟨rfl,rfl⟩;go_wp2_with fail;refine (fail_any g 4 (by decide) A2 _ c2 r1 0 _ hR).mono ?_;rintro e w43 ⟨rfl,g4,A4,c4,R4⟩;rw [if_pos rfl] at R4
            replace kz:=kz.grown g4 (fun h=>by injection h;omega)
            replace gW:=gW.grown g4 gW.size (fun q hq=>by injection hq;omega)
            replace hR:=R4
            clear R4 g4
            have hxe : ((((4 : Nat) : Int)) != 0) = true:=by rw [bne_iff_ne];omega
            go_wp2_with fail;refine (err_any g _ _ _ _ _ _ hR).mono ?_;rintro e w90 ⟨rfl,rfl⟩;go_wp2_with fail;refine (err_any g _ _ _ _ _ _ hR).mono ?_;rintro e w91 ⟨rfl,rfl⟩
            go_wp2_with ((with_reducible refine wpList_st rowS kz ZS.out ZS.out ZS1.out ?_ ?_ ?_);rotate_left;(rfl);(rfl);intro w92 k92 g92 z92)
            rw [zero9] at k92;have gz:=gW.grown g92 gW.size (fun q hq=>by injection hq;omega);have hbad:=get_bad (bs:=bs) (by rw [HGE.out];omega);refine bodyPost_ret (v:=.tuple #[.agg (uc (uptoS noG) (.slice none 0 0)),.int .i64 ((4 : Nat) : Int)]) (results_blk2 rfl rowS k92 (by rfl) rfl rfl) rfl ⟨none,0,0,by rw [HGE.out,hbad.1],by rw [hbad.2];exact OwnD.nil _ _,gz⟩
          case pos =>
            subst hrn;have hUs:=uc_size HUL.out (.slice Ad m cd);have HUS:=Lib.hid hUs;have HUO:=Lib.hid (uc_one (U:=U) (s:=.slice Ad m cd) rfl);obtain ⟨su,hsu⟩ : ∃ su,su = uc U (.slice Ad m cd):=⟨_,rfl⟩;have hr8:=HR8.out;rw [← hsu] at HUS HUO ks hr8;have HR9:=Lib.hid hr8;have HSU:=Lib.hid hsu;clear hUs hsu hr8 HR8;go_wp2_with fail;refine (left_any g _ _ _ _ _ _ hR).mono ?_;rintro e w42 ⟨rfl,rfl⟩
            go_wp2_with ((with_reducible refine wpList_ldg rowS ks HUS.out ?_ ?_ ?_);rotate_left;(rfl);(rfl))
            refine (HR9.out _ (Below.refl _ _)).mono ?_;rintro e w43 ⟨rfl,h3⟩;have hglt:=hR.lt
            replace hR:=hR.below (h3.mono (by omega))
            replace kz:=kz.below h3 kz.lt
            replace ks:=ks.below h3 ks.lt
            replace gW:=gW.trans (h3.mono gW.size)
            replace oD:=oD.below h3 (Nat.le_refl _)
            cases hright : rightB U L
            case false =>
              have hge:=HGEd.out;rw [if_pos (by simp [hright])] at hge;have HGE:=Lib.hid hge;clear HGEd HGUd hge hright h3 HR9;go_wp2_with fail;refine (fail_any g 4 (by decide) A2 _ c2 [] 0 _ hR).mono ?_;rintro e w44 ⟨rfl,g4,A4,c4,R4⟩;rw [if_pos rfl] at R4
              replace kz:=kz.grown g4 (fun h=>by injection h;omega)
              replace gW:=gW.grown g4 gW.size (fun q hq=>by injection hq;omega)
              replace hR:=R4
              clear R4 g4
              have hxe : ((((4 : Nat) : Int)) != 0) = true:=by rw [bne_iff_ne];omega
              go_wp2_with fail;refine (err_any g _ _ _ _ _ _ hR).mono ?_;rintro e w90 ⟨rfl,rfl⟩;go_wp2_with fail;refine (err_any g _ _ _ _ _ _ hR).mono ?_;rintro e w91 ⟨rfl,rfl⟩
              go_wp2_with ((with_reducible refine wpList_st rowS kz ZS.out ZS.out ZS1.out ?_ ?_ ?_);rotate_left;(rfl);(rfl);intro w92 k92 g92 z92)
              rw [zero9] at k92;have gz:=gW.grown g92 gW.size (fun q hq=>by injection hq;omega);have hbad:=get_bad (bs:=bs) (by rw [HGE.out];omega);refine bodyPost_ret (v:=.tuple #[.agg (uc (uptoS noG) (.slice none 0 0)),.int .i64 ((4 : Nat) : Int)]) (results_blk2 rfl rowS k92 (by rfl) rfl rfl) rfl ⟨none,0,0,by rw [HGE.out,hbad.1],by rw [hbad.2];exact OwnD.nil _ _,gz⟩
            case true =>
              have hge:=HGEd.out;rw [if_neg (by simp [hright])] at hge;have hgu:=HGUd.out hge;clear HGEd HGUd hright h3 HR9;have HGE:=Lib.hid hge;have HGUu:=Lib.hid hgu;clear hge hgu;go_wp2_with fail;refine (err_any g _ _ _ _ _ _ hR).mono ?_;rintro e w90 ⟨rfl,rfl⟩
              go_wp2_with (first
                | ((with_reducible refine wpList_ld rowS ks HUS.out ?_ ?_);rotate_left;(rfl))
                | ((with_reducible refine wpList_st rowS kz HUS.out ZS.out HUO.out ?_ ?_ ?_);rotate_left;(rfl);(rfl);intro w92 k92 g92 z92))
              have o92:=oD.grown g92 (.inr (own_ne oD.2 kz (by decide)));have gz:=gW.grown g92 gW.size (fun q hq=>by injection hq;omega);refine bodyPost_ret (v:=.tuple #[.agg su,.int .i64 0]) (results_blk2 rfl rowS k92 HUS.out rfl rfl) rfl ⟨Ad,m,cd,by rw [HGE.out,HGUu.out.1,HSU.out];rfl,by rw [HGUu.out.2];exact o92.mono hwo0,gz⟩
end Go.Proofs.YtcgalmnllegnbaaGreat

namespace Go.Proofs.YtcgalmnllegnbaaGreat
set_option linter.unusedVariables false
set_option linter.unusedSimpArgs false
set_option maxRecDepth 100000
open Go.RowKit
open Dot Evt
open Ms (Mem)
abbrev MZ : Array Value:=#[.int .i64 0,.int .i64 0,.int .i64 0,.int .i64 0,.int .i64 0,.int .i64 0,.int .i64 0,.int .i64 0,.int .i64 0,.int .i64 0,.int .i64 0,.int .i64 0,.int .i64 0,.slice none 0 0,.slice none 0 0,.slice none 0 0]
theorem mz_size : MZ.size = 16:=rfl
theorem mz_one : MZ.all (·.oneCell') = true:=by kernel_rfl
theorem cells_grownM (w : World) (g o : Nat) (vs : List Value) : w.grownBy (w.setCells g o vs) (some g):=by
  obtain ⟨k1,k2,k3,k4⟩:=setCells_size w g vs o;exact ⟨k2,k3,k4,by rw [k1];exact Nat.le_refl _,fun k hk hne=>setCells_other w g _ _ k (fun e=>hne (by rw [e]))⟩
theorem Blk.thereM {w : World} {g o n : Nat} {t : TypeId} {cs : Array Value} (h : Blk w g t cs) (hn : o + n≤cs.size) : w.there g o n:=fun i hi=>by
  rw [h.cell,h.free]
  simp
  omega
theorem set_grownM (w : World) (b i : Nat) (v : Value) : w.grownBy (w.setCell ⟨b,i,none⟩ v) (some b):=cells_grownM w b i [v]
theorem results_cc17 {P : Program} {T U : TypeId} {n g : Nat} {cs : Array Value} {t : TypeId} {fn : Func} {p q : Tmp} {w : World} {tmps : Array Value} {ad : Addr} {v : Value} (h : fn.results = #[.cell p T,.cell q U]) (hR : RowT P T n) (hB : Blk w g t cs) (hn : cs.size = n) (hp : tmps.getD p undef = .pointer (some ⟨g,0,none⟩)) (hq : tmps.getD q undef = .pointer (some ad)) (hl2 : (loadVar U ad).run P w = .ok v w) : (results fn tmps).run P w = .ok (.tuple #[.agg cs,v]) w:=by
  obtain ⟨d,hu,hd,hi⟩:=hR;rw [← hn,← Array.length_toList] at hi
  have hp' : tmps[p]?.getD undef = .pointer (some ⟨g,0,none⟩):=by simpa using hp
  have hq' : tmps[q]?.getD undef = .pointer (some ad):=by simpa using hq
  have hl:=run_loadVar_mid w g 0 T cs.toList d hB.range hu hd hi;rw [Array.toArray_toList] at hl
  simp [results,h,hp',hq',asAddr,hl,hl2]
structure GetS (w0 : World) (B : Nat) (w : World) : Prop where
  ke : Blk w B 30 MZ
  kf : Blk w (B + 1) 31 #[.int .i64 0]
  gb : Below B w0 w
  hB : B = w0.heap.size
section
variable {w0 w w' : World} {B D g : Nat}
theorem GetS.lt (h : GetS w0 B w) : B + 1 < w.heap.size:=h.kf.lt
theorem GetS.low (h : GetS w0 B w) (hb : Below D w w') (hD : B + 1 < D) : GetS w0 B w':=⟨h.ke.below hb (by omega),h.kf.below hb hD,h.gb.trans (hb.mono (by omega)),h.hB⟩
theorem GetS.below (h : GetS w0 B w) (hb : Below w.heap.size w w') : GetS w0 B w':=h.low hb h.lt
theorem GetS.grown (h : GetS w0 B w) (hg : w.grownBy w' (some g)) (hgB : B + 1 < g) : GetS w0 B w' :=
  ⟨h.ke.grown hg (by intro e;injection e with e;omega),h.kf.grown hg (by intro e;injection e with e;omega),h.gb.grown hg (by have:=h.gb.size;have:=h.hB;omega) (fun q hq=>by injection hq;omega),h.hB⟩
end
theorem mget_close {bs : List UInt8} {w w3 : World} {B y : Nat} {tmps : Array Value} (s : GetS w B w3) (h2 : tmps.getD 2 undef = .pointer (some ⟨B,0,none⟩)) (h3 : tmps.getD 3 undef = .pointer (some ⟨B + 1,0,none⟩)) (he : Ms.getG bs = .error y) :
    Leaves Tryz.prog Tryz.f7 tmps (GiveMg w (Ms.getM bs).1 (Ms.getM bs).2) [{ target:=.fn (.func 16) #[],args:=#[.pointer (some ⟨B + 1,0,none⟩)] }] (.panicking [{ v:=mflt (y : Nat),recovered:=false }]) w3:=by
  have kf:=s.kf;refine leaves_cons (f:=16) (args:=#[.pointer (some ⟨B + 1,0,none⟩)]) (by simp) (by simp [go_sem]) ?_;refine (mcaught_panic _ _ _ _ _ (kf.cell 0) (kf.free 0)).mono ?_;rintro e u' w4 ⟨rfl,rfl,rfl⟩;have k4:=(kf.alloc (.cells #[.int .i64 (y : Nat)] 92)).set_ 0 (.int .i64 (y : Nat));have e4:=(s.ke.alloc (.cells #[.int .i64 (y : Nat)] 92)).far (p:=⟨B + 1,0,none⟩) (by show B ≠ B + 1;omega) (.int .i64 (y : Nat));have c4:=k4.cell 0;have g4:=(s.gb.alloc (by have:=s.gb.size;have:=s.hB;omega) (.cells #[.int .i64 (y : Nat)] 92)).setCell (p:=⟨B + 1,0,none⟩) (by show B≤B + 1;omega) (.int .i64 (y : Nat));rw [Ms.getM_err he];exact ⟨.tuple #[.agg MZ,.int .i64 (y : Nat)],results_cc17 rfl rowMg e4 mz_size h2 h3 (by simp [go_sem,c4]),zeroV,rfl,rfl,zeroV_own _ _,by rw [← s.hB];exact g4⟩
theorem mgc_setu (m : Ms.Msg) (s1 s2 s3 : Value) {U : List Int} (hU : U.length = 8) {w : World} {g : Nat} {T : TypeId} (k : Blk w g T (mgc m s1 s2 s3)) : Blk (w.setCells g 5 (U.map (Value.int .i64))) g T (mgc { m with u:=U } s1 s2 s3):=by
  match U,hU with
  | [a,b,c,d,e,f,h,i],_ =>
    have:=(((((((k.set_ 5 (.int .i64 a)).set_ 6 (.int .i64 b)).set_ 7 (.int .i64 c)).set_ 8 (.int .i64 d)).set_ 9 (.int .i64 e)).set_ 10 (.int .i64 f)).set_ 11 (.int .i64 h)).set_ 12 (.int .i64 i)
    have e2 : ((((((((mgc m s1 s2 s3).setIfInBounds 5 (.int .i64 a)).setIfInBounds 6 (.int .i64 b)).setIfInBounds 7 (.int .i64 c)).setIfInBounds 8 (.int .i64 d)).setIfInBounds 9 (.int .i64 e)).setIfInBounds 10 (.int .i64 f)).setIfInBounds 11 (.int .i64 h)).setIfInBounds 12 (.int .i64 i) = mgc { m with u:=[a,b,c,d,e,f,h,i] } s1 s2 s3:=by kernel_rfl
    rw [e2] at this;exact this
theorem getU_len (bs : List UInt8) : (getU bs).length = 8:=by
  by_cases h : getE bs = 0
  · exact (put_get h).2.2
  · rw [(get_bad h).1];rfl
theorem right_wfU {U : List Int} {l : List Dt} (h : rightB U l = true) : Wf U:=fun x hx=>by
  have:=List.all_eq_true.1 ((right_iff U l).1 h).1 x hx
  unfold numOk at this
  simp only [Bool.and_eq_true,decide_eq_true_eq] at this
  exact wf_of (by omega) (by omega)
theorem uI_list (U : List Int) : (uI U).toList = U.map (Value.int .i64):=rfl
theorem uI_size (U : List Int) : (uI U).size = U.length:=by unfold uI;simp
theorem uI_one (U : List Int) : (uI U).all (·.oneCell') = true:=by
  rw [Array.all_eq_true_iff_forall_mem];intro v hv
  unfold uI at hv
  simp at hv
  obtain ⟨y,_,rfl⟩:=hv
  rfl
set_option maxHeartbeats 4000000 in
theorem mget_any (A : Option Addr) (n c : Nat) (bs : List UInt8) (w0 : World) (hb : RdB w0 w0.heap.size A n bs) (hl : n≤1000000) (hc : n≤c) (hm : c≤maxLen) :
    Calls Tryz.prog 7 #[.slice A n c] w0 (GiveMg w0 (Ms.getM bs).1 (Ms.getM bs).2):=by
  have HRB:=Lib.hid hb;have HL:=Lib.hid hl;have HC:=Lib.hid hc;have HM:=Lib.hid hm;clear hb hl hc hm
  go_enter_defers Tryz.func7,Tryz.ntmps7
  go_upto_region 2 with fail
  refine nameW ?_;intro W hW;obtain ⟨B,hB⟩ : ∃ B,B = w0.heap.size:=⟨_,rfl⟩;rw [← hB]
  have S : GetS w0 B W:=by
    refine ⟨?_,?_,?_,hB⟩
    · rw [hW,hB];exact (Blk.new w0 _ _).alloc _
    · have h:=Blk.new (w0.alloc (.cells MZ 30)) 31 #[.int .i64 0]
      rw [hW,hB]
      simpa using h
    · rw [hW,hB];exact ((Below.refl _ _).alloc (Nat.le_refl _) _).alloc (by simp) _
  have HB:=Lib.hid hB;clear hW hB;have hfr:=HRB.out.below (by rw [← HB.out];exact S.gb);go_wp2_with fail;refine (Frame.get_any A n c bs w0.heap.size W hfr (by have:=S.gb.size;have:=HB.out;have:=S.lt;omega) (by have:=HL.out;omega) HC.out HM.out).mono ?_;rintro e w1 ⟨b1,he⟩;have S:=S.below b1;clear hfr
  rcases hd : Frame.dec bs with y | ⟨xs,r⟩
  · rw [hd] at he
    simp only at he
    subst he;have hy:=Frame.dec_err hd
    have hq : ((y : Int) == 0) = false:=by rw [beq_eq_false_iff_ne];omega
    have HD:=Lib.hid (Ms.getG_dec hd);clear hd hy b1;go_wp2_with fail;refine (mmust_bad _ _).mono ?_;rintro e w2 ⟨rfl,rfl⟩;go_wp2_with fail;exact mget_close S rfl rfl HD.out
  rw [hd] at he
  simp only at he
  obtain ⟨A1,c1,A2,c2,rfl,o1,o2,_⟩:=he;have HD:=Lib.hid hd;have hxl:=(Frame.dec_ok hd).2;have HXL:=Lib.hid hxl;clear hd hxl b1;go_wp2_with fail;refine (mmust_ok _ _).mono ?_;rintro e w2 ⟨rfl,rfl⟩
  by_cases hr : r = []
  case neg =>
    have hrl : ((r.length : Nat) : Int) ≠ 0:=by
      intro h;exact hr (List.eq_nil_of_length_eq_zero (by omega))
    have hq : (((r.length : Nat) : Int) == 0) = false:=by rw [beq_eq_false_iff_ne];exact hrl
    have hrn : ¬ r.length = 0:=by omega
    have HRR:=Lib.hid (Ms.getG_rest HD.out hr);have hrn2 : r ≠ []:=hr;clear hr hrl;go_wp2_with fail;refine (mmust_no (by simp [hrn2]) _ _).mono ?_;rintro e w2 ⟨rfl,rfl⟩;go_wp2_with fail;exact mget_close (y:=4) S rfl rfl HRR.out
  subst hr;go_wp2_with fail;refine (mmust_yes (by simp) _ _).mono ?_;rintro e w2 ⟨rfl,rfl⟩;have hxr:=o1.rd;have HGX:=Lib.hid (Ms.getG_x HD.out);clear o2 o1 HD;go_wp2_with fail;refine (new_any A1 _ c1 xs _ w1 hxr (Nat.le_refl _) (by have:=HXL.out;omega)).mono ?_;rintro e w2 ⟨A3,c3,g,rfl,hg,R2,b2⟩
  have hgB : B + 1 < g:=by have:=S.lt;omega
  have S:=S.below b2;clear b2 hg hxr
  go_upto_region 6 with fail
  refine nameW ?_;intro W2 hWW;obtain ⟨sB,hsB⟩ : ∃ sB,sB = w2.heap.size:=⟨_,rfl⟩
  have kq : Blk W2 sB 51 #[.pointer (some ⟨g,0,none⟩)]:=by rw [hWW,hsB];exact Blk.new w2 _ _
  have bn : Below w2.heap.size w2 W2:=by rw [hWW];exact (Below.refl _ _).alloc (Nat.le_refl _) _
  rw [← hsB]
  have hgs : g < sB:=by have:=R2.lt;omega
  have S:=S.below bn;have R2:=R2.below (bn.mono (by have:=R2.lt;omega));clear bn hsB hWW
  have hW2 : B + 2≤W2.heap.size:=by have:=S.lt;omega
  go_wp2_with ((with_reducible refine wpList_ld (n:=1) rowRdM kq rfl ?_ ?_);rotate_left;(rfl))
  refine (mhead_any g A3 _ c3 xs W2 R2).mono ?_;rintro e w3 ⟨gg,ho⟩;have S:=S.grown gg hgB
  cases hh : Ms.headE xs with
  | error y =>
    rw [hh] at ho;obtain rfl : e = _:=ho;have HE:=Lib.hid (show Ms.getG bs = .error y by rw [HGX.out,Ms.getX_head hh]);clear hh gg;go_wp2_with fail;exact mget_close S rfl rfl HE.out
  | ok q0 =>
  obtain ⟨m,r⟩:=q0;rw [hh] at ho;obtain ⟨AM,cM,rfl,oM,A4,c4,R4⟩:=ho;have kq:=kq.grown gg (by intro e;injection e with e;omega);have oM:=oM.mono hW2;obtain ⟨f1,f2,f3,f4,f5,f6,f7⟩:=Ms.headE_fwd hh;have HF:=Lib.hid (And.intro f2 (And.intro f3 (And.intro f4 (And.intro f5 (And.intro f6 f7)))))
  have hrl : r.length≤4096:=by
    have:=congrArg List.length f1
    rw [List.length_append] at this
    have:=HXL.out
    omega
  have HRL:=Lib.hid hrl;have HPE:=Lib.hid (show ∀ y,Ms.partE m r = .error y→Ms.getG bs = .error y from fun y h=>by rw [HGX.out,Ms.getX_part hh h]);have HPO:=Lib.hid (show ∀ m',Ms.partE m r = .ok m'→Ms.getG bs = if Ms.rightM m' = true then .ok m' else .error 4 from fun m' h=>by rw [HGX.out,Ms.getX_end hh h]);have MONE:=Lib.hid (mgc_one m none none AM 0 0 0 0 m.mem.length cM);clear f1 f2 f3 f4 f5 f6 f7 hrl hh gg R2 HGX hW2
  go_upto_region 7 with ((with_reducible refine wpList_st (cs:=mgc m sN sN (.slice AM m.mem.length cM)) rowMg (Blk.new _ _ _) (mgc_size _ _ _ _) ?_ MONE.out ?_ ?_ ?_);(rfl);rotate_left;(rfl);(rfl);intro W4 kM g4 z4)
  have bn : Below w3.heap.size w3 W4:=new_below g4;obtain ⟨tM,htM⟩ : ∃ tM,tM = w3.heap.size:=⟨_,rfl⟩;rw [← htM] at kM ⊢
  have hgt : g < tM:=by have:=R4.lt;omega
  have hsn : sB ≠ tM:=by have:=kq.lt;omega
  have hBt : B + 1 < tM:=by have:=S.lt;omega
  have S:=S.below bn;have R4:=R4.below (bn.mono (by have:=R4.lt;omega));have kq:=kq.below bn kq.lt;have oM:=oM.below bn (Nat.le_refl _);clear g4 z4 bn htM;refine wp_region_tail 5 (fun L v w=>v 7 = .pointer (some ⟨sB,0,none⟩)∧Below W4.heap.size W4 w∧(L 0 = true→v 34 = .pointer (some ⟨sB,0,none⟩))∧(L 1 = true→v 35 = .pointer (some ⟨g,0,none⟩))∧(L 2 = true→v 36 = .pointer (some ⟨sB,0,none⟩))∧(L 3 = true→v 37 = .pointer (some ⟨g,0,none⟩))∧(L 4 = true→v 38 = .int .i64 (r.length : Nat))) [34,35,36,37,38] (by kernel_rfl) (by kernel_rfl) (by kernel_rfl) (by kernel_rfl) (by kernel_rfl) (by kernel_rfl) ?h0 ?hst ?hend
  case h0 =>
    intro L h0;have h0 : ∀ i,i < 5→L i = false:=h0;exact ⟨rfl,(Below.refl _ _).drew,offF h0 (i:=0) (by decide),offF h0 (i:=1) (by decide),offF h0 (i:=2) (by decide),offF h0 (i:=3) (by decide),offF h0 (i:=4) (by decide)⟩
  case hst =>
    show FactSteps _ _ _ _ [0,1,2,3,4]
    refine @FactSteps.cons _ _ _ _ 0 _ [] _ rfl (by kernel_rfl) ?s0 ?_;rotate_left;refine @FactSteps.cons _ _ _ _ 1 _ [0] _ rfl (by kernel_rfl) ?s1 ?_;rotate_left;refine @FactSteps.cons _ _ _ _ 2 _ [] _ rfl (by kernel_rfl) ?s2 ?_;rotate_left;refine @FactSteps.cons _ _ _ _ 3 _ [2] _ rfl (by kernel_rfl) ?s3 ?_;rotate_left;refine @FactSteps.cons _ _ _ _ 4 _ [3] _ rfl (by kernel_rfl) ?s4 ?_;rotate_left;exact FactSteps.nil
    case s0 =>
      rintro L a v w hv hg hL hd hcl ⟨e7,hb,f0,f1,f2,f3,f4⟩ K hK;refine step_do rfl ?_;clear hv;go_simp;exact hK.out _ _ ⟨e7,hb,fun _=>rfl,f1,f2,f3,f4⟩
    case s1 =>
      rintro L a v w hv hg hL hd hcl ⟨e7,hb,f0,f1,f2,f3,f4⟩ K hK;have g0:=f0 (hd 0 (by decide));have cs : w.cell? ⟨sB,0,none⟩ = some (.pointer (some ⟨g,0,none⟩)):=(kq.below hb kq.lt).cell 0;refine step_do rfl ?_;clear hv;go_simp;exact hK.out _ _ ⟨e7,hb,f0,fun _=>rfl,f2,f3,f4⟩
    case s2 =>
      rintro L a v w hv hg hL hd hcl ⟨e7,hb,f0,f1,f2,f3,f4⟩ K hK;refine step_do rfl ?_;clear hv;go_simp;exact hK.out _ _ ⟨e7,hb,f0,f1,fun _=>rfl,f3,f4⟩
    case s3 =>
      rintro L a v w hv hg hL hd hcl ⟨e7,hb,f0,f1,f2,f3,f4⟩ K hK;have g2:=f2 (hd 2 (by decide));have cs : w.cell? ⟨sB,0,none⟩ = some (.pointer (some ⟨g,0,none⟩)):=(kq.below hb kq.lt).cell 0;refine step_do rfl ?_;clear hv;go_simp;exact hK.out _ _ ⟨e7,hb,f0,f1,f2,fun _=>rfl,f4⟩
    case s4 =>
      rintro L a v w hv hg hL hd hcl ⟨e7,hb,f0,f1,f2,f3,f4⟩ K hK;have g3:=f3 (hd 3 (by decide));refine step_do rfl ?_;clear hv;go_simp;refine (left_any g A4 _ c4 r 0 w (R4.below (hb.mono (by have:=R4.lt;omega)))).mono ?_;rintro e wy ⟨rfl,rfl⟩;exact hK.out _ _ ⟨e7,hb,f0,f1,f2,f3,fun _=>rfl⟩
  case hend =>
  rintro L v W5 hall ⟨e7,hb,f0,f1,f2,f3,f4⟩;have hL : ∀ i,i < 5→L i = true:=hall;have f0:=f0 (hL 0 (by decide));have f1:=f1 (hL 1 (by decide));have f2:=f2 (hL 2 (by decide));have f3:=f3 (hL 3 (by decide));have f4:=f4 (hL 4 (by decide))
  simp only [finA,List.foldl_cons,List.foldl_nil,Act.put,List.setIfInBounds_toArray,List.set_cons_succ,List.set_cons_zero,f0,f1,f2,f3,f4]
  have S:=S.below hb;have R4:=R4.below (hb.mono (by have:=R4.lt;omega));have oM:=oM.below hb (Nat.le_refl _);have kq:=kq.below hb kq.lt;have kM:=kM.below hb kM.lt;have hW5 : tM < W5.heap.size:=kM.lt;clear e7 f0 f1 f2 f3 f4 hL hall hb
  show wpList _ _ _ [_,_] _ _
  go_wp2_with fail;refine (bytes_any g A4 _ c4 r W5 R4 (by have:=HRL.out;omega)).mono ?_;rintro e w6 ⟨AL,cL,A5,n5,c5,rfl,gg,oL,R5⟩;have S:=S.grown gg hgB;have kM:=kM.grown gg (by intro e;injection e with e;omega);have oM:=oM.grown gg (.inr (own_ne oM.2 R4.blk (by decide)));have oL:=oL.mono (base':=tM + 1) hW5;have hk:=HF.out.2.2.2.2
  have HHK:=Lib.hid fun (w' : World)=>(has17_any m.kind w' hk : Calls Tryz.prog _ _ w' fun e w''=>e = .returned (.agg (ptc m.kind))∧Below w'.heap.size w' w'')
  have t0 : w6.cell? ⟨tM,0,none⟩ = some (.int .i64 m.kind):=kM.cell 0;clear hk gg R4 R5 kq
  go_upto_region 8 with fail
  go_wp2_with fail;refine (HHK.out _).mono ?_;rintro e w7 ⟨he,b7⟩;obtain rfl : e = .returned (.agg (ptc m.kind)):=he;have S:=S.below b7;have kM:=kM.below b7 kM.lt;have oM:=oM.below b7 (Nat.le_refl _);have oL:=oL.below b7 (Nat.le_refl _);obtain ⟨PA,hPA⟩ : ∃ PA,PA = ptc m.kind:=⟨_,rfl⟩;rw [← hPA];have HPA:=Lib.hid hPA;have SZ4:=Lib.hid (show PA.size = 4 by rw [hPA];rfl);have ONE4:=Lib.hid (show PA.all (·.oneCell') = true by rw [hPA];exact ptc_one _);clear hPA t0 b7 HHK
  go_upto_region 10 with ((with_reducible refine wpList_st (cs:=PA) rowPt (Blk.new _ _ _) SZ4.out ?_ ONE4.out ?_ ?_ ?_);(rfl);rotate_left;(rfl);(rfl);intro w8 kp g8 z8)
  have bn : Below w7.heap.size w7 w8:=new_below g8;obtain ⟨P,hP⟩ : ∃ P,P = w7.heap.size:=⟨_,rfl⟩;rw [← hP] at kp ⊢;have S:=S.below bn;have kM:=kM.below bn kM.lt;have oM:=oM.below bn (Nat.le_refl _);have oL:=oL.below bn (Nat.le_refl _);have hb8 : tM + 1≤w8.heap.size:=kM.lt;have p2 : w8.cell? ⟨P,2,none⟩ = some (.bool (decide (m.kind = 4))):=(kp.cell 2).trans (by rw [HPA.out];rfl);have p3 : w8.cell? ⟨P,3,none⟩ = some (.bool (decide (m.kind = 5))):=(kp.cell 3).trans (by rw [HPA.out];rfl);clear g8 z8 bn hP
  by_cases h4 : m.kind = 4
  · rw [decide_eq_true h4] at p2
    have H4:=Lib.hid h4;have hget:=get_any AL r.length cL r w8.heap.size w8 oL.rd (Nat.le_refl _) (by have:=HRL.out;omega);have HGET:=Lib.hid hget;clear h4 hget p3;go_wp2_with fail;refine HGET.out.mono ?_;rintro e w9 ⟨AD,nD,cD,rfl,oD,b9⟩;have S:=S.below b9;have kM:=kM.below b9 kM.lt;have oM:=oM.below b9 (Nat.le_refl _);have hU : (getU r).length = 8:=getU_len r;obtain ⟨U,hUe⟩ : ∃ U,U = getU r:=⟨_,rfl⟩;obtain ⟨ge,hge⟩ : ∃ ge,ge = getE r:=⟨_,rfl⟩;obtain ⟨DL,hDL⟩ : ∃ DL,DL = getL r:=⟨_,rfl⟩;rw [← hUe] at hU ⊢;rw [← hge];rw [← hDL] at oD;have HGE:=Lib.hid (And.intro hge (And.intro hUe hDL));have SU:=Lib.hid (uc_size hU (.slice AD nD cD));have OU:=Lib.hid (uc_one (U:=U) (s:=.slice AD nD cD) rfl);have HU:=Lib.hid hU;have oD:=oD.mono (base':=tM + 1) (by have:=kM.lt;have:=b9.size;omega);clear hU hUe hge hDL b9 HGET oL
    go_upto_region 12 with ((with_reducible refine wpList_st (cs:=uc U (.slice AD nD cD)) rowS (Blk.new _ _ _) SU.out ?_ OU.out ?_ ?_ ?_);(rfl);rotate_left;(rfl);(rfl);intro wa kS ga za)
    have bn : Below w9.heap.size w9 wa:=new_below ga;obtain ⟨sS,hsS⟩ : ∃ sS,sS = w9.heap.size:=⟨_,rfl⟩;rw [← hsS] at kS ⊢
    have hts : tM < sS:=by have:=kM.lt;omega
    have S:=S.below bn;have kM:=kM.below bn kM.lt;have oM:=oM.below bn (Nat.le_refl _);have oD:=oD.below bn (Nat.le_refl _);clear ga za bn hsS
    by_cases hg0 : ge = 0
    case neg =>
      have hq : ((ge : Int) == 0) = false:=by rw [beq_eq_false_iff_ne];omega
      have HE:=Lib.hid (show Ms.getG bs = .error ge by
        refine HPE.out _ ?_
        unfold Ms.partE
        rw [if_pos H4.out,if_neg (by rw [← HGE.out.1];exact hg0),← HGE.out.1])
      clear hg0;go_wp2_with fail;refine (mmust_no (by simp [hq]) _ _).mono ?_;rintro e w2 ⟨rfl,rfl⟩;go_wp2_with fail;exact mget_close S rfl rfl HE.out
    subst hg0;have hqe:=HGE.out
    have HPX:=Lib.hid (show Ms.partE m r = .ok { m with u:=U,more:=DL } by
      unfold Ms.partE
      rw [if_pos H4.out,if_pos hqe.1.symm,hqe.2.1,hqe.2.2])
    have HWU:=Lib.hid (show Wf U by rw [hqe.2.1];exact right_wfU (put_get hqe.1.symm).1);clear hqe;go_wp2_with fail;refine (mmust_yes (by simp) _ _).mono ?_;rintro e w2 ⟨rfl,rfl⟩
    go_upto_region 13 with fail
    refine wp_region_tail 6 (fun L v w=>v 11 = .pointer (some ⟨sS,0,none⟩)∧v 8 = .pointer (some ⟨tM,0,none⟩)∧GetS w0 B w∧((L 5 = false→Blk w tM 30 (mgc m sN sN (.slice AM m.mem.length cM)))∧(L 5 = true→Blk w tM 30 (mgc { m with u:=U } sN sN (.slice AM m.mem.length cM))))∧Blk w sS 59 (uc U (.slice AD nD cD))∧OwnMb 71 w (B + 2) AM m.mem.length cM m.mem∧OwnD w (tM + 1) AD nD cD DL∧(L 0 = true→v 59 = .pointer (some ⟨sS,0,none⟩))∧(L 1 = true→v 60 = .agg (uI U))∧(L 2 = true→v 61 = .pointer (some ⟨sS,8,none⟩))∧(L 3 = true→v 62 = .slice AD nD cD)∧(L 4 = true→v 63 = .pointer (some ⟨tM,5,none⟩))) [59,60,61,62,63] (by kernel_rfl) (by kernel_rfl) (by kernel_rfl) (by kernel_rfl) (by kernel_rfl) (by kernel_rfl) ?h0 ?hst ?hend
    case h0 =>
      intro L h0;have h0 : ∀ i,i < 6→L i = false:=h0;exact ⟨rfl,rfl,(S.below (Below.refl _ _).drew),⟨fun _=>kM.drew,offF h0 (i:=5) (by decide)⟩,kS.drew,oM.drew,oD.drew,offF h0 (i:=0) (by decide),offF h0 (i:=1) (by decide),offF h0 (i:=2) (by decide),offF h0 (i:=3) (by decide),offF h0 (i:=4) (by decide)⟩
    case hst =>
      show FactSteps _ _ _ _ [0,1,2,3,4,5]
      refine @FactSteps.cons _ _ _ _ 0 _ [] _ rfl (by kernel_rfl) ?s0 ?_;rotate_left;refine @FactSteps.cons _ _ _ _ 1 _ [0] _ rfl (by kernel_rfl) ?s1 ?_;rotate_left;refine @FactSteps.cons _ _ _ _ 2 _ [] _ rfl (by kernel_rfl) ?s2 ?_;rotate_left;refine @FactSteps.cons _ _ _ _ 3 _ [2] _ rfl (by kernel_rfl) ?s3 ?_;rotate_left;refine @FactSteps.cons _ _ _ _ 4 _ [0,1] _ rfl (by kernel_rfl) ?s4 ?_;rotate_left;refine @FactSteps.cons _ _ _ _ 5 _ [4,1,0,1] _ rfl (by kernel_rfl) ?s5 ?_;rotate_left;exact FactSteps.nil
      case s0 =>
        rintro L a v w hv hg hL hd hcl ⟨e11,e8,S,kA,kS,oM,oD,f0,f1,f2,f3,f4⟩ K hK;refine step_do rfl ?_;clear hv;go_simp;exact hK.out _ _ ⟨e11,e8,S,kA,kS,oM,oD,fun _=>rfl,f1,f2,f3,f4⟩
      case s1 =>
        rintro L a v w hv hg hL hd hcl ⟨e11,e8,S,kA,kS,oM,oD,f0,f1,f2,f3,f4⟩ K hK;have g0:=f0 (hd 0 (by decide));refine step_do rfl ?_;refine wp_ldm row8 (.tmp 59) rfl ((hv 59).trans g0) (uc_range kS) (by rw [List.length_map];exact HU.out) ?_;exact hK.out _ _ ⟨e11,e8,S,kA,kS,oM,oD,f0,fun _=>rfl,f2,f3,f4⟩
      case s2 =>
        rintro L a v w hv hg hL hd hcl ⟨e11,e8,S,kA,kS,oM,oD,f0,f1,f2,f3,f4⟩ K hK;refine step_do rfl ?_;clear hv;go_simp;exact hK.out _ _ ⟨e11,e8,S,kA,kS,oM,oD,f0,f1,fun _=>rfl,f3,f4⟩
      case s3 =>
        rintro L a v w hv hg hL hd hcl ⟨e11,e8,S,kA,kS,oM,oD,f0,f1,f2,f3,f4⟩ K hK;have g2:=f2 (hd 2 (by decide));have cs : w.cell? ⟨sS,8,none⟩ = some (.slice AD nD cD):=(kS.cell 8).trans (uc_last HU.out _);refine step_do rfl ?_;clear hv;go_simp;exact hK.out _ _ ⟨e11,e8,S,kA,kS,oM,oD,f0,f1,f2,fun _=>rfl,f4⟩
      case s4 =>
        rintro L a v w hv hg hL hd hcl ⟨e11,e8,S,kA,kS,oM,oD,f0,f1,f2,f3,f4⟩ K hK;have g0:=f0 (hd 0 (by decide));refine step_do rfl ?_;clear hv;go_simp;exact hK.out _ _ ⟨e11,e8,S,kA,kS,oM,oD,f0,f1,f2,f3,fun _=>rfl⟩
      case s5 =>
        rintro L a v w hv hg hL hd hcl ⟨e11,e8,S,kA,kS,oM,oD,f0,f1,f2,f3,f4⟩ K hK;have g4:=f4 (hd 4 (by decide));have g1:=f1 (hd 1 (by decide));have kk:=kA.1 hL;refine step_do rfl ?_;refine wp_str row8 (.tmp 63) (.tmp 60) rfl ((hv 63).trans g4) ((hv 60).trans g1) (kk.thereM (o:=5) (n:=8) (by rw [mgc_size];omega)) (by rw [uI_size];exact HU.out) (uI_one U) ?_;have gx:=cells_grownM w tM 5 (uI U).toList;have k2:=mgc_setu _ _ _ _ HU.out kk
        have k2 : Blk (w.setCells tM 5 (uI U).toList) tM 30 (mgc { m with u:=U } sN sN (.slice AM m.mem.length cM)):=by rw [uI_list];exact k2
        exact hK.out undef _ ⟨e11,e8,(S.grown gx hBt),⟨fun h=>(by cases h),fun _=>k2⟩,(kS.grown gx (fun h=>by injection h;omega)),(oM.grown gx (.inr (own_ne oM.2 kk (by decide)))),(oD.grown gx (.inr (fun e=>by have:=oD.lt _ e;omega))),f0,f1,f2,f3,f4⟩
    case hend =>
    rintro L v wb hall ⟨e11,e8,S,kA,kS,oM,oD,f0,f1,f2,f3,f4⟩;have hL : ∀ i,i < 6→L i = true:=hall;have f0:=f0 (hL 0 (by decide));have f1:=f1 (hL 1 (by decide));have f2:=f2 (hL 2 (by decide));have f3:=f3 (hL 3 (by decide));have f4:=f4 (hL 4 (by decide))
    simp only [finA,List.foldl_cons,List.foldl_nil,Act.put,List.setIfInBounds_toArray,List.set_cons_succ,List.set_cons_zero,f0,f2,f3,f4,f1]
    have kb:=kA.2 (hL 5 (by decide));clear e11 e8 f0 f1 f2 f3 f4 hL hall kA kM
    show wpList _ _ _ [_,_] _ _
    have c13 : wb.cell? ⟨tM,13,none⟩ = some sN:=kb.cell 13;have u13:=kb.free 13;have hlb:=kb.lt;have kc:=kb.set_ 13 (.slice AD nD cD);have oM:=oM.setFar (p:=⟨tM,13,none⟩) (own_ne oM.2 kb (by decide)) (.slice AD nD cD);have oD:=oD.setFar (p:=⟨tM,13,none⟩) (fun e=>by have h9:=(oD.lt _ e).1;have h8 : tM + 1≤tM:=h9;omega) (.slice AD nD cD);have S:=S.grown (set_grownM wb tM 13 (.slice AD nD cD)) hBt;obtain ⟨wc,hwc⟩ : ∃ wc,wc = wb.setCell ⟨tM,13,none⟩ (.slice AD nD cD):=⟨_,rfl⟩;rw [← hwc] at kc oM oD S;have HWC:=Lib.hid hwc;obtain ⟨x,hx⟩ : ∃ x : MgV,x = ⟨{ m with u:=U,more:=DL },AD,nD,cD,[],none,0,0,AM,m.mem.length,cM⟩:=⟨_,rfl⟩
    have kx : Blk wc tM 30 x.cs:=by rw [hx];exact kc
    have ox : MgOwn wc (B + 2) x:=by
      rw [hx];exact ⟨HU.out,HWU.out,oD.mono (by omega),OwnEv.nil _ _,fun y hy=>by simp at hy,HF.out.2.2.1,oM⟩
    have HPX2:=Lib.hid (show Ms.partE m r = .ok x.m by rw [HPX.out,hx])
    have hx2 : x.n2≤10000000000000:=by rw [hx];exact Nat.zero_le _
    have hx3 : x.n3≤maxLen:=by rw [hx];have:=HF.out.2.2.2.1;unfold maxLen;show m.mem.length≤_;omega
    clear kc oM oD hwc hx kS kp p2 kb
    go_upto_region 18 with fail
    rw [← HWC.out];clear c13 u13 hlb;have HX3:=Lib.hid (And.intro hx2 hx3);clear hx2 hx3
    generalize hC : x.cs = C at kx
    have SC:=Lib.hid (show C.size = 16 by rw [← hC];rfl);have OC:=Lib.hid (show C.all (·.oneCell') = true by rw [← hC];exact x.one);have HCC:=Lib.hid hC;have HRT:=Lib.hid (show Calls Tryz.prog 15 #[.agg C] wc fun e w'=>e = .returned (.bool (Ms.rightM x.m))∧Below (wc).heap.size wc w' by rw [← hC];exact mright_any x wc (ox.mgin HX3.out.1 HX3.out.2));clear hC;obtain ⟨R,hR⟩ : ∃ R,R = Ms.rightM x.m:=⟨_,rfl⟩;have HR:=Lib.hid hR
    go_wp2_with ((with_reducible refine wpList_ld rowMg kx SC.out ?_ ?_);rotate_left;(rfl))
    refine HRT.out.mono ?_;rintro e wd ⟨rfl,bd⟩;have S:=S.below bd;have kx:=kx.below bd kx.lt;have ox:=ox.below bd;rw [← hR];clear bd hR HRT
    cases R
    case false =>
      have HE:=Lib.hid (show Ms.getG bs = .error 4 by rw [HPO.out _ HPX2.out,if_neg (by rw [← HR.out];decide)]);go_wp2_with fail;refine (mmust_bad _ _).mono ?_;rintro e we ⟨rfl,rfl⟩;go_wp2_with fail;exact mget_close (y:=4) S rfl rfl HE.out
    have HE:=Lib.hid (show Ms.getM bs = (x.m,0) from Ms.getM_ok (by rw [HPO.out _ HPX2.out,if_pos HR.out.symm]));go_wp2_with fail;refine (mmust_ok _ _).mono ?_;rintro e we ⟨rfl,rfl⟩;have ke:=S.ke;have kf:=S.kf;have gb:=S.gb;have cf:=kf.cell 0;have ff:=kf.free 0;have HS0:=Lib.hid S.hB;clear S
    go_wp2_with first
      | ((with_reducible refine wpList_ld rowMg kx SC.out ?_ ?_);rotate_left;(rfl))
      | ((with_reducible refine wpList_st (cs:=C) rowMg ke SC.out mz_size OC.out ?_ ?_ ?_);rotate_left;(rfl);(rfl);intro wf k10 g10 z10;have kf:=kf.grown g10 (fun h=>by injection h;omega);have cf:=kf.cell 0;have ff:=kf.free 0)
    have gb:=gb.grown g10 (by have:=gb.size;have:=HS0.out;omega) (fun q hq=>by injection hq;have:=HS0.out;omega);refine leaves_cons (f:=16) (args:=#[.pointer (some ⟨B + 1,0,none⟩)]) (by simp) (by simp [go_sem]) ?_;refine (mcaught_none _ _).mono ?_;rintro e u' wg ⟨rfl,rfl,rfl⟩;have k12:=k10.far (p:=⟨B + 1,0,none⟩) (by show B ≠ B + 1;omega) (.int .i64 0);have f12:=kf.set_ 0 (.int .i64 0);have c12:=f12.cell 0;have o12:=((ox.kept g10 (by omega)).far (p:=⟨B + 1,0,none⟩) (by show B + 1 < B + 2;omega) (.int .i64 0)).mono (base':=w0.heap.size) (by have:=HS0.out;omega);have g12:=gb.setCell (p:=⟨B + 1,0,none⟩) (by show B≤B + 1;omega) (.int .i64 0);rw [HE.out];exact ⟨.tuple #[.agg C,.int .i64 0],results_cc17 rfl rowMg k12 SC.out rfl rfl (by simp [go_sem,c12]),x,by rw [HCC.out];rfl,rfl,o12,by rw [← HS0.out];exact g12⟩
  rw [decide_eq_false h4] at p2
  by_cases h5 : m.kind = 5
  · rw [decide_eq_true h5] at p3
    have H5:=Lib.hid (And.intro h4 h5);have hget:=egetAll_any AL r.length cL r w8 oL.rd (by have:=HRL.out;omega);have HGET:=Lib.hid hget;clear h4 h5 hget;go_wp2_with fail;refine HGET.out.mono ?_;rintro e w9 ⟨AE,nE,cE,ys,rfl,oE,oy,hys,b9⟩;have S:=S.below b9;have kM:=kM.below b9 kM.lt;have oM:=oM.below b9 (Nat.le_refl _);obtain ⟨ge,hge⟩ : ∃ ge,ge = (Evt.getAllE r).2:=⟨_,rfl⟩;rw [← hge];have HGE:=Lib.hid (And.intro hge hys);have hw8:=hb8;have oE:=oE.mono (base':=tM + 1) (by have:=hb8;omega);have HOY:=Lib.hid (show ∀ y ∈ ys,EvOwn w9 (tM + 1) y from fun y hy=>⟨(oy y hy).1,(oy y hy).2.1.mono (by have:=hb8;omega),(oy y hy).2.2⟩);clear hge hys b9 HGET oL oy hw8
    by_cases hg0 : ge = 0
    case neg =>
      have hq : ((ge : Int) == 0) = false:=by rw [beq_eq_false_iff_ne];omega
      have HE:=Lib.hid (show Ms.getG bs = .error ge by
        refine HPE.out _ ?_
        unfold Ms.partE
        rw [if_neg H5.out.1,if_pos H5.out.2,if_neg (by rw [← HGE.out.1];exact hg0),← HGE.out.1])
      clear hg0;go_wp2_with fail;refine (mmust_no (by simp [hq]) _ _).mono ?_;rintro e w2 ⟨rfl,rfl⟩;go_wp2_with fail;exact mget_close S rfl rfl HE.out
    subst hg0;have hqe:=HGE.out
    have HPX:=Lib.hid (show Ms.partE m r = .ok { m with ev:=ys.map (·.e) } by
      unfold Ms.partE
      rw [if_neg H5.out.1,if_pos H5.out.2,if_pos hqe.1.symm,hqe.2])
    have hn2 : nE≤768:=by
      have:=(Ms.getAll_fwd hqe.1.symm).2.2
      rw [← hqe.2,List.length_map] at this;rw [oE.1];exact this
    have HN2:=Lib.hid hn2;clear hqe hn2;go_wp2_with fail;refine (mmust_yes (by simp) _ _).mono ?_;rintro e w2 ⟨rfl,rfl⟩;have c14 : w9.cell? ⟨tM,14,none⟩ = some sN:=kM.cell 14;have u14:=kM.free 14;have hlb:=kM.lt;have kc:=kM.set_ 14 (.slice AE nE cE);have oM:=oM.setFar (p:=⟨tM,14,none⟩) (own_ne oM.2 kM (by decide)) (.slice AE nE cE);have oE:=oE.far (p:=⟨tM,14,none⟩) (by show tM < tM + 1;omega) (.slice AE nE cE);have S:=S.grown (set_grownM w9 tM 14 (.slice AE nE cE)) hBt
    have oy : ∀ y ∈ ys,EvOwn (w9.setCell ⟨tM,14,none⟩ (.slice AE nE cE)) (tM + 1) y:=fun y hy=>(HOY.out y hy).far (p:=⟨tM,14,none⟩) (by show tM < tM + 1;omega) _
    obtain ⟨wc,hwc⟩ : ∃ wc,wc = w9.setCell ⟨tM,14,none⟩ (.slice AE nE cE):=⟨_,rfl⟩;rw [← hwc] at kc oM oE S oy;have HWC:=Lib.hid hwc;obtain ⟨x,hx⟩ : ∃ x : MgV,x = ⟨{ m with ev:=ys.map (·.e) },none,0,0,ys,AE,nE,cE,AM,m.mem.length,cM⟩:=⟨_,rfl⟩
    have kx : Blk wc tM 30 x.cs:=by rw [hx];exact kc
    have ox : MgOwn wc (B + 2) x:=by
      rw [hx];refine ⟨by rw [show ({ m with ev:=ys.map (·.e) } : Ms.Msg).u = m.u from rfl,HF.out.1];rfl,by show Wf m.u;rw [HF.out.1];exact zeroM_wf,?_,oE.mono (by omega),fun y hy=>⟨(oy y hy).1,(oy y hy).2.1.mono (by omega),(oy y hy).2.2⟩,rfl,oM⟩
      show OwnD wc (B + 2) none 0 0 m.more
      rw [HF.out.2.1];exact OwnD.nil _ _
    have HPX2:=Lib.hid (show Ms.partE m r = .ok x.m by rw [HPX.out,hx])
    have hx2 : x.n2≤10000000000000:=by rw [hx];have:=HN2.out;show nE≤_;omega
    have hx3 : x.n3≤maxLen:=by rw [hx];have:=HF.out.2.2.2.1;unfold maxLen;show m.mem.length≤_;omega
    clear kc oM oE hwc hx kp p2 p3 kM oy HOY
    go_upto_region 18 with fail
    rw [← HWC.out];clear c14 u14 hlb;have HX3:=Lib.hid (And.intro hx2 hx3);clear hx2 hx3
    generalize hC : x.cs = C at kx
    have SC:=Lib.hid (show C.size = 16 by rw [← hC];rfl);have OC:=Lib.hid (show C.all (·.oneCell') = true by rw [← hC];exact x.one);have HCC:=Lib.hid hC;have HRT:=Lib.hid (show Calls Tryz.prog 15 #[.agg C] wc fun e w'=>e = .returned (.bool (Ms.rightM x.m))∧Below (wc).heap.size wc w' by rw [← hC];exact mright_any x wc (ox.mgin HX3.out.1 HX3.out.2));clear hC;obtain ⟨R,hR⟩ : ∃ R,R = Ms.rightM x.m:=⟨_,rfl⟩;have HR:=Lib.hid hR
    go_wp2_with ((with_reducible refine wpList_ld rowMg kx SC.out ?_ ?_);rotate_left;(rfl))
    refine HRT.out.mono ?_;rintro e wd ⟨rfl,bd⟩;have S:=S.below bd;have kx:=kx.below bd kx.lt;have ox:=ox.below bd;rw [← hR];clear bd hR HRT
    cases R
    case false =>
      have HE:=Lib.hid (show Ms.getG bs = .error 4 by rw [HPO.out _ HPX2.out,if_neg (by rw [← HR.out];decide)]);go_wp2_with fail;refine (mmust_bad _ _).mono ?_;rintro e we ⟨rfl,rfl⟩;go_wp2_with fail;exact mget_close (y:=4) S rfl rfl HE.out
    have HE:=Lib.hid (show Ms.getM bs = (x.m,0) from Ms.getM_ok (by rw [HPO.out _ HPX2.out,if_pos HR.out.symm]));go_wp2_with fail;refine (mmust_ok _ _).mono ?_;rintro e we ⟨rfl,rfl⟩;have ke:=S.ke;have kf:=S.kf;have gb:=S.gb;have cf:=kf.cell 0;have ff:=kf.free 0;have HS0:=Lib.hid S.hB;clear S
    go_wp2_with first
      | ((with_reducible refine wpList_ld rowMg kx SC.out ?_ ?_);rotate_left;(rfl))
      | ((with_reducible refine wpList_st (cs:=C) rowMg ke SC.out mz_size OC.out ?_ ?_ ?_);rotate_left;(rfl);(rfl);intro wf k10 g10 z10;have kf:=kf.grown g10 (fun h=>by injection h;omega);have cf:=kf.cell 0;have ff:=kf.free 0)
    have gb:=gb.grown g10 (by have:=gb.size;have:=HS0.out;omega) (fun q hq=>by injection hq;have:=HS0.out;omega);refine leaves_cons (f:=16) (args:=#[.pointer (some ⟨B + 1,0,none⟩)]) (by simp) (by simp [go_sem]) ?_;refine (mcaught_none _ _).mono ?_;rintro e u' wg ⟨rfl,rfl,rfl⟩;have k12:=k10.far (p:=⟨B + 1,0,none⟩) (by show B ≠ B + 1;omega) (.int .i64 0);have f12:=kf.set_ 0 (.int .i64 0);have c12:=f12.cell 0;have o12:=((ox.kept g10 (by omega)).far (p:=⟨B + 1,0,none⟩) (by show B + 1 < B + 2;omega) (.int .i64 0)).mono (base':=w0.heap.size) (by have:=HS0.out;omega);have g12:=gb.setCell (p:=⟨B + 1,0,none⟩) (by show B≤B + 1;omega) (.int .i64 0);rw [HE.out];exact ⟨.tuple #[.agg C,.int .i64 0],results_cc17 rfl rowMg k12 SC.out rfl rfl (by simp [go_sem,c12]),x,by rw [HCC.out];rfl,rfl,o12,by rw [← HS0.out];exact g12⟩
  rw [decide_eq_false h5] at p3;have H45:=Lib.hid (And.intro h4 h5);clear h4 h5
  by_cases hr : r = []
  case neg =>
    have hrn : ¬ r.length = 0:=fun h=>hr (List.eq_nil_of_length_eq_zero h)
    have hq : (((r.length : Nat) : Int) == 0) = false:=by rw [beq_eq_false_iff_ne];omega
    have HE:=Lib.hid (show Ms.getG bs = .error 4 by
      refine HPE.out _ ?_
      unfold Ms.partE
      rw [if_neg H45.out.1,if_neg H45.out.2,if_neg hr])
    clear hr;go_wp2_with fail;refine (mmust_no (by simp [hrn]) _ _).mono ?_;rintro e w2 ⟨rfl,rfl⟩;go_wp2_with fail;exact mget_close (y:=4) S rfl rfl HE.out
  have hrn : r.length = 0:=by rw [hr];rfl
  have HPX:=Lib.hid (show Ms.partE m r = .ok m by
    unfold Ms.partE
    rw [if_neg H45.out.1,if_neg H45.out.2,if_pos hr])
  clear hr;go_wp2_with fail;refine (mmust_yes (by simp [hrn]) _ _).mono ?_;rintro e w2 ⟨rfl,rfl⟩;obtain ⟨x,hx⟩ : ∃ x : MgV,x = ⟨m,none,0,0,[],none,0,0,AM,m.mem.length,cM⟩:=⟨_,rfl⟩
  have kx : Blk w8 tM 30 x.cs:=by rw [hx];exact kM
  have ox : MgOwn w8 (B + 2) x:=by
    rw [hx];refine ⟨by show m.u.length = 8;rw [HF.out.1];rfl,by show Wf m.u;rw [HF.out.1];exact zeroM_wf,?_,OwnEv.nil _ _,fun y hy=>by simp at hy,HF.out.2.2.1,oM⟩
    show OwnD w8 (B + 2) none 0 0 m.more
    rw [HF.out.2.1];exact OwnD.nil _ _
  have HPX2:=Lib.hid (show Ms.partE m r = .ok x.m by rw [HPX.out,hx])
  have hx2 : x.n2≤10000000000000:=by rw [hx];exact Nat.zero_le _
  have hx3 : x.n3≤maxLen:=by rw [hx];have:=HF.out.2.2.2.1;unfold maxLen;show m.mem.length≤_;omega
  clear oM hx kp p2 p3 kM hrn
  go_upto_region 18 with fail
  have HX3:=Lib.hid (And.intro hx2 hx3);clear hx2 hx3
  generalize hC : x.cs = C at kx
  have SC:=Lib.hid (show C.size = 16 by rw [← hC];rfl);have OC:=Lib.hid (show C.all (·.oneCell') = true by rw [← hC];exact x.one);have HCC:=Lib.hid hC;have HRT:=Lib.hid (show Calls Tryz.prog 15 #[.agg C] w8 fun e w'=>e = .returned (.bool (Ms.rightM x.m))∧Below (w8).heap.size w8 w' by rw [← hC];exact mright_any x w8 (ox.mgin HX3.out.1 HX3.out.2));clear hC;obtain ⟨R,hR⟩ : ∃ R,R = Ms.rightM x.m:=⟨_,rfl⟩;have HR:=Lib.hid hR
  go_wp2_with ((with_reducible refine wpList_ld rowMg kx SC.out ?_ ?_);rotate_left;(rfl))
  refine HRT.out.mono ?_;rintro e wd ⟨rfl,bd⟩;have S:=S.below bd;have kx:=kx.below bd kx.lt;have ox:=ox.below bd;rw [← hR];clear bd hR HRT
  cases R
  case false =>
    have HE:=Lib.hid (show Ms.getG bs = .error 4 by rw [HPO.out _ HPX2.out,if_neg (by rw [← HR.out];decide)]);go_wp2_with fail;refine (mmust_bad _ _).mono ?_;rintro e we ⟨rfl,rfl⟩;go_wp2_with fail;exact mget_close (y:=4) S rfl rfl HE.out
  have HE:=Lib.hid (show Ms.getM bs = (x.m,0) from Ms.getM_ok (by rw [HPO.out _ HPX2.out,if_pos HR.out.symm]));go_wp2_with fail;refine (mmust_ok _ _).mono ?_;rintro e we ⟨rfl,rfl⟩;have ke:=S.ke;have kf:=S.kf;have gb:=S.gb;have cf:=kf.cell 0;have ff:=kf.free 0;have HS0:=Lib.hid S.hB;clear S
  go_wp2_with first
    | ((with_reducible refine wpList_ld rowMg kx SC.out ?_ ?_);rotate_left;(rfl))
    | ((with_reducible refine wpList_st (cs:=C) rowMg ke SC.out mz_size OC.out ?_ ?_ ?_);rotate_left;(rfl);(rfl);intro wf k10 g10 z10;have kf:=kf.grown g10 (fun h=>by injection h;omega);have cf:=kf.cell 0;have ff:=kf.free 0)
  have gb:=gb.grown g10 (by have:=gb.size;have:=HS0.out;omega) (fun q hq=>by injection hq;have:=HS0.out;omega);refine leaves_cons (f:=16) (args:=#[.pointer (some ⟨B + 1,0,none⟩)]) (by simp) (by simp [go_sem]) ?_;refine (mcaught_none _ _).mono ?_;rintro e u' wg ⟨rfl,rfl,rfl⟩;have k12:=k10.far (p:=⟨B + 1,0,none⟩) (by show B ≠ B + 1;omega) (.int .i64 0);have f12:=kf.set_ 0 (.int .i64 0);have c12:=f12.cell 0;have o12:=((ox.kept g10 (by omega)).far (p:=⟨B + 1,0,none⟩) (by show B + 1 < B + 2;omega) (.int .i64 0)).mono (base':=w0.heap.size) (by have:=HS0.out;omega);have g12:=gb.setCell (p:=⟨B + 1,0,none⟩) (by show B≤B + 1;omega) (.int .i64 0);rw [HE.out];exact ⟨.tuple #[.agg C,.int .i64 0],results_cc17 rfl rowMg k12 SC.out rfl rfl (by simp [go_sem,c12]),x,by rw [HCC.out];rfl,rfl,o12,by rw [← HS0.out];exact g12⟩
end Go.Proofs.YtcgalmnllegnbaaGreat

namespace Go.Proofs.YtcgalmnllegnbaaGreat
set_option linter.unusedVariables false
set_option linter.unusedSimpArgs false
set_option maxRecDepth 100000
open Go.RowKit
open Dot Evt
set_option maxRecDepth 100000 in
set_option maxHeartbeats 2000000 in
theorem rsame07_eq (x y : EvV) (w : World) (hx : EvOk w w.heap.size x) (hy : EvOk w w.heap.size y) (he : x.e = y.e) (hm : x.m≤1000000) :
    Calls Tryz.prog 70 #[.agg x.cs,.agg y.cs] w fun e w'=>e = .returned (.bool true)∧Below w.heap.size w w':=by
  obtain ⟨ex,A1,m1,c1⟩:=x;obtain ⟨ey,A2,m2,c2⟩:=y
  simp only at he
  subst he
  have hd:=fun (w' : World) (h : Below w.heap.size w w')=>dots_any A1 A2 m1 c1 m2 c2 w.heap.size w.heap.size ex.l ex.l w' (hx.2.1.below h) (hy.2.1.below h) hm
  obtain ⟨⟨n,q⟩,t,k,wk,v,p,l⟩:=ex
  simp only [decide_true] at hd
  have HD:=Lib.hid hd;clear hd hx hy hm
  unfold EvV.cs ec
  simp only
  generalize p.getD 0 0 = p0,p.getD 1 0 = p1,p.getD 2 0 = p2,p.getD 3 0 = p3,p.getD 4 0 = p4,p.getD 5 0 = p5,p.getD 6 0 = p6
  go_enter Tryz.func70,Tryz.ntmps70
  go_upto_region 1 with fail
  refine nameW ?_;intro wv hwv;obtain ⟨b,hb⟩ : ∃ b,b = w.heap.size:=⟨_,rfl⟩;rw [← hb]
  have kb : Blk wv b 109 #[.int .i64 n,.int .i64 q,.int .i64 t,.int .i64 k,.int .i64 wk,.int .i64 v,.int .i64 p0,.int .i64 p1,.int .i64 p2,.int .i64 p3,.int .i64 p4,.int .i64 p5,.int .i64 p6,.slice A1 m1 c1]:=by rw [hwv,hb];exact (Blk.new w _ _).alloc _
  have kz : Blk wv (b + 1) 109 #[.int .i64 n,.int .i64 q,.int .i64 t,.int .i64 k,.int .i64 wk,.int .i64 v,.int .i64 p0,.int .i64 p1,.int .i64 p2,.int .i64 p3,.int .i64 p4,.int .i64 p5,.int .i64 p6,.slice A2 m2 c2]:=by
    have h:=Blk.new (w.alloc (.cells #[.int .i64 n,.int .i64 q,.int .i64 t,.int .i64 k,.int .i64 wk,.int .i64 v,.int .i64 p0,.int .i64 p1,.int .i64 p2,.int .i64 p3,.int .i64 p4,.int .i64 p5,.int .i64 p6,.slice A1 m1 c1] 109)) 109 #[.int .i64 n,.int .i64 q,.int .i64 t,.int .i64 k,.int .i64 wk,.int .i64 v,.int .i64 p0,.int .i64 p1,.int .i64 p2,.int .i64 p3,.int .i64 p4,.int .i64 p5,.int .i64 p6,.slice A2 m2 c2];rw [show (w.alloc (.cells #[.int .i64 n,.int .i64 q,.int .i64 t,.int .i64 k,.int .i64 wk,.int .i64 v,.int .i64 p0,.int .i64 p1,.int .i64 p2,.int .i64 p3,.int .i64 p4,.int .i64 p5,.int .i64 p6,.slice A1 m1 c1] 109)).heap.size = w.heap.size + 1 by simp] at h;rw [hwv,hb];exact h
  have gb : Below w.heap.size w wv:=by rw [hwv];exact ((Below.refl _ _).alloc (Nat.le_refl _) _).alloc (by simp) _
  have hD:=HD.out wv gb;have HD2:=Lib.hid hD;have HG:=Lib.hid gb;clear hwv hb gb hD HD;obtain ⟨c0,c1,c2,c3,c4,c5,c6,c7,c8,c9,c10,c11,c12,c13⟩:=ecells kb;obtain ⟨d0,d1,d2,d3,d4,d5,d6,d7,d8,d9,d10,d11,d12,d13⟩:=ecells kz;go_wp2_with fail;refine HD2.out.mono ?_;rintro e w1 ⟨rfl,mm,rfl⟩;go_wp2_with fail;go_ret;exact ⟨rfl,below_drewN HG.out mm⟩
section
variable {P : Program} {T : TypeId} {n : Nat} {ad : Addr} {cs : Array Value}
theorem quiet_lda {ops : Array Oper} {rest : List Oper} {a : Act} {Q : Act→Prop} {C : World→Prop} {d : Option Tmp} {ty : TypeId} {pos : String} {aft : Array Edge} {gd : Option (Nat × Bool)} {x : Operand} (hR : RowT P T n) (hS : ∀ w,C w→∀ (j : Nat) v,cs[j]? = some v→w.cell? (ad.add j) = some v) (hn : cs.size = n)
    (h : wpQuiet P ops C Q rest (a.put d (.agg cs))) (hx : a.eval x = .pointer (some ad)) (hw : Region.wanted ⟨d,.load T x,ty,pos,aft,gd⟩ (yielded ops a.tmps) = true) : wpQuiet P ops C Q (⟨d,.load T x,ty,pos,aft,gd⟩ :: rest) a:=by
  unfold wpQuiet
  rw [if_pos hw];obtain ⟨e,hu,hd,hi⟩:=hR;rw [← hn,← Array.length_toList] at hi;refine ⟨.agg cs,fun w hw=>?_,h⟩
  have hcl : ∀ (j : Nat) v,cs.toList[j]? = some v→w.cell? (ad.add j) = some v:=fun j v hj=>hS w hw j v (by simpa using hj)
  unfold Oper.quietAt execOp
  simp only [hx,Instr.loadAt,Instr.sureAddr,Sem.run_bind,Sem.run_pure,Result.andThen_ok,run_loadVar_at w ad T cs.toList e hcl hu hd hi,Array.toArray_toList]
  exact ⟨rfl,rfl⟩
end
set_option maxRecDepth 100000 in
set_option maxHeartbeats 2000000 in
theorem rall07_eq (A1 A2 : Option Addr) (n c1 c2 : Nat) (xs ys : List EvV) (w : World) (hx : RowEv w w.heap.size A1 n xs) (hy : RowEv w w.heap.size A2 n ys) (he : xs.map (·.e) = ys.map (·.e)) (hm : ∀ x ∈ xs,x.m≤1000000) (hn : n≤10000000000000) :
    Calls Tryz.prog 32 #[.slice A1 n c1,.slice A2 n c2] w fun e w'=>e = .returned (.bool true)∧Below w.heap.size w w':=by
  have HN:=Lib.hid hx.1;have HN2:=Lib.hid hy.1
  have HX:=Lib.hid fun (w' : World) (h : Below w.heap.size w w')=>(hx.below h)
  have HY:=Lib.hid fun (w' : World) (h : Below w.heap.size w w')=>(hy.below h)
  have HE:=Lib.hid he;have HM:=Lib.hid hm;clear hx hy he hm
  go_enter Tryz.func32,Tryz.ntmps32
  go_wp2_with fail
  go_loopw [13] (fun i wr=>∃ k : Nat,k≤n∧i = .int .i64 k∧Below w.heap.size w wr) (fun i _=>n - (intOf i).toNat)
  case atStart=>exact ⟨0,by omega,rfl,Below.refl _ _⟩
  case round =>
    obtain ⟨k,hk,rfl,gb⟩:=hrel
    by_cases hlt : k < n
    · have hkl : k < xs.length:=by rw [← HN.out];exact hlt
      have hky : k < ys.length:=by rw [← HN2.out];exact hlt
      have hX:=(HX.out wr gb).2 k _ (List.getElem?_eq_getElem hkl);have hY:=(HY.out wr gb).2 k _ (List.getElem?_eq_getElem hky);have hmm:=HM.out _ (List.getElem_mem hkl)
      have hee : xs[k].e = ys[k].e:=by
        have h:=congrArg (fun l=>l[k]?) HE.out
        simp only [List.getElem?_map,List.getElem?_eq_getElem hkl,List.getElem?_eq_getElem hky,Option.map_some] at h
        injection h
      generalize xs[k] = x at *
      generalize ys[k] = y at *
      obtain ⟨okx,ad1,hA1,hb1,hc1⟩:=hX;obtain ⟨oky,ad2,hA2,hb2,hc2⟩:=hY;subst hA1 hA2
      have hcl1:=fun (w' : World) (h : Below wr.heap.size wr w')=>fun (j : Nat) (v : Value) (hv : x.cs[j]? = some v)=>((h.cell (p:=(ad1.add (k * 14)).add j) (by rw [block_add,block_add];have:=gb.size;omega)).trans (hc1 j v hv))
      have hcl2:=fun (w' : World) (h : Below wr.heap.size wr w')=>fun (j : Nat) (v : Value) (hv : y.cs[j]? = some v)=>((h.cell (p:=(ad2.add (k * 14)).add j) (by rw [block_add,block_add];have:=gb.size;omega)).trans (hc2 j v hv))
      have hsm:=fun (w' : World) (h : Below wr.heap.size wr w')=>rsame07_eq x y w' ((okx.below (h.mono gb.size)).more (by have:=gb.size;have:=h.size;omega)) ((oky.below (h.mono gb.size)).more (by have:=gb.size;have:=h.size;omega)) hee hmm
      obtain ⟨cx,hcx⟩ : ∃ cx,cx = x.cs:=⟨_,rfl⟩;obtain ⟨cy,hcy⟩ : ∃ cy,cy = y.cs:=⟨_,rfl⟩;have SX:=Lib.hid (show cx.size = 14 by rw [hcx];rfl);have SY:=Lib.hid (show cy.size = 14 by rw [hcy];rfl);rw [← hcx,← hcy] at hsm;rw [← hcx] at hcl1;rw [← hcy] at hcl2;have HC1:=Lib.hid hcl1;have HC2:=Lib.hid hcl2;have HSM:=Lib.hid hsm
      have hk0 : (0 : Int)≤(k : Int):=by omega
      have hkm : (k : Int) < (n : Int):=by omega
      clear hcl1 hcl2 hsm hcx hcy hee hmm hc1 hc2 okx oky
      go_upto_region 6 with fail
      refine wp_region_below (by kernel_rfl) (by kernel_rfl) ?_;intro T iT F hF hT;have HF:=Lib.hid hF;have HT:=Lib.hid hT;clear hF hT
      iterate 3 (go_big_quiet_step (fail))
      (with_reducible refine quiet_lda rowE (fun w' hw'=>by obtain ⟨qf,rfl⟩:=hw';exact HC1.out _ (HF.out qf)) SX.out ?_ ?_ ?_);rotate_left;(rfl);(rfl);simp only [Act.put,List.setIfInBounds_toArray,List.set_cons_succ,List.set_cons_zero,eq_self,decide_true,Bool.not_true,Bool.not_false,beq_self_eq_true]
      iterate 3 (go_big_quiet_step (fail))
      (with_reducible refine quiet_lda rowE (fun w' hw'=>by obtain ⟨qf,rfl⟩:=hw';exact HC2.out _ (HF.out qf)) SY.out ?_ ?_ ?_);rotate_left;(rfl);(rfl);simp only [Act.put,List.setIfInBounds_toArray,List.set_cons_succ,List.set_cons_zero,eq_self,decide_true,Bool.not_true,Bool.not_false,beq_self_eq_true]
      go_big_quiet_step ((go_at_call 70;exact calls_below HF.out HT.out (HSM.out _ (HF.out _))))
      repeat (go_big_quiet_step (fail))
      refine wpQuiet_nil ?_;intro w' hw';obtain ⟨qf,rfl⟩:=hw';have bF:=HF.out qf;have gbF:=gb.trans (bF.mono gb.size);clear HC1 HC2 HSM HF HT bF;go_wp2_with fail
      go_roundw
      case rel=>exact ⟨k + 1,by omega,by go_num,gbF⟩
      case measure=>simp [intOf];omega
    · have hkd : decide ((k : Int) < (n : Int)) = false:=decide_eq_false (by omega)
      go_wp2_with fail;go_ret;exact ⟨rfl,gb⟩
end Go.Proofs.YtcgalmnllegnbaaGreat

namespace Go.Proofs.YtcgalmnllegnbaaGreat
set_option linter.unusedVariables false
set_option linter.unusedSimpArgs false
set_option maxRecDepth 100000
open Go.RowKit
open Dot Evt
open Ms (Mem)
theorem ne_run8m (w : World) (a b : List Int) (ha : a.length = 8) (hb : b.length = 8) (wa : Wf a) (wb : Wf b) :
    (binOp .neq 25 (.agg (uI a)) (.agg (uI b))).run Tryz.prog w = .ok (.bool (!decide (a = b))) w:=by
  have h:=eq_run8 w a b ha hb wa wb;rw [run_eql_struct] at h;rw [run_neq_struct]
  revert h
  generalize (Op.equalIn 10000 25 (.agg (uI a)) (.agg (uI b))).run Tryz.prog w = r
  intro h
  cases r with
  | halt x w'=>simp [Result.andThen] at h
  | ok b' w' =>
    simp only [Result.andThen_ok] at h ⊢
    injection h with h1 h2
    injection h1 with h1
    rw [h1,h2]
theorem wpList_ne8g {ops : Array Oper} {rest : List Oper} {d : Option Tmp} {ty : TypeId} {pos : String} {aft : Array Edge} {gd : Option (Nat × Bool)} {x y : Operand} {z : TypeId} {A B : List Int} {a : Act} {w : World} {Q : Exit→Act→World→Prop} (ha : A.length = 8) (hb : B.length = 8) (wa : Wf A) (wb : Wf B)
    (h : wpList Tryz.prog ops Q rest (a.put d (.bool (!decide (A = B)))) w) (hx : a.eval x = .agg (uI A)) (hy : a.eval y = .agg (uI B)) (hw : Region.wanted ⟨d,.binOp .neq 25 x y z,ty,pos,aft,gd⟩ (yielded ops a.tmps) = true) : wpList Tryz.prog ops Q (⟨d,.binOp .neq 25 x y z,ty,pos,aft,gd⟩ :: rest) a w:=by
  refine wpList_step fun K hK=>?_
  rw [if_pos hw]
  unfold Oper.wp execOp
  simp only [hx,hy,Sem.run_bind,run_eqGuard_agg w .neq 25 x y (uI A) (uI B) (show (Tryz.prog).eqGuardType (Tryz.prog).depth 25 = false by kernel_rfl),Result.andThen_ok,ne_run8m w A B ha hb wa wb,Sem.run_pure]
  exact hK _ _ h
set_option maxHeartbeats 2000000 in
theorem rsame17_eq (x y : MgV) (w : World) (hx : MgIn w x) (hy : MgIn w y) (he : x.m = y.m) (h1 : x.n1≤1000000) (h3 : x.n3≤1000000) (hm : ∀ z ∈ x.xs,z.m≤1000000) :
    Calls Tryz.prog 9 #[.agg x.cs,.agg y.cs] w fun e w'=>e = .returned (.bool true)∧Below w.heap.size w w':=by
  have e1 : y.n1 = x.n1:=by rw [hy.ok.more.1,hx.ok.more.1,he]
  have hz : (x.xs.map (·.e)).length = (y.xs.map (·.e)).length:=by rw [← hx.ok.es,← hy.ok.es,he]
  rw [List.length_map,List.length_map] at hz
  have e2 : y.n2 = x.n2:=by rw [hy.ok.ev.1,hx.ok.ev.1];exact hz.symm
  have e3 : y.n3 = x.n3:=by rw [hy.ok.mem.1,hx.ok.mem.1,he]
  have HAX:=Lib.hid (mgv_at x);have HAY:=Lib.hid (by have:=mgv_at y;rw [← he,e1,e2,e3] at this;exact this : y.cs[0]? = some (.int .i64 x.m.kind)∧y.cs[1]? = some (.int .i64 x.m.frm)∧y.cs[2]? = some (.int .i64 x.m.to)∧y.cs[3]? = some (.int .i64 x.m.seq)∧y.cs[4]? = some (.int .i64 x.m.node)∧y.cs[13]? = some (.slice y.A1 x.n1 y.c1)∧y.cs[14]? = some (.slice y.A2 x.n2 y.c2)∧y.cs[15]? = some (.slice y.A3 x.n3 y.c3))
  have hux : ∀ (w' : World) (g : Nat),Blk w' g 30 x.cs→w'.rangeAt g 5 (uI x.m.u).toList:=fun w' g h=>mgv_u x hx.ok.u h
  have HUX:=Lib.hid hux
  have huy : ∀ (w' : World) (g : Nat),Blk w' g 30 y.cs→w'.rangeAt g 5 (uI x.m.u).toList:=fun w' g h=>by rw [he];exact mgv_u y hy.ok.u h
  have HUY:=Lib.hid huy;have U8:=Lib.hid (show (uI x.m.u).size = 8 by simp [uI,hx.ok.u]);have UL:=Lib.hid hx.ok.u;have WU:=Lib.hid hx.wu
  have HD:=Lib.hid fun (w' : World) (hb : Below w.heap.size w w')=>dots_any x.A1 y.A1 x.n1 x.c1 x.n1 y.c1 _ _ x.m.more x.m.more w' (hx.ok.more.below hb) (by have:=hy.ok.more.below hb;rw [e1,← he] at this;exact this) h1
  have HA:=Lib.hid fun (w' : World) (hb : Below w.heap.size w w')=>rall07_eq x.A2 y.A2 x.n2 x.c2 y.c2 x.xs y.xs w' (hx.below hb).ok.ev (by have:=(hy.below hb).ok.ev;rw [e2] at this;exact this) (by rw [← hx.ok.es,← hy.ok.es,he]) hm hx.b2
  have HMX:=Lib.hid fun (w' : World) (hb : Below w.heap.size w w')=>(hx.ok.mem.below hb)
  have HMY:=Lib.hid fun (w' : World) (hb : Below w.heap.size w w')=>(by have:=hy.ok.mem.below hb;rw [e3,← he] at this;exact this : RdMb w' w.heap.size y.A3 x.n3 x.m.mem)
  have HN3:=Lib.hid hx.ok.mem.1;have hd : decide (x.m.u = x.m.u) = true:=decide_eq_true rfl
  simp only [decide_true] at HD
  clear hx hy he hm e1 e2 e3 hz hux huy
  generalize hC : x.cs = C at *
  generalize hC' : y.cs = C' at *
  clear hC hC'
  go_enter Tryz.func9,Tryz.ntmps9
  go_upto_region 1 with fail
  refine nameW ?_;intro W hW;obtain ⟨g,hg⟩ : ∃ g,g = w.heap.size:=⟨_,rfl⟩;rw [← hg]
  have kx : Blk W g 30 C:=by rw [hW,hg];exact (Blk.new w _ _).alloc _
  have ky : Blk W (g + 1) 30 C':=by
    have h:=Blk.new (w.alloc (.cells C 30)) 30 C';rw [hW,hg]
    simpa using h
  have gb : Below w.heap.size w W:=by rw [hW];exact ((Below.refl _ _).alloc (Nat.le_refl _) _).alloc (by simp) _
  clear hW hg;have hcl:=HAX.out;have hcm:=HAY.out;have a0 : W.cell? ⟨g,0,none⟩ = some (.int .i64 x.m.kind):=(kx.cell 0).trans hcl.1;have a1 : W.cell? ⟨g,1,none⟩ = some (.int .i64 x.m.frm):=(kx.cell 1).trans hcl.2.1;have a2 : W.cell? ⟨g,2,none⟩ = some (.int .i64 x.m.to):=(kx.cell 2).trans hcl.2.2.1;have a3 : W.cell? ⟨g,3,none⟩ = some (.int .i64 x.m.seq):=(kx.cell 3).trans hcl.2.2.2.1;have a4 : W.cell? ⟨g,4,none⟩ = some (.int .i64 x.m.node):=(kx.cell 4).trans hcl.2.2.2.2.1;have a13 : W.cell? ⟨g,13,none⟩ = some (.slice x.A1 x.n1 x.c1):=(kx.cell 13).trans hcl.2.2.2.2.2.1;have d0 : W.cell? ⟨g + 1,0,none⟩ = some (.int .i64 x.m.kind):=(ky.cell 0).trans hcm.1;have d1 : W.cell? ⟨g + 1,1,none⟩ = some (.int .i64 x.m.frm):=(ky.cell 1).trans hcm.2.1;have d2 : W.cell? ⟨g + 1,2,none⟩ = some (.int .i64 x.m.to):=(ky.cell 2).trans hcm.2.2.1;have d3 : W.cell? ⟨g + 1,3,none⟩ = some (.int .i64 x.m.seq):=(ky.cell 3).trans hcm.2.2.2.1;have d4 : W.cell? ⟨g + 1,4,none⟩ = some (.int .i64 x.m.node):=(ky.cell 4).trans hcm.2.2.2.2.1;have d13 : W.cell? ⟨g + 1,13,none⟩ = some (.slice y.A1 x.n1 y.c1):=(ky.cell 13).trans hcm.2.2.2.2.2.1;have rx:=HUX.out _ _ kx;have ry:=HUY.out _ _ ky;clear hcl hcm
  go_wp2_with first
    | ((with_reducible refine wpList_ldrg row8 rx U8.out ?_ ?_ ?_);rotate_left;(rfl);(rfl))
    | ((with_reducible refine wpList_ldrg row8 ry U8.out ?_ ?_ ?_);rotate_left;(rfl);(rfl))
    | ((with_reducible refine wpList_ne8g (A:=x.m.u) (B:=x.m.u) UL.out UL.out WU.out WU.out ?_ ?_ ?_ ?_);rotate_left;(rfl);(rfl);(rfl);rw [hd])
  refine (HD.out W gb).mono ?_;rintro e w1 ⟨rfl,m1,rfl⟩;have b1 : Below W.heap.size W (W.drewN m1):=below_drewN (Below.refl _ _) m1;have kx:=kx.below b1 kx.lt;have ky:=ky.below b1 ky.lt;have gb:=gb.trans (b1.mono gb.size)
  generalize W.drewN m1 = w1 at *
  have a14 : w1.cell? ⟨g,14,none⟩ = some (.slice x.A2 x.n2 x.c2):=(kx.cell 14).trans HAX.out.2.2.2.2.2.2.1;have d14 : w1.cell? ⟨g + 1,14,none⟩ = some (.slice y.A2 x.n2 y.c2):=(ky.cell 14).trans HAY.out.2.2.2.2.2.2.1;clear a0 a1 a2 a3 a4 a13 d0 d1 d2 d3 d4 d13 rx ry b1;go_wp2_with fail;refine (HA.out w1 gb).mono ?_;rintro e w2 ⟨rfl,b2⟩;have kx:=kx.below b2 kx.lt;have ky:=ky.below b2 ky.lt;have gb:=gb.trans (b2.mono gb.size);have a15 : w2.cell? ⟨g,15,none⟩ = some (.slice x.A3 x.n3 x.c3):=(kx.cell 15).trans HAX.out.2.2.2.2.2.2.2;have d15 : w2.cell? ⟨g + 1,15,none⟩ = some (.slice y.A3 x.n3 y.c3):=(ky.cell 15).trans HAY.out.2.2.2.2.2.2.2
  have hqn : ((x.n3 : Int) != x.n3) = false:=by simp
  clear a14 d14 b2;go_wp2_with fail
  go_loopw [74] (fun i wr=>∃ k : Nat,k≤x.n3∧i = .int .i64 k∧Below w.heap.size w wr∧Below w2.heap.size w2 wr) (fun i _=>x.n3 - (intOf i).toNat)
  case atStart=>exact ⟨0,by omega,rfl,gb,Below.refl _ _⟩
  case round =>
    clear gb;obtain ⟨k,hk,rfl,gb,gW⟩:=hrel
    by_cases hlt : k < x.n3
    · have hkl : k < x.m.mem.length:=by rw [← HN3.out];exact hlt
      obtain ⟨p1,hA1,q5,q0,q1,q2⟩:=(HMX.out wr gb).2 k _ (List.getElem?_eq_getElem hkl);obtain ⟨p2,hA2,r5,r0,r1,r2⟩:=(HMY.out wr gb).2 k _ (List.getElem?_eq_getElem hkl)
      have a15 : wr.cell? ⟨g,15,none⟩ = some (.slice (some p1) x.n3 x.c3):=by rw [← hA1];exact (gW.cell (p:=⟨g,15,none⟩) kx.lt).trans a15
      have d15 : wr.cell? ⟨g + 1,15,none⟩ = some (.slice (some p2) x.n3 y.c3):=by rw [← hA2];exact (gW.cell (p:=⟨g + 1,15,none⟩) ky.lt).trans d15
      generalize x.m.mem[k] = d at *
      obtain ⟨b1,b2,b3⟩:=d
      simp only at q0 q1 q2 r0 r1 r2
      have hk0 : (0 : Int)≤(k : Int):=by omega
      have hkn : (k : Int) < (x.n3 : Int):=by omega
      have HGB:=Lib.hid (And.intro gb gW);clear gb gW
      go_upto_region 6 with fail
      go_quiet (fail)
      have gb:=below_drewN HGB.out.1 nq;have gW:=below_drewN HGB.out.2 nq;go_wp2_with fail
      go_roundw
      case rel=>exact ⟨k + 1,by omega,by go_num,gb,gW⟩
      case measure=>simp [intOf];omega
    · have hkd : decide ((k : Int) < (x.n3 : Int)) = false:=decide_eq_false (by omega)
      go_wp2_with fail;go_ret;exact ⟨rfl,gb⟩
end Go.Proofs.YtcgalmnllegnbaaGreat

namespace Go.Proofs.YtcgalmnllegnbaaGreat
set_option linter.unusedVariables false
set_option linter.unusedSimpArgs false
set_option maxRecDepth 100000
open Go.RowKit
open Dot Evt
open Ms (Mem)
namespace Ms
end Ms
theorem evright_l {x : Ev} (h : rightE x = true) : x.l.length≤96:=by
  unfold rightE at h
  simp only [Bool.and_eq_true,decide_eq_true_eq] at h
  exact h.1.1.2
theorem enc_two {n : Nat} (h : n≤4096) : (Vint.enc n).length≤2:=by
  unfold Vint.enc
  by_cases h1 : n < 128
  · have : Vint.encF 5 n = [UInt8.ofNat n]:=by unfold Vint.encF;rw [if_pos h1]
    rw [this];simp
  · have e1 : Vint.encF 5 n = UInt8.ofNat (n % 128 + 128) :: Vint.encF 4 (n / 128):=by
      conv=>lhs;unfold Vint.encF
      rw [if_neg h1]
    have e2 : Vint.encF 4 (n / 128) = [UInt8.ofNat (n / 128)]:=by unfold Vint.encF;rw [if_pos (by omega)]
    rw [e1,e2];simp
theorem frm_len4 {b : List UInt8} (h : b.length≤4096) : (Frame.frm b).length≤4103:=by
  rw [Frame.frm_length]
  have:=enc_two h
  omega
theorem own_evs {w : World} {base : Nat} {x : MgV} (h : MgOwn w base x) (hR : Ms.rightM x.m = true) : ∀ z ∈ x.xs,z.m≤1000:=fun z hz=>by
  have ha:=((Ms.right_iff x.m).1 hR).2.2.2.2
  have hm : z.e ∈ x.m.ev:=by rw [h.es];exact List.mem_map.2 ⟨z,hz,rfl⟩
  have hr : rightE z.e = true:=by
    unfold Ms.askEv at ha
    by_cases h5 : x.m.kind = 5
    · rw [if_pos h5,Bool.and_eq_true] at ha
      exact List.all_eq_true.1 ha.1 _ hm
    · rw [if_neg h5] at ha
      rw [of_decide_eq_true ha] at hm
      simp at hm
  rw [(h.eo z hz).2.1.1]
  have:=evright_l hr
  omega
theorem own_in {w : World} {base : Nat} {x : MgV} (h : MgOwn w base x) (hR : Ms.rightM x.m = true) : MgIn w x:=by
  obtain ⟨h1,h2,h3⟩:=right_lens h hR;exact h.mgin (by omega) (by unfold maxLen;omega)
end Go.Proofs.YtcgalmnllegnbaaGreat

namespace Go.Proofs.YtcgalmnllegnbaaGreat
set_option linter.unusedVariables false
set_option linter.unusedSimpArgs false
set_option maxRecDepth 100000
open Go.RowKit
open Dot Evt
open Ms (Mem)
theorem getM_small (bs : List UInt8) : Ms.rightM (Ms.getM bs).1 = true∨(Ms.getM bs).1 = Ms.zero:=by
  cases h : Ms.getG bs with
  | error y=>exact .inr (by rw [Ms.getM_err h])
  | ok m =>
    refine .inl ?_;rw [Ms.getM_ok h]
    unfold Ms.getG at h
    cases hd : Frame.dec bs with
    | error y=>rw [hd] at h;cases h
    | ok q =>
      obtain ⟨xs,r⟩:=q;rw [hd] at h
      simp only at h
      by_cases hr : r = []
      · rw [if_pos hr] at h
        exact (Ms.get_fwd h).2.1
      · rw [if_neg hr] at h;cases h
theorem small_in {w : World} {base : Nat} {x : MgV} (h : MgOwn w base x) (hR : Ms.rightM x.m = true∨x.m = Ms.zero) : MgIn w x∧x.n1≤1000∧x.n3≤1000∧∀ z ∈ x.xs,z.m≤1000:=by
  rcases hR with hR | hR
  · obtain ⟨h1,h2,h3⟩:=right_lens h hR
    exact ⟨own_in h hR,h1,by omega,own_evs h hR⟩
  · have e1 : x.n1 = 0:=by rw [h.more.1,hR];rfl
    have e3 : x.n3 = 0:=by rw [h.mem.1,hR];rfl
    have ex : x.xs = []:=by
      have:=h.es
      rw [hR] at this;exact List.map_eq_nil_iff.1 this.symm
    have e2 : x.n2 = 0:=by rw [h.ev.1,ex];rfl
    exact ⟨h.mgin (by omega) (by unfold maxLen;omega),by omega,by omega,fun z hz=>by rw [ex] at hz;simp at hz⟩
theorem rsame_two {w w1 w2 : World} {b1 b2 : Nat} {x y : MgV} (hx : MgOwn w1 b1 x) (hy : MgOwn w2 b2 y) (he : x.m = y.m) (hR : Ms.rightM x.m = true∨x.m = Ms.zero) (h1 : Below w1.heap.size w1 w) (h2 : Below w2.heap.size w2 w) :
    Calls Tryz.prog 9 #[.agg x.cs,.agg y.cs] w fun e w'=>e = .returned (.bool true)∧Below w.heap.size w w':=by
  obtain ⟨a1,a2,a3,a4⟩:=small_in hx hR;obtain ⟨c1,_⟩:=small_in hy (by rw [← he];exact hR);exact rsame17_eq x y w (a1.below h1) (c1.below h2) he (by omega) (by omega) (fun z hz=>by have:=a4 z hz;omega)
end Go.Proofs.YtcgalmnllegnbaaGreat

namespace Go.Proofs.YtcgalmnllegnbaaGreat
set_option linter.unusedVariables false
set_option linter.unusedSimpArgs false
set_option maxRecDepth 100000
open Go.RowKit
open Dot Evt
theorem rset_any (x : MgV) (hu : x.m.u.length = 8) (w : World) : Calls Tryz.prog 68 #[.agg x.cs] w fun e w'=>e = .returned (.agg (uc x.m.u (.slice x.A1 x.n1 x.c1)))∧Below w.heap.size w w':=by
  obtain ⟨⟨kd,fr,tt,sq,nd,u,more,ev,mem⟩,A1,n1,c1,xs,A2,n2,c2,A3,n3,c3⟩:=x
  simp only at hu
  match u,hu with
  | [u0,u1,u2,u3,u4,u5,u6,u7],_ =>
    unfold MgV.cs mgc uc
    simp only [List.getD_cons_zero,List.getD_cons_succ,List.map_cons,List.map_nil,List.cons_append,List.nil_append]
    go_enter Tryz.func68,Tryz.ntmps68
    go_upto_region 1 with fail
    refine nameW ?_;intro W hW;obtain ⟨G,hG⟩ : ∃ G,G = w.heap.size:=⟨_,rfl⟩;rw [← hG]
    have kb : Blk W G 30 #[.int .i64 kd,.int .i64 fr,.int .i64 tt,.int .i64 sq,.int .i64 nd,.int .i64 u0,.int .i64 u1,.int .i64 u2,.int .i64 u3,.int .i64 u4,.int .i64 u5,.int .i64 u6,.int .i64 u7,.slice A1 n1 c1,.slice A2 n2 c2,.slice A3 n3 c3]:=by rw [hW,hG];exact (Blk.new w _ _).alloc _
    have kz : Blk W (G + 1) 72 #[.int .i64 0,.int .i64 0,.int .i64 0,.int .i64 0,.int .i64 0,.int .i64 0,.int .i64 0,.int .i64 0,.slice none 0 0]:=by
      have h:=Blk.new (w.alloc (.cells #[.int .i64 kd,.int .i64 fr,.int .i64 tt,.int .i64 sq,.int .i64 nd,.int .i64 u0,.int .i64 u1,.int .i64 u2,.int .i64 u3,.int .i64 u4,.int .i64 u5,.int .i64 u6,.int .i64 u7,.slice A1 n1 c1,.slice A2 n2 c2,.slice A3 n3 c3] 30)) 72 #[.int .i64 0,.int .i64 0,.int .i64 0,.int .i64 0,.int .i64 0,.int .i64 0,.int .i64 0,.int .i64 0,.slice none 0 0];rw [hW,hG]
      simpa using h
    have gb : Below w.heap.size w W:=by rw [hW];exact ((Below.refl _ _).alloc (Nat.le_refl _) _).alloc (by simp) _
    have hGl : w.heap.size≤G + 1:=by omega
    have r5 : W.rangeAt G 5 (([u0,u1,u2,u3,u4,u5,u6,u7] : List Int).map (Value.int .i64)):=fun j v hv=>by
      rw [kb.cell]
      match j,hv with
      | 0,hv=>exact hv
      | 1,hv=>exact hv
      | 2,hv=>exact hv
      | 3,hv=>exact hv
      | 4,hv=>exact hv
      | 5,hv=>exact hv
      | 6,hv=>exact hv
      | 7,hv=>exact hv
    have k13 : W.cell? ⟨G,13,none⟩ = some (.slice A1 n1 c1):=kb.cell 13;clear hW hG kb
    go_wp2_with first
      | ((with_reducible refine wpList_ldm row8 r5 rfl ?_ ?_);rotate_left;(rfl))
      | ((with_reducible refine wpList_st (cs:=#[.int .i64 u0,.int .i64 u1,.int .i64 u2,.int .i64 u3,.int .i64 u4,.int .i64 u5,.int .i64 u6,.int .i64 u7,.slice A1 n1 c1]) rowRS kz rfl rfl ?_ ?_ ?_ ?_);(exact uc_one (U:=[u0,u1,u2,u3,u4,u5,u6,u7]) (s:=.slice A1 n1 c1) rfl);rotate_left;(rfl);(rfl);intro w7 k7 g7 z7)
    exact bodyPost_ret (v:=.agg #[.int .i64 u0,.int .i64 u1,.int .i64 u2,.int .i64 u3,.int .i64 u4,.int .i64 u5,.int .i64 u6,.int .i64 u7,.slice A1 n1 c1]) (results_blk rfl rowRS k7 rfl rfl) rfl ⟨rfl,gb.grown g7 gb.size (fun q hq=>by injection hq with hq;omega)⟩
end Go.Proofs.YtcgalmnllegnbaaGreat

namespace Go.Proofs.YtcgalmnllegnbaaGreat
set_option linter.unusedVariables false
set_option linter.unusedSimpArgs false
set_option maxRecDepth 100000
open Go.RowKit
open Dot Evt
set_option maxRecDepth 100000 in
set_option maxHeartbeats 4000000 in
theorem rpol_any (p : List Int) (w : World) : Calls Tryz.prog 97 #[.agg (pc p)] w fun e w'=>e = .returned (.bool (polB p))∧Below w.heap.size w w':=by
  have hbb : Below w.heap.size w (w.alloc (.cells (pc p) 107)):=(Below.refl _ _).alloc (Nat.le_refl _) _;obtain ⟨R,hR⟩ : ∃ R,R = polB p:=⟨_,rfl⟩;rw [← hR];have hR2:=@polB_iff p;rw [← hR] at hR2;clear hR
  unfold pc at hbb ⊢
  generalize p.getD 0 0 = p0,p.getD 1 0 = p1,p.getD 2 0 = p2,p.getD 3 0 = p3,p.getD 4 0 = p4,p.getD 5 0 = p5,p.getD 6 0 = p6 at *
  have HR:=Lib.hid hR2;clear hR2
  by_cases h0 : 0≤p0
  rotate_left
  · have hf : R = false:=by
      rw [← Bool.not_eq_true,HR.out]
      omega
    have d0 : decide (0≤p0) = false:=decide_eq_false h0;subst hf;clear h0
    go_enter Tryz.func97,Tryz.ntmps97
    go_wp2_with fail;go_ret;exact ⟨rfl,hbb⟩
  have d0 : decide (0≤p0) = true:=decide_eq_true h0
  by_cases h1 : p0≤p1
  rotate_left
  · have hf : R = false:=by
      rw [← Bool.not_eq_true,HR.out]
      omega
    have d1 : decide (p0≤p1) = false:=decide_eq_false h1;subst hf;clear h0 h1
    go_enter Tryz.func97,Tryz.ntmps97
    go_wp2_with fail;go_ret;exact ⟨rfl,hbb⟩
  have d1 : decide (p0≤p1) = true:=decide_eq_true h1
  by_cases h2 : p1≤1000
  rotate_left
  · have hf : R = false:=by
      rw [← Bool.not_eq_true,HR.out]
      omega
    have d2 : decide (p1≤1000) = false:=decide_eq_false h2;subst hf;clear h0 h1 h2
    go_enter Tryz.func97,Tryz.ntmps97
    go_wp2_with fail;go_ret;exact ⟨rfl,hbb⟩
  have d2 : decide (p1≤1000) = true:=decide_eq_true h2
  by_cases h3 : 1≤p2
  rotate_left
  · have hf : R = false:=by
      rw [← Bool.not_eq_true,HR.out]
      omega
    have d3 : decide (1≤p2) = false:=decide_eq_false h3;subst hf;clear h0 h1 h2 h3
    go_enter Tryz.func97,Tryz.ntmps97
    go_wp2_with fail;go_ret;exact ⟨rfl,hbb⟩
  have d3 : decide (1≤p2) = true:=decide_eq_true h3
  by_cases h4 : p2≤1073741824
  rotate_left
  · have hf : R = false:=by
      rw [← Bool.not_eq_true,HR.out]
      omega
    have d4 : decide (p2≤1073741824) = false:=decide_eq_false h4;subst hf;clear h0 h1 h2 h3 h4
    go_enter Tryz.func97,Tryz.ntmps97
    go_wp2_with fail;go_ret;exact ⟨rfl,hbb⟩
  have d4 : decide (p2≤1073741824) = true:=decide_eq_true h4
  by_cases h5 : 0≤p3
  rotate_left
  · have hf : R = false:=by
      rw [← Bool.not_eq_true,HR.out]
      omega
    have d5 : decide (0≤p3) = false:=decide_eq_false h5;subst hf;clear h0 h1 h2 h3 h4 h5
    go_enter Tryz.func97,Tryz.ntmps97
    go_wp2_with fail;go_ret;exact ⟨rfl,hbb⟩
  have d5 : decide (0≤p3) = true:=decide_eq_true h5
  by_cases h6 : p3≤100
  rotate_left
  · have hf : R = false:=by
      rw [← Bool.not_eq_true,HR.out]
      omega
    have d6 : decide (p3≤100) = false:=decide_eq_false h6;subst hf;clear h0 h1 h2 h3 h4 h5 h6
    go_enter Tryz.func97,Tryz.ntmps97
    go_wp2_with fail;go_ret;exact ⟨rfl,hbb⟩
  have d6 : decide (p3≤100) = true:=decide_eq_true h6
  by_cases h7 : 1≤p4
  rotate_left
  · have hf : R = false:=by
      rw [← Bool.not_eq_true,HR.out]
      omega
    have d7 : decide (1≤p4) = false:=decide_eq_false h7;subst hf;clear h0 h1 h2 h3 h4 h5 h6 h7
    go_enter Tryz.func97,Tryz.ntmps97
    go_wp2_with fail;go_ret;exact ⟨rfl,hbb⟩
  have d7 : decide (1≤p4) = true:=decide_eq_true h7
  by_cases h8 : p4≤1000
  rotate_left
  · have hf : R = false:=by
      rw [← Bool.not_eq_true,HR.out]
      omega
    have d8 : decide (p4≤1000) = false:=decide_eq_false h8;subst hf;clear h0 h1 h2 h3 h4 h5 h6 h7 h8
    go_enter Tryz.func97,Tryz.ntmps97
    go_wp2_with fail;go_ret;exact ⟨rfl,hbb⟩
  have d8 : decide (p4≤1000) = true:=decide_eq_true h8
  by_cases h9 : 1≤p5
  rotate_left
  · have hf : R = false:=by
      rw [← Bool.not_eq_true,HR.out]
      omega
    have d9 : decide (1≤p5) = false:=decide_eq_false h9;subst hf;clear h0 h1 h2 h3 h4 h5 h6 h7 h8 h9
    go_enter Tryz.func97,Tryz.ntmps97
    go_wp2_with fail;go_ret;exact ⟨rfl,hbb⟩
  have d9 : decide (1≤p5) = true:=decide_eq_true h9
  by_cases h10 : p5≤1000
  rotate_left
  · have hf : R = false:=by
      rw [← Bool.not_eq_true,HR.out]
      omega
    have d10 : decide (p5≤1000) = false:=decide_eq_false h10;subst hf;clear h0 h1 h2 h3 h4 h5 h6 h7 h8 h9 h10
    go_enter Tryz.func97,Tryz.ntmps97
    go_wp2_with fail;go_ret;exact ⟨rfl,hbb⟩
  have d10 : decide (p5≤1000) = true:=decide_eq_true h10
  by_cases h11 : 0≤p6
  rotate_left
  · have hf : R = false:=by
      rw [← Bool.not_eq_true,HR.out]
      omega
    have d11 : decide (0≤p6) = false:=decide_eq_false h11;subst hf;clear h0 h1 h2 h3 h4 h5 h6 h7 h8 h9 h10 h11
    go_enter Tryz.func97,Tryz.ntmps97
    go_wp2_with fail;go_ret;exact ⟨rfl,hbb⟩
  have d11 : decide (0≤p6) = true:=decide_eq_true h11
  by_cases h12 : p6≤1000
  rotate_left
  · have hf : R = false:=by
      rw [← Bool.not_eq_true,HR.out]
      omega
    have d12 : decide (p6≤1000) = false:=decide_eq_false h12;subst hf;clear h0 h1 h2 h3 h4 h5 h6 h7 h8 h9 h10 h11 h12
    go_enter Tryz.func97,Tryz.ntmps97
    go_wp2_with fail;go_ret;exact ⟨rfl,hbb⟩
  have d12 : decide (p6≤1000) = true:=decide_eq_true h12
  have hf : R = true:=by
    rw [HR.out]
    omega
  subst hf;clear h0 h1 h2 h3 h4 h5 h6 h7 h8 h9 h10 h11 h12
  go_enter Tryz.func97,Tryz.ntmps97
  go_wp2_with fail;go_ret;exact ⟨rfl,hbb⟩
end Go.Proofs.YtcgalmnllegnbaaGreat

namespace Go.Proofs.YtcgalmnllegnbaaGreat
set_option linter.unusedVariables false
set_option linter.unusedSimpArgs false
set_option maxRecDepth 100000
open Go.RowKit
open Dot Evt
set_option maxRecDepth 100000 in
set_option maxHeartbeats 4000000 in
theorem eright07_any (x : Ev) (hp : x.p.length = 7) (A : Option Addr) (m c : Nat) (w : World) (hl : RdD w w.heap.size A m x.l) (hmb : m≤4611686018427387904) :
    Calls Tryz.prog 69 #[.agg (ec x (.slice A m c))] w fun e w'=>e = .returned (.bool (rightE x))∧Below w.heap.size w w':=by
  obtain ⟨R,hR⟩ : ∃ R,R = rightE x:=⟨_,rfl⟩;rw [← hR];obtain ⟨⟨n,q⟩,t,k,wk,v,p,l⟩:=x;have hpol:=rpol_any p;obtain ⟨K,hK⟩ : ∃ K,K = kindB ⟨(n,q),t,k,wk,v,p,l⟩:=⟨_,rfl⟩
  have hR2 : R = (mayB (n,q) && inB t 1 top && inB wk 0 7 && decide (l.length≤96) && namedB (n,q) l && K):=by rw [hR,hK];rfl
  clear hR
  simp only at hl hp
  have HM:=Lib.hid hl.1;have hbb : Below w.heap.size w (w.alloc (.cells (ec ⟨(n,q),t,k,wk,v,p,l⟩ (.slice A m c)) 109)):=(Below.refl _ _).alloc (Nat.le_refl _) _;have kb : Blk (w.alloc (.cells (ec ⟨(n,q),t,k,wk,v,p,l⟩ (.slice A m c)) 109)) w.heap.size 109 (ec ⟨(n,q),t,k,wk,v,p,l⟩ (.slice A m c)):=Blk.new _ _ _
  unfold ec at hbb kb ⊢
  unfold pc at hpol
  simp only at hbb kb ⊢
  have hpz : p = p0↔(p.getD 0 0 = 0∧p.getD 1 0 = 0∧p.getD 2 0 = 0∧p.getD 3 0 = 0∧p.getD 4 0 = 0∧p.getD 5 0 = 0∧p.getD 6 0 = 0):=by
    match p,hp with
    | [a,b,c,d,e,f,g],_=>simp [p0]
  have hKp : K = if k = 1 then decide (p = p0) && inB v 0 top && decide (l = []) else if k = 2 then polB p && decide (v = 0) else if k = 3 then decide (p = p0) && decide (v = 0) else false:=by rw [hK];rfl
  clear hK hp
  generalize hpp : decide (p = p0) = PZ at hKp
  have hpz2 : PZ = decide (p.getD 0 0 = 0∧p.getD 1 0 = 0∧p.getD 2 0 = 0∧p.getD 3 0 = 0∧p.getD 4 0 = 0∧p.getD 5 0 = 0∧p.getD 6 0 = 0):=by
    rw [← hpp];exact decide_eq_decide.2 hpz
  clear hpp hpz
  generalize polB p = PB at hKp hpol
  generalize p.getD 0 0 = p0,p.getD 1 0 = p1,p.getD 2 0 = p2,p.getD 3 0 = p3,p.getD 4 0 = p4,p.getD 5 0 = p5,p.getD 6 0 = p6 at *
  have HR:=Lib.hid hR2;have HK:=Lib.hid hKp;have HZ:=Lib.hid hpz2;have HP:=Lib.hid hpol;have HL:=Lib.hid hl;have HMB:=Lib.hid hmb;clear hR2 hKp hpz2 hpol hl hmb
  go_enter Tryz.func69,Tryz.ntmps69
  go_upto_region 1 with fail
  refine nameW ?_;intro wv hwv;obtain ⟨b,hb⟩ : ∃ b,b = w.heap.size:=⟨_,rfl⟩;rw [← hb];rw [← hwv,← hb] at kb hbb;have hlv:=HL.out.below (B:=w.heap.size) (by rw [← hb];exact hbb);rw [← hb] at hlv;obtain ⟨c0,c1,_⟩:=ecells kb;have HBE:=Lib.hid hb;clear hwv hb HL;go_wp2_with fail;refine (rmay_any n q wv).mono ?_;rintro e w2 ⟨rfl,b2⟩;have hb2:=hbb.trans (b2.mono (by have:=kb.lt;omega));have kb2:=kb.below b2 kb.lt;have hl2:=hlv.below (b2.mono (by have:=kb.lt;omega));have hs2:=kb2.lt;clear kb hlv c0 c1 hbb b2;obtain ⟨c0,c1,c2,c3,c4,c5,c6,c7,c8,c9,c10,c11,c12,c13⟩:=ecells kb2
  rcases hm : mayB (n,q) with _ | _
  · skip
    go_wp2_with fail;go_ret;refine ⟨?_,by rw [← HBE.out];exact hb2⟩;rw [HR.out,hm]
    try rfl
  have HMY:=Lib.hid hm;clear hm
  have hn1 : ¬ t < 1→¬ (1099511627776 : Int) < t→inB t 1 top = true:=fun h1 h2=>(inB_iff _ _ _).2 ⟨by omega,by unfold top;omega⟩
  have hn2 : ¬ wk < 0→¬ (7 : Int) < wk→inB wk 0 7 = true:=fun h1 h2=>(inB_iff _ _ _).2 ⟨by omega,by omega⟩
  have HN1:=Lib.hid hn1;have HN2:=Lib.hid hn2;clear hn1 hn2
  by_cases hc : t < 1
  · have hcd : decide (t < 1) = true:=decide_eq_true hc
    have hcx : inB t 1 top = false:=by rw [← Bool.not_eq_true,inB_iff];unfold top;omega
    clear hc;have HCX:=Lib.hid hcx;clear hcx;go_wp2_with fail;go_ret;refine ⟨?_,by rw [← HBE.out];exact hb2⟩;rw [HR.out,HMY.out,HCX.out]
    try rfl
  have e1 : decide (t < 1) = false:=decide_eq_false hc;have E1:=Lib.hid hc;clear hc
  by_cases hc : (1099511627776 : Int) < t
  · have hcd : decide ((1099511627776 : Int) < t) = true:=decide_eq_true hc
    have hcx : inB t 1 top = false:=by rw [← Bool.not_eq_true,inB_iff];unfold top;omega
    clear hc;have HCX:=Lib.hid hcx;clear hcx;go_wp2_with fail;go_ret;refine ⟨?_,by rw [← HBE.out];exact hb2⟩;rw [HR.out,HMY.out,HCX.out]
    try rfl
  have e2 : decide ((1099511627776 : Int) < t) = false:=decide_eq_false hc;have HT:=Lib.hid (HN1.out E1.out hc);clear hc
  by_cases hc : wk < 0
  · have hcd : decide (wk < 0) = true:=decide_eq_true hc
    have hcx : inB wk 0 7 = false:=by rw [← Bool.not_eq_true,inB_iff];omega
    clear hc;have HCX:=Lib.hid hcx;clear hcx;go_wp2_with fail;go_ret;refine ⟨?_,by rw [← HBE.out];exact hb2⟩;rw [HR.out,HMY.out,HT.out,HCX.out]
    try rfl
  have e3 : decide (wk < 0) = false:=decide_eq_false hc;have E3:=Lib.hid hc;clear hc
  by_cases hc : (7 : Int) < wk
  · have hcd : decide ((7 : Int) < wk) = true:=decide_eq_true hc
    have hcx : inB wk 0 7 = false:=by rw [← Bool.not_eq_true,inB_iff];omega
    clear hc;have HCX:=Lib.hid hcx;clear hcx;go_wp2_with fail;go_ret;refine ⟨?_,by rw [← HBE.out];exact hb2⟩;rw [HR.out,HMY.out,HT.out,HCX.out]
    try rfl
  have e4 : decide ((7 : Int) < wk) = false:=decide_eq_false hc;have HW:=Lib.hid (HN2.out E3.out hc);clear hc
  by_cases hc : (96 : Int) < (m : Int)
  · have hcd : decide ((96 : Int) < (m : Int)) = true:=decide_eq_true hc
    have hcx : decide (l.length≤96) = false:=by rw [decide_eq_false_iff_not];have:=HM.out;omega
    clear hc;have HCX:=Lib.hid hcx;clear hcx;go_wp2_with fail;go_ret;refine ⟨?_,by rw [← HBE.out];exact hb2⟩;rw [HR.out,HMY.out,HT.out,HW.out,HCX.out]
    try rfl
  have e5 : decide ((96 : Int) < (m : Int)) = false:=decide_eq_false hc;have HLE:=Lib.hid (show decide (l.length≤96) = true by rw [decide_eq_true_eq];have:=HM.out;omega);have H96:=Lib.hid (show m≤96 by omega);clear hc;have HRN:=Lib.hid (show R = (namedB (n,q) l && K) by rw [HR.out,HMY.out,HT.out,HW.out,HLE.out];cases namedB (n,q) l <;> rfl);clear HR HMY HT HW HLE HN1 HN2 E1 E3;go_wp2_with fail
  go_loopw [38] (fun i wr=>∃ j : Nat,j≤m∧i = .int .i64 j∧(∀ i,i < j→nameAt (n,q) l i = true)∧Blk wr b 109 #[.int .i64 n,.int .i64 q,.int .i64 t,.int .i64 k,.int .i64 wk,.int .i64 v,.int .i64 p0,.int .i64 p1,.int .i64 p2,.int .i64 p3,.int .i64 p4,.int .i64 p5,.int .i64 p6,.slice A m c]∧RdD wr b A m l∧Below b w wr) (fun i _=>m - (intOf i).toNat)
  case atStart=>exact ⟨0,by omega,rfl,fun i hi=>by omega,kb2,hl2,hb2⟩
  case round =>
    clear kb2 hl2 hb2 c0 c1 c2 c3 c4 c5 c6 c7 c8 c9 c10 c11 c12 c13 e1 e2 e3 e4 e5 hs2;obtain ⟨j,hj,rfl,hall,kb,hl,hbel⟩:=hrel;have HA:=Lib.hid hall;clear hall
    by_cases hlt : j < m
    · have hjl : j < l.length:=by rw [← HM.out];exact hlt
      obtain ⟨ad,hA,hdt⟩:=hl.2 j _ (List.getElem?_eq_getElem hjl)
      have hgd : nameAt (n,q) l j = (mayB l[j] && !decide (l[j] = (n,q)) && (decide (j = 0) || befB (l.getD (j - 1) (0,0)) l[j])):=by
        unfold nameAt
        rw [show l.getD j (0,0) = l[j] by rw [List.getD_eq_getElem?_getD,List.getElem?_eq_getElem hjl];rfl]
      generalize l[j] = d at *
      subst hA;obtain ⟨x,y⟩:=d;obtain ⟨q5,q0,q1⟩:=hdt
      simp only at q0 q1 hgd
      have HG:=Lib.hid hgd;clear hgd;have hsz:=kb.lt;obtain ⟨wn,hwn⟩ : ∃ wn,wn = wr.alloc (.cells #[.int .i64 x,.int .i64 y] 100):=⟨_,rfl⟩;obtain ⟨gd,hgd⟩ : ∃ gd,gd = wr.heap.size:=⟨_,rfl⟩
      have kx : Blk wn gd 100 #[.int .i64 x,.int .i64 y]:=by rw [hwn,hgd];exact Blk.new wr _ _
      have bn : Below wr.heap.size wr wn:=by rw [hwn];exact (Below.refl _ _).alloc (Nat.le_refl _) _
      have kb1:=kb.below bn kb.lt;have hb1:=hbel.trans (bn.mono (by omega));have hl1:=hl.below (bn.mono (by omega));have HW:=Lib.hid hwn;have HGD:=Lib.hid hgd
      have hgl : b < gd:=by omega
      have hj0 : (0 : Int)≤(j : Int):=by omega
      have hjm : (j : Int) < (m : Int):=by omega
      clear hwn hgd bn hl;have cs : wr.cell? ⟨b,13,none⟩ = some (.slice (some ad) m c):=kb.cell 13
      go_upto_region 6 with fail
      rw [← HW.out,← HGD.out];clear cs q0 q1 kb hbel;have t0 : wn.cell? ⟨gd,0,none⟩ = some (.int .i64 x):=kx.cell 0;have t1 : wn.cell? ⟨gd,1,none⟩ = some (.int .i64 y):=kx.cell 1;have o0 : wn.cell? ⟨b,0,none⟩ = some (.int .i64 n):=kb1.cell 0;have o1 : wn.cell? ⟨b,1,none⟩ = some (.int .i64 q):=kb1.cell 1;have o13 : wn.cell? ⟨b,13,none⟩ = some (.slice (some ad) m c):=kb1.cell 13
      have hmc : ∀ w',Calls Tryz.prog 94 #[.agg #[.int .i64 x,.int .i64 y]] w' fun e w''=>e = .returned (.bool (mayB (x,y)))∧Below w'.heap.size w' w'':=fun w'=>rmay_any x y w'
      cases hmm : mayB (x,y)
      case false =>
        have hgk : nameAt (n,q) l j = false:=by rw [HG.out,hmm];rfl
        have HGK:=Lib.hid hgk;rw [hmm] at hmc;have HMC:=Lib.hid hmc;clear hgk hmm hmc;refine wp_region_below (by kernel_rfl) (by kernel_rfl) ?_;intro T iT F hF hT
        have S0 : ∀ xf,(F xf).cell? ⟨gd,0,none⟩ = some (.int .i64 x):=fun xf=>((hF xf).cell (p:=⟨gd,0,none⟩) kx.lt).trans t0
        have S1 : ∀ xf,(F xf).cell? ⟨gd,1,none⟩ = some (.int .i64 y):=fun xf=>((hF xf).cell (p:=⟨gd,1,none⟩) kx.lt).trans t1
        have S2 : ∀ xf,(F xf).cell? ⟨b,0,none⟩ = some (.int .i64 n):=fun xf=>((hF xf).cell (p:=⟨b,0,none⟩) kb1.lt).trans o0
        have S3 : ∀ xf,(F xf).cell? ⟨b,1,none⟩ = some (.int .i64 q):=fun xf=>((hF xf).cell (p:=⟨b,1,none⟩) kb1.lt).trans o1
        have S4 : ∀ xf,(F xf).cell? ⟨b,13,none⟩ = some (.slice (some ad) m c):=fun xf=>((hF xf).cell (p:=⟨b,13,none⟩) kb1.lt).trans o13
        have HF:=Lib.hid hF;have HT:=Lib.hid hT;clear hF hT
        repeat (first
          | go_big_quiet_step (((go_at_call 94;exact calls_below HF.out HT.out (HMC.out _)))))
        refine wpQuiet_nil ?_;intro w' hw';obtain ⟨qf,rfl⟩:=hw';have bF:=HF.out qf;have kF:=kb1.below bF kb1.lt;have hbF:=hb1.trans (bF.mono (by have:=kb1.lt;omega));have hlF:=hl1.below (bF.mono (by have:=kb1.lt;omega));clear HF HT S0 S1 S2 S3 S4 t0 t1 o0 o1 o13;go_wp2_with fail;go_ret;refine ⟨?_,by rw [← HBE.out];exact hbF⟩;rw [HRN.out,name_at hjl HGK.out]
        rfl
      case true =>
        have HMM:=Lib.hid hmm;rw [hmm] at hmc;have HMC:=Lib.hid hmc;clear hmm hmc
        by_cases hx : x = n
        · subst hx
          by_cases hy : y = q
          · subst hy
            have hgk : nameAt (x,y) l j = false:=by rw [HG.out,HMM.out];simp
            have HGK:=Lib.hid hgk;clear hgk;refine wp_region_below (by kernel_rfl) (by kernel_rfl) ?_;intro T iT F hF hT
            have S0 : ∀ xf,(F xf).cell? ⟨gd,0,none⟩ = some (.int .i64 x):=fun xf=>((hF xf).cell (p:=⟨gd,0,none⟩) kx.lt).trans t0
            have S1 : ∀ xf,(F xf).cell? ⟨gd,1,none⟩ = some (.int .i64 y):=fun xf=>((hF xf).cell (p:=⟨gd,1,none⟩) kx.lt).trans t1
            have S2 : ∀ xf,(F xf).cell? ⟨b,0,none⟩ = some (.int .i64 x):=fun xf=>((hF xf).cell (p:=⟨b,0,none⟩) kb1.lt).trans o0
            have S3 : ∀ xf,(F xf).cell? ⟨b,1,none⟩ = some (.int .i64 y):=fun xf=>((hF xf).cell (p:=⟨b,1,none⟩) kb1.lt).trans o1
            have S4 : ∀ xf,(F xf).cell? ⟨b,13,none⟩ = some (.slice (some ad) m c):=fun xf=>((hF xf).cell (p:=⟨b,13,none⟩) kb1.lt).trans o13
            have HF:=Lib.hid hF;have HT:=Lib.hid hT;clear hF hT
            repeat (first
              | go_big_quiet_step (((go_at_call 94;exact calls_below HF.out HT.out (HMC.out _)))))
            refine wpQuiet_nil ?_;intro w' hw';obtain ⟨qf,rfl⟩:=hw';have bF:=HF.out qf;have kF:=kb1.below bF kb1.lt;have hbF:=hb1.trans (bF.mono (by have:=kb1.lt;omega));have hlF:=hl1.below (bF.mono (by have:=kb1.lt;omega));clear HF HT S0 S1 S2 S3 S4 t0 t1 o0 o1 o13;go_wp2_with fail;go_ret;refine ⟨?_,by rw [← HBE.out];exact hbF⟩;rw [HRN.out,name_at hjl HGK.out]
            rfl
          · skip
            have HNO:=Lib.hid (show decide ((x,y) = (x,q)) = false by rw [decide_eq_false_iff_not];intro h;exact hy (congrArg Prod.snd h))
            by_cases hk0 : j = 0
            · subst hk0
              have hgk : nameAt (x,q) l 0 = true:=by rw [HG.out,HMM.out,HNO.out];rfl
              have HGK:=Lib.hid hgk;clear hgk;refine wp_region_below (by kernel_rfl) (by kernel_rfl) ?_;intro T iT F hF hT
              have S0 : ∀ xf,(F xf).cell? ⟨gd,0,none⟩ = some (.int .i64 x):=fun xf=>((hF xf).cell (p:=⟨gd,0,none⟩) kx.lt).trans t0
              have S1 : ∀ xf,(F xf).cell? ⟨gd,1,none⟩ = some (.int .i64 y):=fun xf=>((hF xf).cell (p:=⟨gd,1,none⟩) kx.lt).trans t1
              have S2 : ∀ xf,(F xf).cell? ⟨b,0,none⟩ = some (.int .i64 x):=fun xf=>((hF xf).cell (p:=⟨b,0,none⟩) kb1.lt).trans o0
              have S3 : ∀ xf,(F xf).cell? ⟨b,1,none⟩ = some (.int .i64 q):=fun xf=>((hF xf).cell (p:=⟨b,1,none⟩) kb1.lt).trans o1
              have S4 : ∀ xf,(F xf).cell? ⟨b,13,none⟩ = some (.slice (some ad) m c):=fun xf=>((hF xf).cell (p:=⟨b,13,none⟩) kb1.lt).trans o13
              have HF:=Lib.hid hF;have HT:=Lib.hid hT;clear hF hT
              repeat (first
                | go_big_quiet_step (((go_at_call 94;exact calls_below HF.out HT.out (HMC.out _)))))
              refine wpQuiet_nil ?_;intro w' hw';obtain ⟨qf,rfl⟩:=hw';have bF:=HF.out qf;have kF:=kb1.below bF kb1.lt;have hbF:=hb1.trans (bF.mono (by have:=kb1.lt;omega));have hlF:=hl1.below (bF.mono (by have:=kb1.lt;omega));clear HF HT S0 S1 S2 S3 S4 t0 t1 o0 o1 o13;go_wp2_with fail
              go_roundw
              case rel=>exact ⟨1,by omega,rfl,fun i hi=>by
                by_cases e : i = 0
                · subst e;exact HGK.out
                · exact HA.out i (by omega),kF,hlF,hbF⟩
              case measure=>simp only [intOf];omega
            · obtain ⟨i,hmk⟩ : ∃ i,j = i + 1:=⟨j - 1,by omega⟩
              have hml : i < l.length:=by omega
              have hkp : 0 < j:=by omega
              have hkq : (0 : Int) < (j : Int):=by omega
              have hwk : IntKind.i64.wrap ((j : Int) - 1) = (i : Int):=by rw [IntKind.wrap_i64];have:=H96.out;omega
              have hm0 : (0 : Int)≤(i : Int):=by omega
              have hmn : (i : Int) < (m : Int):=by omega
              obtain ⟨ad2,hae,hdt2⟩:=hl1.2 i _ (List.getElem?_eq_getElem hml)
              injection hae with hae
              subst hae
              have hpe : l.getD i (0,0) = l[i]:=by rw [List.getD_eq_getElem?_getD,List.getElem?_eq_getElem hml];rfl
              have hg3 : nameAt (x,q) l j = befB l[i] (x,y):=by
                rw [HG.out,HMM.out,HNO.out,decide_eq_false hk0,show j - 1 = i by omega,hpe]
                cases befB l[i] (x,y) <;> rfl
              clear hpe
              generalize l[i] = d at *
              obtain ⟨x2,y2⟩:=d;obtain ⟨p5,p0,p1⟩:=hdt2
              simp only at p0 p1
              have p6 : (ad.add (i * 2)).block < wn.heap.size:=Nat.lt_of_lt_of_le p5 (by have:=kb1.lt;omega);clear HG;have HG:=Lib.hid hg3;clear hg3 hmk
              have hcc : ∀ w',Calls Tryz.prog 95 #[.agg #[.int .i64 x2,.int .i64 y2],.agg #[.int .i64 x,.int .i64 y]] w' fun e w''=>e = .returned (.bool (befB (x2,y2) (x,y)))∧Below w'.heap.size w' w'':=fun w'=>before_any x2 y2 x y w'
              cases hbf : befB (x2,y2) (x,y)
              case false =>
                have hgk : nameAt (x,q) l j = false:=by rw [HG.out,hbf]
                have HGK:=Lib.hid hgk;rw [hbf] at hcc;have HCC:=Lib.hid hcc;clear hgk hbf hcc;refine wp_region_below (by kernel_rfl) (by kernel_rfl) ?_;intro T iT F hF hT
                have S0 : ∀ xf,(F xf).cell? ⟨gd,0,none⟩ = some (.int .i64 x):=fun xf=>((hF xf).cell (p:=⟨gd,0,none⟩) kx.lt).trans t0
                have S1 : ∀ xf,(F xf).cell? ⟨gd,1,none⟩ = some (.int .i64 y):=fun xf=>((hF xf).cell (p:=⟨gd,1,none⟩) kx.lt).trans t1
                have S2 : ∀ xf,(F xf).cell? ⟨b,0,none⟩ = some (.int .i64 x):=fun xf=>((hF xf).cell (p:=⟨b,0,none⟩) kb1.lt).trans o0
                have S3 : ∀ xf,(F xf).cell? ⟨b,1,none⟩ = some (.int .i64 q):=fun xf=>((hF xf).cell (p:=⟨b,1,none⟩) kb1.lt).trans o1
                have S4 : ∀ xf,(F xf).cell? ⟨b,13,none⟩ = some (.slice (some ad) m c):=fun xf=>((hF xf).cell (p:=⟨b,13,none⟩) kb1.lt).trans o13
                have SP : ∀ xf,(F xf).cell? (ad.add (i * 2)) = some (.int .i64 x2):=fun xf=>((hF xf).cell p6).trans p0
                have SQ : ∀ xf,(F xf).cell? ⟨(ad.add (i * 2)).block,(ad.add (i * 2)).off + 1,none⟩ = some (.int .i64 y2):=fun xf=>((hF xf).cell (p:=⟨(ad.add (i * 2)).block,(ad.add (i * 2)).off + 1,none⟩) p6).trans p1
                have HF:=Lib.hid hF;have HT:=Lib.hid hT;clear hF hT
                repeat (first
                  | go_big_quiet_step ((first | (go_at_call 94;exact calls_below HF.out HT.out (HMC.out _)) | (go_at_call 95;exact calls_below HF.out HT.out (HCC.out _)))))
                refine wpQuiet_nil ?_;intro w' hw';obtain ⟨qf,rfl⟩:=hw';have bF:=HF.out qf;have kF:=kb1.below bF kb1.lt;have hbF:=hb1.trans (bF.mono (by have:=kb1.lt;omega));have hlF:=hl1.below (bF.mono (by have:=kb1.lt;omega));clear HF HT S0 S1 S2 S3 S4 t0 t1 o0 o1 o13;go_wp2_with fail;go_ret;refine ⟨?_,by rw [← HBE.out];exact hbF⟩;rw [HRN.out,name_at hjl HGK.out]
                rfl
              case true =>
                have hgk : nameAt (x,q) l j = true:=by rw [HG.out,hbf]
                have HGK:=Lib.hid hgk;rw [hbf] at hcc;have HCC:=Lib.hid hcc;clear hgk hbf hcc;refine wp_region_below (by kernel_rfl) (by kernel_rfl) ?_;intro T iT F hF hT
                have S0 : ∀ xf,(F xf).cell? ⟨gd,0,none⟩ = some (.int .i64 x):=fun xf=>((hF xf).cell (p:=⟨gd,0,none⟩) kx.lt).trans t0
                have S1 : ∀ xf,(F xf).cell? ⟨gd,1,none⟩ = some (.int .i64 y):=fun xf=>((hF xf).cell (p:=⟨gd,1,none⟩) kx.lt).trans t1
                have S2 : ∀ xf,(F xf).cell? ⟨b,0,none⟩ = some (.int .i64 x):=fun xf=>((hF xf).cell (p:=⟨b,0,none⟩) kb1.lt).trans o0
                have S3 : ∀ xf,(F xf).cell? ⟨b,1,none⟩ = some (.int .i64 q):=fun xf=>((hF xf).cell (p:=⟨b,1,none⟩) kb1.lt).trans o1
                have S4 : ∀ xf,(F xf).cell? ⟨b,13,none⟩ = some (.slice (some ad) m c):=fun xf=>((hF xf).cell (p:=⟨b,13,none⟩) kb1.lt).trans o13
                have SP : ∀ xf,(F xf).cell? (ad.add (i * 2)) = some (.int .i64 x2):=fun xf=>((hF xf).cell p6).trans p0
                have SQ : ∀ xf,(F xf).cell? ⟨(ad.add (i * 2)).block,(ad.add (i * 2)).off + 1,none⟩ = some (.int .i64 y2):=fun xf=>((hF xf).cell (p:=⟨(ad.add (i * 2)).block,(ad.add (i * 2)).off + 1,none⟩) p6).trans p1
                have HF:=Lib.hid hF;have HT:=Lib.hid hT;clear hF hT
                repeat (first
                  | go_big_quiet_step ((first | (go_at_call 94;exact calls_below HF.out HT.out (HMC.out _)) | (go_at_call 95;exact calls_below HF.out HT.out (HCC.out _)))))
                refine wpQuiet_nil ?_;intro w' hw';obtain ⟨qf,rfl⟩:=hw';have bF:=HF.out qf;have kF:=kb1.below bF kb1.lt;have hbF:=hb1.trans (bF.mono (by have:=kb1.lt;omega));have hlF:=hl1.below (bF.mono (by have:=kb1.lt;omega));clear HF HT S0 S1 S2 S3 S4 t0 t1 o0 o1 o13;go_wp2_with fail
                go_roundw
                case rel=>exact ⟨j + 1,by omega,num_succ j (by have:=H96.out;omega),fun i hi=>by
                  by_cases e : i = j
                  · subst e;exact HGK.out
                  · exact HA.out i (by omega),kF,hlF,hbF⟩
                case measure=>exact meas_succ j m hlt (by have:=H96.out;omega)
        · skip
          have HNO:=Lib.hid (show decide ((x,y) = (n,q)) = false by rw [decide_eq_false_iff_not];intro h;exact hx (congrArg Prod.fst h))
          by_cases hk0 : j = 0
          · subst hk0
            have hgk : nameAt (n,q) l 0 = true:=by rw [HG.out,HMM.out,HNO.out];rfl
            have HGK:=Lib.hid hgk;clear hgk;refine wp_region_below (by kernel_rfl) (by kernel_rfl) ?_;intro T iT F hF hT
            have S0 : ∀ xf,(F xf).cell? ⟨gd,0,none⟩ = some (.int .i64 x):=fun xf=>((hF xf).cell (p:=⟨gd,0,none⟩) kx.lt).trans t0
            have S1 : ∀ xf,(F xf).cell? ⟨gd,1,none⟩ = some (.int .i64 y):=fun xf=>((hF xf).cell (p:=⟨gd,1,none⟩) kx.lt).trans t1
            have S2 : ∀ xf,(F xf).cell? ⟨b,0,none⟩ = some (.int .i64 n):=fun xf=>((hF xf).cell (p:=⟨b,0,none⟩) kb1.lt).trans o0
            have S3 : ∀ xf,(F xf).cell? ⟨b,1,none⟩ = some (.int .i64 q):=fun xf=>((hF xf).cell (p:=⟨b,1,none⟩) kb1.lt).trans o1
            have S4 : ∀ xf,(F xf).cell? ⟨b,13,none⟩ = some (.slice (some ad) m c):=fun xf=>((hF xf).cell (p:=⟨b,13,none⟩) kb1.lt).trans o13
            have HF:=Lib.hid hF;have HT:=Lib.hid hT;clear hF hT
            repeat (first
              | go_big_quiet_step (((go_at_call 94;exact calls_below HF.out HT.out (HMC.out _)))))
            refine wpQuiet_nil ?_;intro w' hw';obtain ⟨qf,rfl⟩:=hw';have bF:=HF.out qf;have kF:=kb1.below bF kb1.lt;have hbF:=hb1.trans (bF.mono (by have:=kb1.lt;omega));have hlF:=hl1.below (bF.mono (by have:=kb1.lt;omega));clear HF HT S0 S1 S2 S3 S4 t0 t1 o0 o1 o13;go_wp2_with fail
            go_roundw
            case rel=>exact ⟨1,by omega,rfl,fun i hi=>by
              by_cases e : i = 0
              · subst e;exact HGK.out
              · exact HA.out i (by omega),kF,hlF,hbF⟩
            case measure=>simp only [intOf];omega
          · obtain ⟨i,hmk⟩ : ∃ i,j = i + 1:=⟨j - 1,by omega⟩
            have hml : i < l.length:=by omega
            have hkp : 0 < j:=by omega
            have hkq : (0 : Int) < (j : Int):=by omega
            have hwk : IntKind.i64.wrap ((j : Int) - 1) = (i : Int):=by rw [IntKind.wrap_i64];have:=H96.out;omega
            have hm0 : (0 : Int)≤(i : Int):=by omega
            have hmn : (i : Int) < (m : Int):=by omega
            obtain ⟨ad2,hae,hdt2⟩:=hl1.2 i _ (List.getElem?_eq_getElem hml)
            injection hae with hae
            subst hae
            have hpe : l.getD i (0,0) = l[i]:=by rw [List.getD_eq_getElem?_getD,List.getElem?_eq_getElem hml];rfl
            have hg3 : nameAt (n,q) l j = befB l[i] (x,y):=by
              rw [HG.out,HMM.out,HNO.out,decide_eq_false hk0,show j - 1 = i by omega,hpe]
              cases befB l[i] (x,y) <;> rfl
            clear hpe
            generalize l[i] = d at *
            obtain ⟨x2,y2⟩:=d;obtain ⟨p5,p0,p1⟩:=hdt2
            simp only at p0 p1
            have p6 : (ad.add (i * 2)).block < wn.heap.size:=Nat.lt_of_lt_of_le p5 (by have:=kb1.lt;omega);clear HG;have HG:=Lib.hid hg3;clear hg3 hmk
            have hcc : ∀ w',Calls Tryz.prog 95 #[.agg #[.int .i64 x2,.int .i64 y2],.agg #[.int .i64 x,.int .i64 y]] w' fun e w''=>e = .returned (.bool (befB (x2,y2) (x,y)))∧Below w'.heap.size w' w'':=fun w'=>before_any x2 y2 x y w'
            cases hbf : befB (x2,y2) (x,y)
            case false =>
              have hgk : nameAt (n,q) l j = false:=by rw [HG.out,hbf]
              have HGK:=Lib.hid hgk;rw [hbf] at hcc;have HCC:=Lib.hid hcc;clear hgk hbf hcc;refine wp_region_below (by kernel_rfl) (by kernel_rfl) ?_;intro T iT F hF hT
              have S0 : ∀ xf,(F xf).cell? ⟨gd,0,none⟩ = some (.int .i64 x):=fun xf=>((hF xf).cell (p:=⟨gd,0,none⟩) kx.lt).trans t0
              have S1 : ∀ xf,(F xf).cell? ⟨gd,1,none⟩ = some (.int .i64 y):=fun xf=>((hF xf).cell (p:=⟨gd,1,none⟩) kx.lt).trans t1
              have S2 : ∀ xf,(F xf).cell? ⟨b,0,none⟩ = some (.int .i64 n):=fun xf=>((hF xf).cell (p:=⟨b,0,none⟩) kb1.lt).trans o0
              have S3 : ∀ xf,(F xf).cell? ⟨b,1,none⟩ = some (.int .i64 q):=fun xf=>((hF xf).cell (p:=⟨b,1,none⟩) kb1.lt).trans o1
              have S4 : ∀ xf,(F xf).cell? ⟨b,13,none⟩ = some (.slice (some ad) m c):=fun xf=>((hF xf).cell (p:=⟨b,13,none⟩) kb1.lt).trans o13
              have SP : ∀ xf,(F xf).cell? (ad.add (i * 2)) = some (.int .i64 x2):=fun xf=>((hF xf).cell p6).trans p0
              have SQ : ∀ xf,(F xf).cell? ⟨(ad.add (i * 2)).block,(ad.add (i * 2)).off + 1,none⟩ = some (.int .i64 y2):=fun xf=>((hF xf).cell (p:=⟨(ad.add (i * 2)).block,(ad.add (i * 2)).off + 1,none⟩) p6).trans p1
              have HF:=Lib.hid hF;have HT:=Lib.hid hT;clear hF hT
              repeat (first
                | go_big_quiet_step ((first | (go_at_call 94;exact calls_below HF.out HT.out (HMC.out _)) | (go_at_call 95;exact calls_below HF.out HT.out (HCC.out _)))))
              refine wpQuiet_nil ?_;intro w' hw';obtain ⟨qf,rfl⟩:=hw';have bF:=HF.out qf;have kF:=kb1.below bF kb1.lt;have hbF:=hb1.trans (bF.mono (by have:=kb1.lt;omega));have hlF:=hl1.below (bF.mono (by have:=kb1.lt;omega));clear HF HT S0 S1 S2 S3 S4 t0 t1 o0 o1 o13;go_wp2_with fail;go_ret;refine ⟨?_,by rw [← HBE.out];exact hbF⟩;rw [HRN.out,name_at hjl HGK.out]
              rfl
            case true =>
              have hgk : nameAt (n,q) l j = true:=by rw [HG.out,hbf]
              have HGK:=Lib.hid hgk;rw [hbf] at hcc;have HCC:=Lib.hid hcc;clear hgk hbf hcc;refine wp_region_below (by kernel_rfl) (by kernel_rfl) ?_;intro T iT F hF hT
              have S0 : ∀ xf,(F xf).cell? ⟨gd,0,none⟩ = some (.int .i64 x):=fun xf=>((hF xf).cell (p:=⟨gd,0,none⟩) kx.lt).trans t0
              have S1 : ∀ xf,(F xf).cell? ⟨gd,1,none⟩ = some (.int .i64 y):=fun xf=>((hF xf).cell (p:=⟨gd,1,none⟩) kx.lt).trans t1
              have S2 : ∀ xf,(F xf).cell? ⟨b,0,none⟩ = some (.int .i64 n):=fun xf=>((hF xf).cell (p:=⟨b,0,none⟩) kb1.lt).trans o0
              have S3 : ∀ xf,(F xf).cell? ⟨b,1,none⟩ = some (.int .i64 q):=fun xf=>((hF xf).cell (p:=⟨b,1,none⟩) kb1.lt).trans o1
              have S4 : ∀ xf,(F xf).cell? ⟨b,13,none⟩ = some (.slice (some ad) m c):=fun xf=>((hF xf).cell (p:=⟨b,13,none⟩) kb1.lt).trans o13
              have SP : ∀ xf,(F xf).cell? (ad.add (i * 2)) = some (.int .i64 x2):=fun xf=>((hF xf).cell p6).trans p0
              have SQ : ∀ xf,(F xf).cell? ⟨(ad.add (i * 2)).block,(ad.add (i * 2)).off + 1,none⟩ = some (.int .i64 y2):=fun xf=>((hF xf).cell (p:=⟨(ad.add (i * 2)).block,(ad.add (i * 2)).off + 1,none⟩) p6).trans p1
              have HF:=Lib.hid hF;have HT:=Lib.hid hT;clear hF hT
              repeat (first
                | go_big_quiet_step ((first | (go_at_call 94;exact calls_below HF.out HT.out (HMC.out _)) | (go_at_call 95;exact calls_below HF.out HT.out (HCC.out _)))))
              refine wpQuiet_nil ?_;intro w' hw';obtain ⟨qf,rfl⟩:=hw';have bF:=HF.out qf;have kF:=kb1.below bF kb1.lt;have hbF:=hb1.trans (bF.mono (by have:=kb1.lt;omega));have hlF:=hl1.below (bF.mono (by have:=kb1.lt;omega));clear HF HT S0 S1 S2 S3 S4 t0 t1 o0 o1 o13;go_wp2_with fail
              go_roundw
              case rel=>exact ⟨j + 1,by omega,num_succ j (by have:=H96.out;omega),fun i hi=>by
                by_cases e : i = j
                · subst e;exact HGK.out
                · exact HA.out i (by omega),kF,hlF,hbF⟩
              case measure=>exact meas_succ j m hlt (by have:=H96.out;omega)
    · have hne : namedB (n,q) l = true:=by
        rw [named_iff]
        exact fun i hi=>HA.out i (by have:=HM.out;omega)
      have HRK:=Lib.hid (show R = K by rw [HRN.out,hne];rfl);have hjd : decide ((j : Int) < (m : Int)) = false:=decide_eq_false (by omega);have HB4:=Lib.hid hbel;have hs4:=kb.lt;obtain ⟨c0,c1,c2,c3,c4,c5,c6,c7,c8,c9,c10,c11,c12,c13⟩:=ecells kb;clear HRN HA hne kb hl hbel
      by_cases hp0 : p0 = 0
      rotate_left
      · have hz : PZ = false:=by rw [HZ.out,decide_eq_false_iff_not];omega
        by_cases k1 : k = 1
        · have hKv:=HK.out
          rw [if_pos k1] at hKv;clear HK;have HK:=Lib.hid hKv;clear hKv;subst k1
          by_cases hv0 : 0≤v
          rotate_left
          · have hvx:=Lib.hid (show inB v 0 top = false by rw [← Bool.not_eq_true,inB_iff];omega)
            have hvd : decide (0≤v) = false:=decide_eq_false hv0;clear hv0;go_wp2_with fail;go_ret;refine ⟨?_,by rw [← HBE.out];exact HB4.out⟩;rw [HRK.out,HK.out,hz,hvx.out]
            try rfl
          have hvd : decide (0≤v) = true:=decide_eq_true hv0
          by_cases hvt : v≤1099511627776
          rotate_left
          · have hvx:=Lib.hid (show inB v 0 top = false by rw [← Bool.not_eq_true,inB_iff];unfold top;omega)
            have hvd2 : decide (v≤1099511627776) = false:=decide_eq_false hvt;clear hv0 hvt;go_wp2_with fail;go_ret;refine ⟨?_,by rw [← HBE.out];exact HB4.out⟩;rw [HRK.out,HK.out,hz,hvx.out]
            try rfl
          have hvd2 : decide (v≤1099511627776) = true:=decide_eq_true hvt;have hvx:=Lib.hid (show inB v 0 top = true by rw [inB_iff];unfold top;omega);clear hv0 hvt;go_wp2_with fail;go_ret;refine ⟨?_,by rw [← HBE.out];exact HB4.out⟩;rw [HRK.out,HK.out,hz,hvx.out]
          try rfl
        by_cases k2 : k = 2
        · have hKv:=HK.out
          rw [if_neg k1,if_pos k2] at hKv;clear HK;have HK:=Lib.hid hKv;clear hKv;subst k2;clear k1
          by_cases hv : v = 0
          · have hKv:=HK.out
            rw [decide_eq_true hv] at hKv;clear HK;have HK:=Lib.hid hKv;clear hKv;subst hv;go_wp2_with fail;refine (HP.out _).mono ?_;rintro e w5 ⟨rfl,b5⟩;have hb5:=HB4.out.trans (b5.mono (by have:=HB4.out.size;omega));go_wp2_with fail;go_ret;refine ⟨?_,by rw [← HBE.out];exact hb5⟩;rw [HRK.out,HK.out]
            cases PB <;> rfl
          have hv2 : (v == (0 : Int)) = false:=by rw [beq_eq_false_iff_ne];exact hv
          go_wp2_with fail;go_ret;refine ⟨?_,by rw [← HBE.out];exact HB4.out⟩;rw [HRK.out,HK.out,decide_eq_false hv]
          cases PB <;> rfl
        by_cases k3 : k = 3
        · have hKv:=HK.out
          rw [if_neg k1,if_neg k2,if_pos k3] at hKv;clear HK;have HK:=Lib.hid hKv;clear hKv;subst k3;clear k1 k2
          by_cases hv : v = 0
          · have hKv:=HK.out
            rw [decide_eq_true hv] at hKv;clear HK;have HK:=Lib.hid hKv;clear hKv;subst hv;go_wp2_with fail;go_ret;refine ⟨?_,by rw [← HBE.out];exact HB4.out⟩;rw [HRK.out,HK.out,hz]
            try rfl
          have hv2 : (v == (0 : Int)) = false:=by rw [beq_eq_false_iff_ne];exact hv
          go_wp2_with fail;go_ret;refine ⟨?_,by rw [← HBE.out];exact HB4.out⟩;rw [HRK.out,HK.out,hz,decide_eq_false hv]
          try rfl
        go_wp2_with fail;go_ret;refine ⟨?_,by rw [← HBE.out];exact HB4.out⟩;rw [HRK.out,HK.out,if_neg k1,if_neg k2,if_neg k3]
        try rfl
      subst hp0
      by_cases hp1 : p1 = 0
      rotate_left
      · have hz : PZ = false:=by rw [HZ.out,decide_eq_false_iff_not];omega
        by_cases k1 : k = 1
        · have hKv:=HK.out
          rw [if_pos k1] at hKv;clear HK;have HK:=Lib.hid hKv;clear hKv;subst k1
          by_cases hv0 : 0≤v
          rotate_left
          · have hvx:=Lib.hid (show inB v 0 top = false by rw [← Bool.not_eq_true,inB_iff];omega)
            have hvd : decide (0≤v) = false:=decide_eq_false hv0;clear hv0;go_wp2_with fail;go_ret;refine ⟨?_,by rw [← HBE.out];exact HB4.out⟩;rw [HRK.out,HK.out,hz,hvx.out]
            try rfl
          have hvd : decide (0≤v) = true:=decide_eq_true hv0
          by_cases hvt : v≤1099511627776
          rotate_left
          · have hvx:=Lib.hid (show inB v 0 top = false by rw [← Bool.not_eq_true,inB_iff];unfold top;omega)
            have hvd2 : decide (v≤1099511627776) = false:=decide_eq_false hvt;clear hv0 hvt;go_wp2_with fail;go_ret;refine ⟨?_,by rw [← HBE.out];exact HB4.out⟩;rw [HRK.out,HK.out,hz,hvx.out]
            try rfl
          have hvd2 : decide (v≤1099511627776) = true:=decide_eq_true hvt;have hvx:=Lib.hid (show inB v 0 top = true by rw [inB_iff];unfold top;omega);clear hv0 hvt;go_wp2_with fail;go_ret;refine ⟨?_,by rw [← HBE.out];exact HB4.out⟩;rw [HRK.out,HK.out,hz,hvx.out]
          try rfl
        by_cases k2 : k = 2
        · have hKv:=HK.out
          rw [if_neg k1,if_pos k2] at hKv;clear HK;have HK:=Lib.hid hKv;clear hKv;subst k2;clear k1
          by_cases hv : v = 0
          · have hKv:=HK.out
            rw [decide_eq_true hv] at hKv;clear HK;have HK:=Lib.hid hKv;clear hKv;subst hv;go_wp2_with fail;refine (HP.out _).mono ?_;rintro e w5 ⟨rfl,b5⟩;have hb5:=HB4.out.trans (b5.mono (by have:=HB4.out.size;omega));go_wp2_with fail;go_ret;refine ⟨?_,by rw [← HBE.out];exact hb5⟩;rw [HRK.out,HK.out]
            cases PB <;> rfl
          have hv2 : (v == (0 : Int)) = false:=by rw [beq_eq_false_iff_ne];exact hv
          go_wp2_with fail;go_ret;refine ⟨?_,by rw [← HBE.out];exact HB4.out⟩;rw [HRK.out,HK.out,decide_eq_false hv]
          cases PB <;> rfl
        by_cases k3 : k = 3
        · have hKv:=HK.out
          rw [if_neg k1,if_neg k2,if_pos k3] at hKv;clear HK;have HK:=Lib.hid hKv;clear hKv;subst k3;clear k1 k2
          by_cases hv : v = 0
          · have hKv:=HK.out
            rw [decide_eq_true hv] at hKv;clear HK;have HK:=Lib.hid hKv;clear hKv;subst hv;go_wp2_with fail;go_ret;refine ⟨?_,by rw [← HBE.out];exact HB4.out⟩;rw [HRK.out,HK.out,hz]
            try rfl
          have hv2 : (v == (0 : Int)) = false:=by rw [beq_eq_false_iff_ne];exact hv
          go_wp2_with fail;go_ret;refine ⟨?_,by rw [← HBE.out];exact HB4.out⟩;rw [HRK.out,HK.out,hz,decide_eq_false hv]
          try rfl
        go_wp2_with fail;go_ret;refine ⟨?_,by rw [← HBE.out];exact HB4.out⟩;rw [HRK.out,HK.out,if_neg k1,if_neg k2,if_neg k3]
        try rfl
      subst hp1
      by_cases hp2 : p2 = 0
      rotate_left
      · have hz : PZ = false:=by rw [HZ.out,decide_eq_false_iff_not];omega
        by_cases k1 : k = 1
        · have hKv:=HK.out
          rw [if_pos k1] at hKv;clear HK;have HK:=Lib.hid hKv;clear hKv;subst k1
          by_cases hv0 : 0≤v
          rotate_left
          · have hvx:=Lib.hid (show inB v 0 top = false by rw [← Bool.not_eq_true,inB_iff];omega)
            have hvd : decide (0≤v) = false:=decide_eq_false hv0;clear hv0;go_wp2_with fail;go_ret;refine ⟨?_,by rw [← HBE.out];exact HB4.out⟩;rw [HRK.out,HK.out,hz,hvx.out]
            try rfl
          have hvd : decide (0≤v) = true:=decide_eq_true hv0
          by_cases hvt : v≤1099511627776
          rotate_left
          · have hvx:=Lib.hid (show inB v 0 top = false by rw [← Bool.not_eq_true,inB_iff];unfold top;omega)
            have hvd2 : decide (v≤1099511627776) = false:=decide_eq_false hvt;clear hv0 hvt;go_wp2_with fail;go_ret;refine ⟨?_,by rw [← HBE.out];exact HB4.out⟩;rw [HRK.out,HK.out,hz,hvx.out]
            try rfl
          have hvd2 : decide (v≤1099511627776) = true:=decide_eq_true hvt;have hvx:=Lib.hid (show inB v 0 top = true by rw [inB_iff];unfold top;omega);clear hv0 hvt;go_wp2_with fail;go_ret;refine ⟨?_,by rw [← HBE.out];exact HB4.out⟩;rw [HRK.out,HK.out,hz,hvx.out]
          try rfl
        by_cases k2 : k = 2
        · have hKv:=HK.out
          rw [if_neg k1,if_pos k2] at hKv;clear HK;have HK:=Lib.hid hKv;clear hKv;subst k2;clear k1
          by_cases hv : v = 0
          · have hKv:=HK.out
            rw [decide_eq_true hv] at hKv;clear HK;have HK:=Lib.hid hKv;clear hKv;subst hv;go_wp2_with fail;refine (HP.out _).mono ?_;rintro e w5 ⟨rfl,b5⟩;have hb5:=HB4.out.trans (b5.mono (by have:=HB4.out.size;omega));go_wp2_with fail;go_ret;refine ⟨?_,by rw [← HBE.out];exact hb5⟩;rw [HRK.out,HK.out]
            cases PB <;> rfl
          have hv2 : (v == (0 : Int)) = false:=by rw [beq_eq_false_iff_ne];exact hv
          go_wp2_with fail;go_ret;refine ⟨?_,by rw [← HBE.out];exact HB4.out⟩;rw [HRK.out,HK.out,decide_eq_false hv]
          cases PB <;> rfl
        by_cases k3 : k = 3
        · have hKv:=HK.out
          rw [if_neg k1,if_neg k2,if_pos k3] at hKv;clear HK;have HK:=Lib.hid hKv;clear hKv;subst k3;clear k1 k2
          by_cases hv : v = 0
          · have hKv:=HK.out
            rw [decide_eq_true hv] at hKv;clear HK;have HK:=Lib.hid hKv;clear hKv;subst hv;go_wp2_with fail;go_ret;refine ⟨?_,by rw [← HBE.out];exact HB4.out⟩;rw [HRK.out,HK.out,hz]
            try rfl
          have hv2 : (v == (0 : Int)) = false:=by rw [beq_eq_false_iff_ne];exact hv
          go_wp2_with fail;go_ret;refine ⟨?_,by rw [← HBE.out];exact HB4.out⟩;rw [HRK.out,HK.out,hz,decide_eq_false hv]
          try rfl
        go_wp2_with fail;go_ret;refine ⟨?_,by rw [← HBE.out];exact HB4.out⟩;rw [HRK.out,HK.out,if_neg k1,if_neg k2,if_neg k3]
        try rfl
      subst hp2
      by_cases hp3 : p3 = 0
      rotate_left
      · have hz : PZ = false:=by rw [HZ.out,decide_eq_false_iff_not];omega
        by_cases k1 : k = 1
        · have hKv:=HK.out
          rw [if_pos k1] at hKv;clear HK;have HK:=Lib.hid hKv;clear hKv;subst k1
          by_cases hv0 : 0≤v
          rotate_left
          · have hvx:=Lib.hid (show inB v 0 top = false by rw [← Bool.not_eq_true,inB_iff];omega)
            have hvd : decide (0≤v) = false:=decide_eq_false hv0;clear hv0;go_wp2_with fail;go_ret;refine ⟨?_,by rw [← HBE.out];exact HB4.out⟩;rw [HRK.out,HK.out,hz,hvx.out]
            try rfl
          have hvd : decide (0≤v) = true:=decide_eq_true hv0
          by_cases hvt : v≤1099511627776
          rotate_left
          · have hvx:=Lib.hid (show inB v 0 top = false by rw [← Bool.not_eq_true,inB_iff];unfold top;omega)
            have hvd2 : decide (v≤1099511627776) = false:=decide_eq_false hvt;clear hv0 hvt;go_wp2_with fail;go_ret;refine ⟨?_,by rw [← HBE.out];exact HB4.out⟩;rw [HRK.out,HK.out,hz,hvx.out]
            try rfl
          have hvd2 : decide (v≤1099511627776) = true:=decide_eq_true hvt;have hvx:=Lib.hid (show inB v 0 top = true by rw [inB_iff];unfold top;omega);clear hv0 hvt;go_wp2_with fail;go_ret;refine ⟨?_,by rw [← HBE.out];exact HB4.out⟩;rw [HRK.out,HK.out,hz,hvx.out]
          try rfl
        by_cases k2 : k = 2
        · have hKv:=HK.out
          rw [if_neg k1,if_pos k2] at hKv;clear HK;have HK:=Lib.hid hKv;clear hKv;subst k2;clear k1
          by_cases hv : v = 0
          · have hKv:=HK.out
            rw [decide_eq_true hv] at hKv;clear HK;have HK:=Lib.hid hKv;clear hKv;subst hv;go_wp2_with fail;refine (HP.out _).mono ?_;rintro e w5 ⟨rfl,b5⟩;have hb5:=HB4.out.trans (b5.mono (by have:=HB4.out.size;omega));go_wp2_with fail;go_ret;refine ⟨?_,by rw [← HBE.out];exact hb5⟩;rw [HRK.out,HK.out]
            cases PB <;> rfl
          have hv2 : (v == (0 : Int)) = false:=by rw [beq_eq_false_iff_ne];exact hv
          go_wp2_with fail;go_ret;refine ⟨?_,by rw [← HBE.out];exact HB4.out⟩;rw [HRK.out,HK.out,decide_eq_false hv]
          cases PB <;> rfl
        by_cases k3 : k = 3
        · have hKv:=HK.out
          rw [if_neg k1,if_neg k2,if_pos k3] at hKv;clear HK;have HK:=Lib.hid hKv;clear hKv;subst k3;clear k1 k2
          by_cases hv : v = 0
          · have hKv:=HK.out
            rw [decide_eq_true hv] at hKv;clear HK;have HK:=Lib.hid hKv;clear hKv;subst hv;go_wp2_with fail;go_ret;refine ⟨?_,by rw [← HBE.out];exact HB4.out⟩;rw [HRK.out,HK.out,hz]
            try rfl
          have hv2 : (v == (0 : Int)) = false:=by rw [beq_eq_false_iff_ne];exact hv
          go_wp2_with fail;go_ret;refine ⟨?_,by rw [← HBE.out];exact HB4.out⟩;rw [HRK.out,HK.out,hz,decide_eq_false hv]
          try rfl
        go_wp2_with fail;go_ret;refine ⟨?_,by rw [← HBE.out];exact HB4.out⟩;rw [HRK.out,HK.out,if_neg k1,if_neg k2,if_neg k3]
        try rfl
      subst hp3
      by_cases hp4 : p4 = 0
      rotate_left
      · have hz : PZ = false:=by rw [HZ.out,decide_eq_false_iff_not];omega
        by_cases k1 : k = 1
        · have hKv:=HK.out
          rw [if_pos k1] at hKv;clear HK;have HK:=Lib.hid hKv;clear hKv;subst k1
          by_cases hv0 : 0≤v
          rotate_left
          · have hvx:=Lib.hid (show inB v 0 top = false by rw [← Bool.not_eq_true,inB_iff];omega)
            have hvd : decide (0≤v) = false:=decide_eq_false hv0;clear hv0;go_wp2_with fail;go_ret;refine ⟨?_,by rw [← HBE.out];exact HB4.out⟩;rw [HRK.out,HK.out,hz,hvx.out]
            try rfl
          have hvd : decide (0≤v) = true:=decide_eq_true hv0
          by_cases hvt : v≤1099511627776
          rotate_left
          · have hvx:=Lib.hid (show inB v 0 top = false by rw [← Bool.not_eq_true,inB_iff];unfold top;omega)
            have hvd2 : decide (v≤1099511627776) = false:=decide_eq_false hvt;clear hv0 hvt;go_wp2_with fail;go_ret;refine ⟨?_,by rw [← HBE.out];exact HB4.out⟩;rw [HRK.out,HK.out,hz,hvx.out]
            try rfl
          have hvd2 : decide (v≤1099511627776) = true:=decide_eq_true hvt;have hvx:=Lib.hid (show inB v 0 top = true by rw [inB_iff];unfold top;omega);clear hv0 hvt;go_wp2_with fail;go_ret;refine ⟨?_,by rw [← HBE.out];exact HB4.out⟩;rw [HRK.out,HK.out,hz,hvx.out]
          try rfl
        by_cases k2 : k = 2
        · have hKv:=HK.out
          rw [if_neg k1,if_pos k2] at hKv;clear HK;have HK:=Lib.hid hKv;clear hKv;subst k2;clear k1
          by_cases hv : v = 0
          · have hKv:=HK.out
            rw [decide_eq_true hv] at hKv;clear HK;have HK:=Lib.hid hKv;clear hKv;subst hv;go_wp2_with fail;refine (HP.out _).mono ?_;rintro e w5 ⟨rfl,b5⟩;have hb5:=HB4.out.trans (b5.mono (by have:=HB4.out.size;omega));go_wp2_with fail;go_ret;refine ⟨?_,by rw [← HBE.out];exact hb5⟩;rw [HRK.out,HK.out]
            cases PB <;> rfl
          have hv2 : (v == (0 : Int)) = false:=by rw [beq_eq_false_iff_ne];exact hv
          go_wp2_with fail;go_ret;refine ⟨?_,by rw [← HBE.out];exact HB4.out⟩;rw [HRK.out,HK.out,decide_eq_false hv]
          cases PB <;> rfl
        by_cases k3 : k = 3
        · have hKv:=HK.out
          rw [if_neg k1,if_neg k2,if_pos k3] at hKv;clear HK;have HK:=Lib.hid hKv;clear hKv;subst k3;clear k1 k2
          by_cases hv : v = 0
          · have hKv:=HK.out
            rw [decide_eq_true hv] at hKv;clear HK;have HK:=Lib.hid hKv;clear hKv;subst hv;go_wp2_with fail;go_ret;refine ⟨?_,by rw [← HBE.out];exact HB4.out⟩;rw [HRK.out,HK.out,hz]
            try rfl
          have hv2 : (v == (0 : Int)) = false:=by rw [beq_eq_false_iff_ne];exact hv
          go_wp2_with fail;go_ret;refine ⟨?_,by rw [← HBE.out];exact HB4.out⟩;rw [HRK.out,HK.out,hz,decide_eq_false hv]
          try rfl
        go_wp2_with fail;go_ret;refine ⟨?_,by rw [← HBE.out];exact HB4.out⟩;rw [HRK.out,HK.out,if_neg k1,if_neg k2,if_neg k3]
        try rfl
      subst hp4
      by_cases hp5 : p5 = 0
      rotate_left
      · have hz : PZ = false:=by rw [HZ.out,decide_eq_false_iff_not];omega
        by_cases k1 : k = 1
        · have hKv:=HK.out
          rw [if_pos k1] at hKv;clear HK;have HK:=Lib.hid hKv;clear hKv;subst k1
          by_cases hv0 : 0≤v
          rotate_left
          · have hvx:=Lib.hid (show inB v 0 top = false by rw [← Bool.not_eq_true,inB_iff];omega)
            have hvd : decide (0≤v) = false:=decide_eq_false hv0;clear hv0;go_wp2_with fail;go_ret;refine ⟨?_,by rw [← HBE.out];exact HB4.out⟩;rw [HRK.out,HK.out,hz,hvx.out]
            try rfl
          have hvd : decide (0≤v) = true:=decide_eq_true hv0
          by_cases hvt : v≤1099511627776
          rotate_left
          · have hvx:=Lib.hid (show inB v 0 top = false by rw [← Bool.not_eq_true,inB_iff];unfold top;omega)
            have hvd2 : decide (v≤1099511627776) = false:=decide_eq_false hvt;clear hv0 hvt;go_wp2_with fail;go_ret;refine ⟨?_,by rw [← HBE.out];exact HB4.out⟩;rw [HRK.out,HK.out,hz,hvx.out]
            try rfl
          have hvd2 : decide (v≤1099511627776) = true:=decide_eq_true hvt;have hvx:=Lib.hid (show inB v 0 top = true by rw [inB_iff];unfold top;omega);clear hv0 hvt;go_wp2_with fail;go_ret;refine ⟨?_,by rw [← HBE.out];exact HB4.out⟩;rw [HRK.out,HK.out,hz,hvx.out]
          try rfl
        by_cases k2 : k = 2
        · have hKv:=HK.out
          rw [if_neg k1,if_pos k2] at hKv;clear HK;have HK:=Lib.hid hKv;clear hKv;subst k2;clear k1
          by_cases hv : v = 0
          · have hKv:=HK.out
            rw [decide_eq_true hv] at hKv;clear HK;have HK:=Lib.hid hKv;clear hKv;subst hv;go_wp2_with fail;refine (HP.out _).mono ?_;rintro e w5 ⟨rfl,b5⟩;have hb5:=HB4.out.trans (b5.mono (by have:=HB4.out.size;omega));go_wp2_with fail;go_ret;refine ⟨?_,by rw [← HBE.out];exact hb5⟩;rw [HRK.out,HK.out]
            cases PB <;> rfl
          have hv2 : (v == (0 : Int)) = false:=by rw [beq_eq_false_iff_ne];exact hv
          go_wp2_with fail;go_ret;refine ⟨?_,by rw [← HBE.out];exact HB4.out⟩;rw [HRK.out,HK.out,decide_eq_false hv]
          cases PB <;> rfl
        by_cases k3 : k = 3
        · have hKv:=HK.out
          rw [if_neg k1,if_neg k2,if_pos k3] at hKv;clear HK;have HK:=Lib.hid hKv;clear hKv;subst k3;clear k1 k2
          by_cases hv : v = 0
          · have hKv:=HK.out
            rw [decide_eq_true hv] at hKv;clear HK;have HK:=Lib.hid hKv;clear hKv;subst hv;go_wp2_with fail;go_ret;refine ⟨?_,by rw [← HBE.out];exact HB4.out⟩;rw [HRK.out,HK.out,hz]
            try rfl
          have hv2 : (v == (0 : Int)) = false:=by rw [beq_eq_false_iff_ne];exact hv
          go_wp2_with fail;go_ret;refine ⟨?_,by rw [← HBE.out];exact HB4.out⟩;rw [HRK.out,HK.out,hz,decide_eq_false hv]
          try rfl
        go_wp2_with fail;go_ret;refine ⟨?_,by rw [← HBE.out];exact HB4.out⟩;rw [HRK.out,HK.out,if_neg k1,if_neg k2,if_neg k3]
        try rfl
      subst hp5
      by_cases hp6 : p6 = 0
      rotate_left
      · have hz : PZ = false:=by rw [HZ.out,decide_eq_false_iff_not];omega
        by_cases k1 : k = 1
        · have hKv:=HK.out
          rw [if_pos k1] at hKv;clear HK;have HK:=Lib.hid hKv;clear hKv;subst k1
          by_cases hv0 : 0≤v
          rotate_left
          · have hvx:=Lib.hid (show inB v 0 top = false by rw [← Bool.not_eq_true,inB_iff];omega)
            have hvd : decide (0≤v) = false:=decide_eq_false hv0;clear hv0;go_wp2_with fail;go_ret;refine ⟨?_,by rw [← HBE.out];exact HB4.out⟩;rw [HRK.out,HK.out,hz,hvx.out]
            try rfl
          have hvd : decide (0≤v) = true:=decide_eq_true hv0
          by_cases hvt : v≤1099511627776
          rotate_left
          · have hvx:=Lib.hid (show inB v 0 top = false by rw [← Bool.not_eq_true,inB_iff];unfold top;omega)
            have hvd2 : decide (v≤1099511627776) = false:=decide_eq_false hvt;clear hv0 hvt;go_wp2_with fail;go_ret;refine ⟨?_,by rw [← HBE.out];exact HB4.out⟩;rw [HRK.out,HK.out,hz,hvx.out]
            try rfl
          have hvd2 : decide (v≤1099511627776) = true:=decide_eq_true hvt;have hvx:=Lib.hid (show inB v 0 top = true by rw [inB_iff];unfold top;omega);clear hv0 hvt;go_wp2_with fail;go_ret;refine ⟨?_,by rw [← HBE.out];exact HB4.out⟩;rw [HRK.out,HK.out,hz,hvx.out]
          try rfl
        by_cases k2 : k = 2
        · have hKv:=HK.out
          rw [if_neg k1,if_pos k2] at hKv;clear HK;have HK:=Lib.hid hKv;clear hKv;subst k2;clear k1
          by_cases hv : v = 0
          · have hKv:=HK.out
            rw [decide_eq_true hv] at hKv;clear HK;have HK:=Lib.hid hKv;clear hKv;subst hv;go_wp2_with fail;refine (HP.out _).mono ?_;rintro e w5 ⟨rfl,b5⟩;have hb5:=HB4.out.trans (b5.mono (by have:=HB4.out.size;omega));go_wp2_with fail;go_ret;refine ⟨?_,by rw [← HBE.out];exact hb5⟩;rw [HRK.out,HK.out]
            cases PB <;> rfl
          have hv2 : (v == (0 : Int)) = false:=by rw [beq_eq_false_iff_ne];exact hv
          go_wp2_with fail;go_ret;refine ⟨?_,by rw [← HBE.out];exact HB4.out⟩;rw [HRK.out,HK.out,decide_eq_false hv]
          cases PB <;> rfl
        by_cases k3 : k = 3
        · have hKv:=HK.out
          rw [if_neg k1,if_neg k2,if_pos k3] at hKv;clear HK;have HK:=Lib.hid hKv;clear hKv;subst k3;clear k1 k2
          by_cases hv : v = 0
          · have hKv:=HK.out
            rw [decide_eq_true hv] at hKv;clear HK;have HK:=Lib.hid hKv;clear hKv;subst hv;go_wp2_with fail;go_ret;refine ⟨?_,by rw [← HBE.out];exact HB4.out⟩;rw [HRK.out,HK.out,hz]
            try rfl
          have hv2 : (v == (0 : Int)) = false:=by rw [beq_eq_false_iff_ne];exact hv
          go_wp2_with fail;go_ret;refine ⟨?_,by rw [← HBE.out];exact HB4.out⟩;rw [HRK.out,HK.out,hz,decide_eq_false hv]
          try rfl
        go_wp2_with fail;go_ret;refine ⟨?_,by rw [← HBE.out];exact HB4.out⟩;rw [HRK.out,HK.out,if_neg k1,if_neg k2,if_neg k3]
        try rfl
      subst hp6
      have hz : PZ = true:=by rw [HZ.out];simp
      by_cases k1 : k = 1
      · have hKv:=HK.out
        rw [if_pos k1] at hKv;clear HK;have HK:=Lib.hid hKv;clear hKv;subst k1
        by_cases hv0 : 0≤v
        rotate_left
        · have hvx:=Lib.hid (show inB v 0 top = false by rw [← Bool.not_eq_true,inB_iff];omega)
          have hvd : decide (0≤v) = false:=decide_eq_false hv0;clear hv0;go_wp2_with fail;go_ret;refine ⟨?_,by rw [← HBE.out];exact HB4.out⟩;rw [HRK.out,HK.out,hz,hvx.out]
          try rfl
        have hvd : decide (0≤v) = true:=decide_eq_true hv0
        by_cases hvt : v≤1099511627776
        rotate_left
        · have hvx:=Lib.hid (show inB v 0 top = false by rw [← Bool.not_eq_true,inB_iff];unfold top;omega)
          have hvd2 : decide (v≤1099511627776) = false:=decide_eq_false hvt;clear hv0 hvt;go_wp2_with fail;go_ret;refine ⟨?_,by rw [← HBE.out];exact HB4.out⟩;rw [HRK.out,HK.out,hz,hvx.out]
          try rfl
        have hvd2 : decide (v≤1099511627776) = true:=decide_eq_true hvt;have hvx:=Lib.hid (show inB v 0 top = true by rw [inB_iff];unfold top;omega);clear hv0 hvt
        by_cases hm0 : m = 0
        · subst hm0
          have hl0 : l = []:=List.length_eq_zero_iff.1 HM.out.symm;go_wp2_with fail;go_ret;refine ⟨?_,by rw [← HBE.out];exact HB4.out⟩;rw [HRK.out,HK.out,hz,hvx.out,decide_eq_true hl0]
          try rfl
        have hl0 : ¬ l = []:=fun h=>hm0 (by rw [HM.out,h];rfl)
        have hm1 : ((m : Int) == (0 : Int)) = false:=by rw [beq_eq_false_iff_ne];omega
        go_wp2_with fail;go_ret;refine ⟨?_,by rw [← HBE.out];exact HB4.out⟩;rw [HRK.out,HK.out,hz,hvx.out,decide_eq_false hl0]
        try rfl
      by_cases k2 : k = 2
      · have hKv:=HK.out
        rw [if_neg k1,if_pos k2] at hKv;clear HK;have HK:=Lib.hid hKv;clear hKv;subst k2;clear k1
        by_cases hv : v = 0
        · have hKv:=HK.out
          rw [decide_eq_true hv] at hKv;clear HK;have HK:=Lib.hid hKv;clear hKv;subst hv;go_wp2_with fail;refine (HP.out _).mono ?_;rintro e w5 ⟨rfl,b5⟩;have hb5:=HB4.out.trans (b5.mono (by have:=HB4.out.size;omega));go_wp2_with fail;go_ret;refine ⟨?_,by rw [← HBE.out];exact hb5⟩;rw [HRK.out,HK.out]
          cases PB <;> rfl
        have hv2 : (v == (0 : Int)) = false:=by rw [beq_eq_false_iff_ne];exact hv
        go_wp2_with fail;go_ret;refine ⟨?_,by rw [← HBE.out];exact HB4.out⟩;rw [HRK.out,HK.out,decide_eq_false hv]
        cases PB <;> rfl
      by_cases k3 : k = 3
      · have hKv:=HK.out
        rw [if_neg k1,if_neg k2,if_pos k3] at hKv;clear HK;have HK:=Lib.hid hKv;clear hKv;subst k3;clear k1 k2
        by_cases hv : v = 0
        · have hKv:=HK.out
          rw [decide_eq_true hv] at hKv;clear HK;have HK:=Lib.hid hKv;clear hKv;subst hv;go_wp2_with fail;go_ret;refine ⟨?_,by rw [← HBE.out];exact HB4.out⟩;rw [HRK.out,HK.out,hz]
          try rfl
        have hv2 : (v == (0 : Int)) = false:=by rw [beq_eq_false_iff_ne];exact hv
        go_wp2_with fail;go_ret;refine ⟨?_,by rw [← HBE.out];exact HB4.out⟩;rw [HRK.out,HK.out,hz,decide_eq_false hv]
        try rfl
      go_wp2_with fail;go_ret;refine ⟨?_,by rw [← HBE.out];exact HB4.out⟩;rw [HRK.out,HK.out,if_neg k1,if_neg k2,if_neg k3]
      try rfl
end Go.Proofs.YtcgalmnllegnbaaGreat

namespace Go.Proofs.YtcgalmnllegnbaaGreat
set_option linter.unusedVariables false
set_option linter.unusedSimpArgs false
set_option maxRecDepth 100000
open Go.RowKit
open Dot Evt
open Ms (Mem)
def hdD (m : Ms.Msg) : Bool:=Ms.nodeB m.frm && (Ms.nodeB m.to && (!decide (m.frm = m.to) && (Ms.membersB m.mem && inB m.seq 0 1099511627776)))
def kdD (m : Ms.Msg) : Bool :=
  if m.kind = 1 then decide (m.node = 0) && (Ms.noSeen m && decide (m.ev = []))
  else if m.kind = 2∨m.kind = 3 then Ms.nodeB m.node && (Ms.noSeen m && decide (m.ev = []))
  else if m.kind = 4 then decide (m.seq≤1) && (decide (m.node = 0) && (rightB m.u m.more && decide (m.ev = [])))
  else if m.kind = 5 then decide (m.seq = 0) && (decide (m.node = 0) && (Ms.noSeen m && (decide (m.ev.length≤768) && m.ev.all rightE)))
  else false
theorem right_hk (m : Ms.Msg) : Ms.rightM m = (hdD m && kdD m):=by
  rw [← Ms.right_D]
  unfold Ms.rightD hdD kdD
  have hml : (decide (m.mem.length≤8) && Ms.membersB m.mem) = Ms.membersB m.mem:=by
    cases h : Ms.membersB m.mem with
    | false=>simp
    | true=>simp [Ms.members_len h]
  rw [hml,show Ms.top = 1099511627776 from rfl]
  simp only [Bool.and_assoc]
theorem rright06_b (x : MgV) (w : World) (h : MgIn w x) : Calls Tryz.prog 64 #[.agg (uc x.m.u (.slice x.A1 x.n1 x.c1))] w fun e w'=>e = .returned (.bool (rightB x.m.u x.m.more))∧Below w.heap.size w w':=rright_any x.m.u h.ok.u x.A1 x.n1 x.c1 x.m.more w h.ok.more
set_option maxHeartbeats 8000000 in
theorem rright17_any (x : MgV) (w : World) (h : MgIn w x) : Calls Tryz.prog 30 #[.agg x.cs] w fun e w'=>e = .returned (.bool (Ms.rightM x.m))∧Below w.heap.size w w':=by
  obtain ⟨R,hR⟩ : ∃ R,R = Ms.rightM x.m:=⟨_,rfl⟩;rw [← hR];rw [right_hk] at hR;have HR:=Lib.hid hR;have HIN:=Lib.hid h;have HAT:=Lib.hid (mgv_at x);have SZ:=Lib.hid x.size
  have h2:=fun w=>rnode_bel x.m.frm w
  have h3:=fun w=>rnode_bel x.m.to w
  have HN:=Lib.hid fun w=>rnode_bel x.m.node w
  have h5:=fun (w' : World) (hb : Below w.heap.size w w')=>rmembers_any x.A3 x.n3 x.c3 x.m.mem w' (h.below hb).ok.mem
  have HU:=Lib.hid fun (w' : World) (g : Nat) (k : Blk w' g 30 x.cs)=>mgv_u x h.ok.u k
  have HUL:=Lib.hid h.ok.u;have HUM:=Lib.hid (show (x.m.u.map (Value.int .i64)).length = 8 by rw [List.length_map,h.ok.u]);have WU:=Lib.hid h.wu;have WZ:=Lib.hid (show Wf zeros8 from fun y hy=>by simp [zeros8] at hy;subst hy;exact wf_of (by omega) (by omega));have NS:=Lib.hid (show Ms.noSeen x.m = (decide (x.m.u = zeros8) && decide (x.m.more = [])) from rfl)
  have HSET:=Lib.hid fun (w' : World)=>rset_any x h.ok.u w'
  have HR6:=Lib.hid fun (w' : World) (hb : Below w.heap.size w w')=>rright06_b x w' (h.below hb)
  have HRK:=Lib.hid fun (w' : World) (hb : Below w.heap.size w w')=>h.ok.ev.below hb
  have HN2:=Lib.hid h.ok.ev.1;have hnm:=h.ok.more.1
  have hel : x.m.ev.length = x.n2:=by rw [h.ok.es,List.length_map,h.ok.ev.1]
  have HEL:=Lib.hid hel;have HES:=Lib.hid h.ok.es;have hh : hdD x.m = (Ms.nodeB x.m.frm && (Ms.nodeB x.m.to && (!decide (x.m.frm = x.m.to) && (Ms.membersB x.m.mem && inB x.m.seq 0 1099511627776)))):=rfl;clear h hR hel
  generalize hC : x.cs = C at *
  clear hC;have b1:=HAT.out
  go_enter Tryz.func30,Tryz.ntmps30
  go_upto_region 1 with fail
  refine nameW ?_;intro W hW;obtain ⟨g,hg⟩ : ∃ g,g = w.heap.size:=⟨_,rfl⟩;rw [← hg]
  have kb : Blk W g 30 C:=by rw [hW,hg];exact Blk.new w _ _
  have gb : Below w.heap.size w W:=by rw [hW];exact (Below.refl _ _).alloc (Nat.le_refl _) _
  clear hW hg
  have cells : ∀ w',Below W.heap.size W w'→w'.cell? ⟨g,1,none⟩ = some (.int .i64 x.m.frm)∧w'.cell? ⟨g,2,none⟩ = some (.int .i64 x.m.to)∧w'.cell? ⟨g,3,none⟩ = some (.int .i64 x.m.seq)∧w'.cell? ⟨g,15,none⟩ = some (.slice x.A3 x.n3 x.c3):=fun w' hb=>by
    have k:=kb.below hb kb.lt;exact ⟨(k.cell 1).trans b1.2.1,(k.cell 2).trans b1.2.2.1,(k.cell 3).trans b1.2.2.2.1,(k.cell 15).trans b1.2.2.2.2.2.2.2⟩
  have HCL:=Lib.hid cells;obtain ⟨t1,t2,t3,t15⟩:=cells W (Below.refl _ _);have H5:=Lib.hid h5;clear b1 h5 cells;have gW : Below W.heap.size W W:=Below.refl _ _
  cases c2 : Ms.nodeB x.m.frm
  case false =>
    have hr : R = false:=by rw [HR.out,hh,c2];rfl
    subst hr;clear HR;rw [c2] at h2;have H2:=Lib.hid h2;clear h2 h3 hh c2 kb;go_wp2_with fail;refine (H2.out _).mono ?_;rintro e w1 ⟨rfl,bb⟩;have gb:=gb.trans (bb.mono gb.size);have gW:=gW.trans (bb.mono gW.size);obtain ⟨t1,t2,t3,t15⟩:=HCL.out w1 gW;clear bb;go_wp2_with fail;go_ret;exact ⟨rfl,gb⟩
  rw [c2] at h2 hh;have H2:=Lib.hid h2;clear h2 c2
  cases c3 : Ms.nodeB x.m.to
  case false =>
    have hr : R = false:=by rw [HR.out,hh,c3];rfl
    subst hr;clear HR;rw [c3] at h3;have H3:=Lib.hid h3;clear h3 hh c3 kb;go_wp2_with fail;refine (H2.out _).mono ?_;rintro e w1 ⟨rfl,bb⟩;have gb:=gb.trans (bb.mono gb.size);have gW:=gW.trans (bb.mono gW.size);obtain ⟨t1,t2,t3,t15⟩:=HCL.out w1 gW;clear bb;go_wp2_with fail;refine (H3.out _).mono ?_;rintro e w2 ⟨rfl,bb⟩;have gb:=gb.trans (bb.mono gb.size);have gW:=gW.trans (bb.mono gW.size);obtain ⟨t1,t2,t3,t15⟩:=HCL.out w2 gW;clear bb;go_wp2_with fail;go_ret;exact ⟨rfl,gb⟩
  rw [c3] at h3 hh;have H3:=Lib.hid h3;clear h3 c3
  by_cases c4 : x.m.frm = x.m.to
  · have hr : R = false:=by rw [HR.out,hh,decide_eq_true c4];rfl
    subst hr;clear HR
    have hq : ((x.m.frm : Int) == x.m.to) = true:=by rw [c4];simp
    clear hh c4 kb;go_wp2_with fail;refine (H2.out _).mono ?_;rintro e w1 ⟨rfl,bb⟩;have gb:=gb.trans (bb.mono gb.size);have gW:=gW.trans (bb.mono gW.size);obtain ⟨t1,t2,t3,t15⟩:=HCL.out w1 gW;clear bb;go_wp2_with fail;refine (H3.out _).mono ?_;rintro e w2 ⟨rfl,bb⟩;have gb:=gb.trans (bb.mono gb.size);have gW:=gW.trans (bb.mono gW.size);obtain ⟨t1,t2,t3,t15⟩:=HCL.out w2 gW;clear bb;go_wp2_with fail;go_ret;exact ⟨rfl,gb⟩
  have hq : ((x.m.frm : Int) == x.m.to) = false:=by rw [beq_eq_false_iff_ne];exact c4
  rw [decide_eq_false c4] at hh;clear c4
  cases c5 : Ms.membersB x.m.mem
  case false =>
    have hr : R = false:=by rw [HR.out,hh,c5];rfl
    subst hr;clear HR;clear hh kb;go_wp2_with fail;refine (H2.out _).mono ?_;rintro e w1 ⟨rfl,bb⟩;have gb:=gb.trans (bb.mono gb.size);have gW:=gW.trans (bb.mono gW.size);obtain ⟨t1,t2,t3,t15⟩:=HCL.out w1 gW;clear bb;go_wp2_with fail;refine (H3.out _).mono ?_;rintro e w2 ⟨rfl,bb⟩;have gb:=gb.trans (bb.mono gb.size);have gW:=gW.trans (bb.mono gW.size);obtain ⟨t1,t2,t3,t15⟩:=HCL.out w2 gW;clear bb;have h5:=H5.out w2 gb;rw [c5] at h5;have H6:=Lib.hid h5;clear h5 c5;go_wp2_with fail;refine (H6.out).mono ?_;rintro e w4 ⟨rfl,bb⟩;have gb:=gb.trans (bb.mono gb.size);have gW:=gW.trans (bb.mono gW.size);obtain ⟨t1,t2,t3,t15⟩:=HCL.out w4 gW;clear bb;go_wp2_with fail;go_ret;exact ⟨rfl,gb⟩
  rw [c5] at hh;have hs0 : inB x.m.seq 0 1099511627776 = (decide (0≤x.m.seq) && decide (x.m.seq≤1099511627776)):=rfl;go_wp2_with fail;refine (H2.out _).mono ?_;rintro e w1 ⟨rfl,bb⟩;have gb:=gb.trans (bb.mono gb.size);have gW:=gW.trans (bb.mono gW.size);obtain ⟨t1,t2,t3,t15⟩:=HCL.out w1 gW;clear bb;go_wp2_with fail;refine (H3.out _).mono ?_;rintro e w2 ⟨rfl,bb⟩;have gb:=gb.trans (bb.mono gb.size);have gW:=gW.trans (bb.mono gW.size);obtain ⟨t1,t2,t3,t15⟩:=HCL.out w2 gW;clear bb;have h5:=H5.out w2 gb;rw [c5] at h5;have H6:=Lib.hid h5;clear h5 c5 H2 H3;go_wp2_with fail;refine (H6.out).mono ?_;rintro e w4 ⟨rfl,bb⟩;have gb:=gb.trans (bb.mono gb.size);have gW:=gW.trans (bb.mono gW.size);obtain ⟨t1,t2,t3,t15⟩:=HCL.out w4 gW;clear bb
  by_cases c6 : x.m.seq < 0
  · have hr : R = false:=by rw [HR.out,hh,hs0,decide_eq_false (by omega)];rfl
    subst hr;clear HR hh hs0 kb;go_wp2_with fail;go_ret;exact ⟨rfl,gb⟩
  by_cases c7 : (1099511627776 : Int) < x.m.seq
  · have hr : R = false:=by rw [HR.out,hh,hs0,decide_eq_true (show 0≤x.m.seq by omega),decide_eq_false (by omega)];rfl
    subst hr;clear HR hh hs0 kb;go_wp2_with fail;go_ret;exact ⟨rfl,gb⟩
  have hr : R = kdD x.m:=by rw [HR.out,hh,hs0,decide_eq_true (show 0≤x.m.seq by omega),decide_eq_true (show x.m.seq≤1099511627776 by omega)];rfl
  have HRK2:=Lib.hid hr;have kb:=kb.below gW kb.lt;have r5:=HU.out _ _ kb;have k13 : w4.cell? ⟨g,13,none⟩ = some (.slice x.A1 x.n1 x.c1):=(kb.cell 13).trans HAT.out.2.2.2.2.2.1;clear hr HR hh hs0 t1 t2 t15 H5 H6 HCL gW
  go_upto_region 3 with fail
  obtain ⟨NSb,hNS⟩ : ∃ b,b = Ms.noSeen x.m:=⟨_,rfl⟩;have HNS:=Lib.hid hNS;clear hNS
  go_cut [3] (fun s wx=>s = .bool NSb∧wx = w4)
  case first =>
    by_cases hz : x.m.u = zeros8
    · have hd : decide (x.m.u = zeros8) = true:=decide_eq_true hz
      have hres : NSb = ((x.n1 : Int) == 0):=by
        rw [HNS.out,NS.out,hd,Bool.true_and];rw [Bool.eq_iff_iff,decide_eq_true_eq,beq_iff_eq]
        constructor
        · intro e;rw [e] at hnm;simp at hnm;omega
        · intro e;exact List.eq_nil_of_length_eq_zero (by omega)
      clear hz hnm
      go_wp2_with first
        | ((with_reducible refine wpList_ldm row8 r5 HUM.out ?_ ?_);rotate_left;(rfl);rw [show (x.m.u.map (Value.int .i64)).toArray = uI x.m.u from rfl])
        | ((with_reducible refine wpList_eq8 (A:=x.m.u) (B:=zeros8) HUL.out rfl WU.out WZ.out ?_ ?_ ?_);rotate_left;(rfl);(rfl);rw [hd])
      go_meet;exact ⟨by rw [hres],rfl⟩
    · have hd : decide (x.m.u = zeros8) = false:=decide_eq_false hz
      have hres : NSb = false:=by rw [HNS.out,NS.out,hd];rfl
      clear hz hnm
      go_wp2_with first
        | ((with_reducible refine wpList_ldm row8 r5 HUM.out ?_ ?_);rotate_left;(rfl);rw [show (x.m.u.map (Value.int .i64)).toArray = uI x.m.u from rfl])
        | ((with_reducible refine wpList_eq8 (A:=x.m.u) (B:=zeros8) HUL.out rfl WU.out WZ.out ?_ ?_ ?_);rotate_left;(rfl);(rfl);rw [hd])
      go_meet;exact ⟨by rw [hres],rfl⟩
  case rest =>
    obtain ⟨rfl,rfl⟩:=hcut;clear r5 k13 hnm;have t4 : wc.cell? ⟨g,4,none⟩ = some (.int .i64 x.m.node):=(kb.cell 4).trans HAT.out.2.2.2.2.1;have t14 : wc.cell? ⟨g,14,none⟩ = some (.slice x.A2 x.n2 x.c2):=(kb.cell 14).trans HAT.out.2.2.2.2.2.2.1;obtain ⟨Zb,hZb⟩ : ∃ b,b = decide (x.m.node = 0):=⟨_,rfl⟩;have hz : ((x.m.node : Int) == 0) = Zb:=hZb.symm;obtain ⟨Eb,hEb⟩ : ∃ b,b = decide (x.m.ev = []):=⟨_,rfl⟩
    have he : ((x.n2 : Int) == 0) = Eb:=by
      rw [hEb,Bool.eq_iff_iff,decide_eq_true_eq,beq_iff_eq]
      have:=HEL.out
      constructor
      · intro e;exact List.eq_nil_of_length_eq_zero (by omega)
      · intro e;rw [e] at this;simp at this;omega
    have HZ:=Lib.hid hZb;have HE:=Lib.hid hEb;clear hZb hEb
    have hkd : kdD x.m = (if x.m.kind = 1 then Zb && (NSb && Eb) else if x.m.kind = 2∨x.m.kind = 3 then Ms.nodeB x.m.node && (NSb && Eb) else if x.m.kind = 4 then decide (x.m.seq≤1) && (Zb && (rightB x.m.u x.m.more && Eb)) else if x.m.kind = 5 then decide (x.m.seq = 0) && (Zb && (NSb && (decide (x.m.ev.length≤768) && x.m.ev.all rightE))) else false):=by
      rw [HZ.out,HE.out,HNS.out];rfl
    rw [hkd] at HRK2;clear hkd
    by_cases k1 : x.m.kind = 1
    · rw [if_pos k1] at HRK2
      have t0 : wc.cell? ⟨g,0,none⟩ = some (.int .i64 1):=by rw [kb.cell,HAT.out.1,k1]
      clear k1 kb
      cases Zb <;> cases NSb <;> cases Eb
      all_goals (
        go_wp2_with fail;go_ret;rw [HRK2.out]
        exact ⟨rfl,gb⟩)
    rw [if_neg k1] at HRK2
    have q1 : ((x.m.kind : Int) == 1) = false:=by rw [beq_eq_false_iff_ne];exact k1
    by_cases k2 : x.m.kind = 2∨x.m.kind = 3
    · rw [if_pos k2] at HRK2
      have hn:=HN.out
      generalize Ms.nodeB x.m.node = NB at *
      have HN:=Lib.hid hn;clear hn q1 k1
      rcases k2 with k2 | k2
      · have t0 : wc.cell? ⟨g,0,none⟩ = some (.int .i64 2):=by rw [kb.cell,HAT.out.1,k2]
        clear k2 kb
        cases NB <;> cases NSb <;> cases Eb
        all_goals (
          go_wp2_with fail;refine (HN.out _).mono ?_;rintro e w5 ⟨rfl,b5⟩;have gb:=gb.trans (b5.mono gb.size);have t14 : w5.cell? ⟨g,14,none⟩ = some (.slice x.A2 x.n2 x.c2):=(b5.cell (World.block_lt_of_cell? _ _ t14)).trans t14;go_wp2_with fail;go_ret;rw [HRK2.out]
          exact ⟨rfl,gb⟩)
      · have t0 : wc.cell? ⟨g,0,none⟩ = some (.int .i64 3):=by rw [kb.cell,HAT.out.1,k2]
        clear k2 kb
        cases NB <;> cases NSb <;> cases Eb
        all_goals (
          go_wp2_with fail;refine (HN.out _).mono ?_;rintro e w5 ⟨rfl,b5⟩;have gb:=gb.trans (b5.mono gb.size);have t14 : w5.cell? ⟨g,14,none⟩ = some (.slice x.A2 x.n2 x.c2):=(b5.cell (World.block_lt_of_cell? _ _ t14)).trans t14;go_wp2_with fail;go_ret;rw [HRK2.out]
          exact ⟨rfl,gb⟩)
    rw [if_neg k2] at HRK2
    by_cases k4 : x.m.kind = 4
    · rw [if_pos k4] at HRK2
      have t0 : wc.cell? ⟨g,0,none⟩ = some (.int .i64 4):=by rw [kb.cell,HAT.out.1,k4]
      clear k4 k2 k1 q1
      by_cases hs : x.m.seq≤1
      · rw [decide_eq_true hs] at HRK2
        cases Zb
        case false =>
          go_wp2_with fail;go_ret;rw [HRK2.out];exact ⟨rfl,gb⟩
        case true =>
          have h6:=fun (w' : World) (hb : Below w.heap.size w w')=>HR6.out w' hb
          generalize rightB x.m.u x.m.more = RB at *
          have H6:=Lib.hid h6;clear h6 HR6
          cases RB <;> cases Eb
          all_goals (
            go_wp2_with ((with_reducible refine wpList_ldg rowMg kb SZ.out ?_ ?_ ?_);rotate_left;(rfl);(rfl))
            refine (HSET.out _).mono ?_;rintro e w5 ⟨rfl,b5⟩;have gb:=gb.trans (b5.mono gb.size);have kb:=kb.below b5 kb.lt;go_wp2_with fail;refine (H6.out _ gb).mono ?_;rintro e w6 ⟨rfl,b6⟩;have gb:=gb.trans (b6.mono gb.size);have kb:=kb.below b6 kb.lt;have t14 : w6.cell? ⟨g,14,none⟩ = some (.slice x.A2 x.n2 x.c2):=(kb.cell 14).trans HAT.out.2.2.2.2.2.2.1;go_wp2_with fail;go_ret;rw [HRK2.out]
            exact ⟨rfl,gb⟩)
      · rw [decide_eq_false hs] at HRK2
        go_wp2_with fail;go_ret;rw [HRK2.out];exact ⟨rfl,gb⟩
    rw [if_neg k4] at HRK2
    have q2 : ((x.m.kind : Int) == 2) = false:=by rw [beq_eq_false_iff_ne];exact fun e=>k2 (.inl e)
    have q3 : ((x.m.kind : Int) == 3) = false:=by rw [beq_eq_false_iff_ne];exact fun e=>k2 (.inr e)
    have q4 : ((x.m.kind : Int) == 4) = false:=by rw [beq_eq_false_iff_ne];exact k4
    by_cases k5 : x.m.kind = 5
    · rw [if_pos k5] at HRK2
      have t0 : wc.cell? ⟨g,0,none⟩ = some (.int .i64 5):=by rw [kb.cell,HAT.out.1,k5]
      clear k5 k4 k2 k1 q1 q2 q3 q4
      by_cases hs : x.m.seq = 0
      · have hs2 : ((x.m.seq : Int) != 0) = false:=by rw [hs];rfl
        rw [decide_eq_true hs] at HRK2
        have hz2 : ((x.m.node : Int) != 0) = !Zb:=by rw [← hz];rfl
        cases Zb
        case false =>
          go_wp2_with fail;go_ret;rw [HRK2.out];exact ⟨rfl,gb⟩
        case true =>
          cases NSb
          case false =>
            go_wp2_with fail;go_ret;rw [HRK2.out];exact ⟨rfl,gb⟩
          case true =>
            by_cases hbig : 768 < x.n2
            · rw [decide_eq_false (show ¬ x.m.ev.length≤768 by rw [HEL.out];omega)] at HRK2
              have hd : decide ((768 : Int) < (x.n2 : Int)) = true:=decide_eq_true (by omega);go_wp2_with fail;go_ret;rw [HRK2.out];exact ⟨rfl,gb⟩
            · rw [decide_eq_true (show x.m.ev.length≤768 by rw [HEL.out];omega)] at HRK2
              have hd : decide ((768 : Int) < (x.n2 : Int)) = false:=decide_eq_false (by omega)
              have hr : R = x.m.ev.all rightE:=by rw [HRK2.out];rfl
              rw [HES.out] at hr;have HR:=Lib.hid hr;clear hr HRK2 kb hs;go_wp2_with fail
              go_loopw [124] (fun i wr=>∃ k : Nat,k≤x.n2∧i = .int .i64 k∧(∀ j (h : j < x.xs.length),j < k→rightE (x.xs[j]).e = true)∧Below w.heap.size w wr) (fun i _=>x.n2 - (intOf i).toNat)
              case atStart=>exact ⟨0,by omega,rfl,fun j _ hj=>by omega,gb⟩
              case round =>
                clear gb;obtain ⟨k,hk,rfl,hall,gb⟩:=hrel;have HA:=Lib.hid hall;clear hall
                by_cases hlt : k < x.n2
                · have hkl : k < x.xs.length:=by rw [← HN2.out];exact hlt
                  obtain ⟨hok,ad,hA,hab,hcell⟩:=(HRK.out wr gb).2 k _ (List.getElem?_eq_getElem hkl)
                  have HOFF:=Lib.hid fun h=>all_offE hkl h
                  have HAK:=Lib.hid fun (h : rightE (x.xs[k]).e = true) (j : Nat) (hj : j < x.xs.length) (hjk : j < k + 1)=>(by
                    by_cases e : j = k
                    · subst e;exact h
                    · exact HA.out j hj (by omega) : rightE (x.xs[j]).e = true)
                  have hright:=fun (w' : World) (h : RdD w' w'.heap.size (x.xs[k]).A (x.xs[k]).m (x.xs[k]).e.l)=>eright07_any (x.xs[k]).e hok.1 (x.xs[k]).A (x.xs[k]).m (x.xs[k]).c w' h (by have:=hok.2.2;omega)
                  generalize x.xs[k] = y at *
                  rw [hA] at *;obtain ⟨cs,hcs⟩ : ∃ cs,cs = y.cs:=⟨_,rfl⟩;have hec : ec y.e (.slice y.A y.m y.c) = cs:=hcs.symm;rw [← hcs] at hcell;rw [hec] at hright;have HSZ:=Lib.hid (show cs.size = 14 by rw [hcs];rfl);have H1C:=Lib.hid (show cs.all (·.oneCell') = true by rw [hcs];exact y.one);have HC:=Lib.hid hcell;have HRT:=Lib.hid hright
                  have HOK:=Lib.hid fun (w' : World) (h : Below wr.heap.size wr w')=>((hok.2.1.below (h.mono gb.size)).more (show w.heap.size≤w'.heap.size by have:=h.size;have:=gb.size;omega))
                  have hk0 : (0 : Int)≤(k : Int):=by omega
                  have hkm : (k : Int) < (x.n2 : Int):=by omega
                  clear hcs hec hcell hok hright
                  go_upto_region 17 with fail
                  go_upto_region 18 with first
                    | ((with_reducible refine wpList_lda rowE HC.out HSZ.out ?_ ?_);rotate_left;(rfl))
                    | ((with_reducible refine wpList_st rowE (Blk.new _ _ _) HSZ.out ?_ H1C.out ?_ ?_ ?_);(rfl);rotate_left;(rfl);(rfl);intro w6 k6 g6 z6)
                  have bA : Below wr.heap.size wr w6:=new_below g6;have gb6:=gb.trans (bA.mono gb.size);have rd6:=HOK.out w6 bA;obtain ⟨gr,hgr2⟩ : ∃ gr,gr = wr.heap.size:=⟨_,rfl⟩;rw [← hgr2] at k6 ⊢;clear hgr2 g6 z6 bA gb
                  cases hx : rightE y.e
                  case false =>
                    have hr : R = false:=by rw [HR.out,HOFF.out hx]
                    subst hr;have hrt:=HRT.out w6 rd6;rw [hx] at hrt;have HRT2:=Lib.hid hrt;clear hx hrt HRT HR
                    go_wp2_with ((with_reducible refine wpList_ld rowE k6 HSZ.out ?_ ?_);rotate_left;(rfl))
                    refine HRT2.out.mono ?_;rintro e w7 ⟨rfl,b7⟩;have gb7:=gb6.trans (b7.mono gb6.size);go_wp2_with fail;go_ret;exact ⟨rfl,gb7⟩
                  case true =>
                    have hrt:=HRT.out w6 rd6;rw [hx] at hrt;have HRT2:=Lib.hid hrt;have HX:=Lib.hid hx;clear hx hrt HRT
                    go_wp2_with ((with_reducible refine wpList_ld rowE k6 HSZ.out ?_ ?_);rotate_left;(rfl))
                    refine HRT2.out.mono ?_;rintro e w7 ⟨rfl,b7⟩;have gb7:=gb6.trans (b7.mono gb6.size);go_wp2_with fail
                    go_roundw
                    case rel=>exact ⟨k + 1,by omega,by go_num,HAK.out HX.out,gb7⟩
                    case measure=>simp [intOf];omega
                · have hkd : decide ((k : Int) < (x.n2 : Int)) = false:=decide_eq_false (by omega)
                  have hr : R = true:=by
                    rw [HR.out,List.all_eq_true];intro e he;obtain ⟨y,hy,rfl⟩:=List.mem_map.1 he;obtain ⟨i,hi,rfl⟩:=List.getElem_of_mem hy;exact HA.out i hi (by have:=HN2.out;omega)
                  subst hr;go_wp2_with fail;go_ret;exact ⟨rfl,gb⟩
      · have hs2 : ((x.m.seq : Int) != 0) = true:=by rw [bne_iff_ne];exact hs
        rw [decide_eq_false hs] at HRK2;go_wp2_with fail;go_ret;rw [HRK2.out];exact ⟨rfl,gb⟩
    · rw [if_neg k5] at HRK2
      have q5 : ((x.m.kind : Int) == 5) = false:=by rw [beq_eq_false_iff_ne];exact k5
      have t0 : wc.cell? ⟨g,0,none⟩ = some (.int .i64 x.m.kind):=(kb.cell 0).trans HAT.out.1;go_wp2_with fail;go_ret;rw [HRK2.out];exact ⟨rfl,gb⟩
end Go.Proofs.YtcgalmnllegnbaaGreat
