import Derived.Test.YtfpenfgmpbdakaaGreatEvThrW
import Derived.Test.YtfpenfgmpbdakaaGreatBytes
import Derived.Test.YtfpenfgmpbdakaaGreatStoWalks
import Derived.Test.YtfpenfgmpbdakaaGreatEvMem
import Derived.Test.YtfpenfgmpbdakaaGreatMem
import Derived.Test.YtfpenfgmpbdakaaGreatChecked
import Derived.Test.YtfpenfgmpbdakaaGreatVintPut
import Derived.Test.YtfpenfgmpbdakaaGreatVintWalks
import Derived.Laws.CopyOwn
import Derived.Test.YtfpenfgmpbdakaaGreatDiskWords
import Derived.Test.YtfpenfgmpbdakaaGreatLogOps
import Derived.Lib.SlBytesConst
import Derived.Test.YtfpenfgmpbdakaaGreatStop
import Derived.Test.YtfpenfgmpbdakaaGreatVintMath
import Derived.Test.YtfpenfgmpbdakaaGreatFrameRead
import Derived.Test.YtfpenfgmpbdakaaGreatEvNoP
import Derived.Test.YtfpenfgmpbdakaaGreatStep
import Derived.Deep.RegionHeld3
import Derived.Test.YtfpenfgmpbdakaaGreatFrameAll
import Derived.Test.YtfpenfgmpbdakaaGreatSls
import Derived.Test.YtfpenfgmpbdakaaGreatFramePut
import Derived.Test.YtfpenfgmpbdakaaGreatDiskMath
import Derived.Test.YtfpenfgmpbdakaaGreatDisk2
import Derived.Test.YtfpenfgmpbdakaaGreatStepG
namespace Go.Proofs.YtfpenfgmpbdakaaGreat
set_option linter.unusedVariables false
set_option linter.unusedSimpArgs false
set_option maxRecDepth 100000
open Go.RowKit
open Dot Evt
def encE (x : Ev) : List UInt8:=encN ((numsE x).map Int.toNat)
theorem right_facts {x : Ev} (hp : x.p.length = 7) (h : rightE x = true) :
    ((0≤x.d.1∧x.d.1≤1099511627776)∧(0≤x.d.2∧x.d.2≤1099511627776)∧(0≤x.t∧x.t≤1099511627776)∧(1≤x.k∧x.k≤3)∧(0≤x.w∧x.w≤1099511627776)∧(0≤x.v∧x.v≤1099511627776)) ∧
    ((0≤x.p.getD 0 0∧x.p.getD 0 0≤1099511627776)∧(0≤x.p.getD 1 0∧x.p.getD 1 0≤1099511627776)∧(0≤x.p.getD 2 0∧x.p.getD 2 0≤1099511627776)∧(0≤x.p.getD 3 0∧x.p.getD 3 0≤1099511627776)∧(0≤x.p.getD 4 0∧x.p.getD 4 0≤1099511627776)∧(0≤x.p.getD 5 0∧x.p.getD 5 0≤1099511627776)∧(0≤x.p.getD 6 0∧x.p.getD 6 0≤1099511627776)) ∧
    x.l.length≤96∧∀ d ∈ x.l,(0≤d.1∧d.1≤1099511627776)∧0≤d.2∧d.2≤1099511627776:=by
  unfold rightE at h
  simp only [Bool.and_eq_true,decide_eq_true_eq,inB_iff] at h
  obtain ⟨⟨⟨⟨⟨h1,h2⟩,h3⟩,h4⟩,h5⟩,h6⟩:=h;have g1:=(may_iff _).1 h1;have hn:=(named_iff _ _).1 h5;have ht : top = 1099511627776:=rfl
  have hk : (1≤x.k∧x.k≤3)∧(0≤x.v∧x.v≤1099511627776)∧(x.p = p0∨polB x.p = true):=by
    unfold kindB at h6
    by_cases k1 : x.k = 1
    · rw [if_pos k1] at h6
      simp only [Bool.and_eq_true,inB_iff,decide_eq_true_eq] at h6
      exact ⟨by omega,by omega,.inl h6.1.1⟩
    · rw [if_neg k1] at h6
      by_cases k2 : x.k = 2
      · rw [if_pos k2] at h6
        simp only [Bool.and_eq_true,decide_eq_true_eq] at h6
        exact ⟨by omega,by omega,.inr h6.1⟩
      · rw [if_neg k2] at h6
        by_cases k3 : x.k = 3
        · rw [if_pos k3] at h6
          simp only [Bool.and_eq_true,decide_eq_true_eq] at h6
          exact ⟨by omega,by omega,.inl h6.1⟩
        · rw [if_neg k3] at h6;cases h6
  refine ⟨⟨by omega,by omega,by omega,hk.1,by omega,hk.2.1⟩,?_,h4,?_⟩
  · rcases hk.2.2 with e | e
    · rw [e];simp [p0]
    · have:=polB_iff.1 e
      omega
  · intro d hd
    obtain ⟨i,hi,rfl⟩:=List.getElem_of_mem hd;have g:=hn i hi
    unfold nameAt at g
    rw [List.getD_eq_getElem?_getD,List.getElem?_eq_getElem hi] at g
    simp only [Option.getD_some,Bool.and_eq_true] at g
    have g5:=(may_iff _).1 g.1.1
    omega
theorem dotNums_nat (l : List Dt) : (dotNums l).map Int.toNat = dotN l:=by
  induction l with
  | nil=>rfl
  | cons a l ih=>simp [dotNums,dotN] at ih ⊢;exact ih
theorem wput_no (x : Ev) (hp : x.p.length = 7) (A : Option Addr) (m c g : Nat) (w : World) (hl : RdD w w.heap.size A m x.l) (hx : rightE x = false) :
    Calls Tryz.prog 101 #[.pointer (some ⟨g,0,none⟩),.agg (ec x (.slice A m c))] w fun e w'=>e = .panicked [{ v:=eflt 2,recovered:=false }]∧Below w.heap.size w w':=by
  have hb0 : Below w.heap.size w (w.alloc (.cells (ec x (.slice A m c)) 47)):=(Below.refl _ _).alloc (Nat.le_refl _) _;have hr:=eright_any x hp A m c (w.alloc (.cells (ec x (.slice A m c)) 47)) (hl.below hb0).size;rw [hx] at hr;obtain ⟨⟨n,q⟩,t,k,wk,v,p,l⟩:=x
  unfold ec at hb0 hr ⊢
  simp only at hb0 hr ⊢
  clear hx hl hp
  generalize p.getD 0 0 = p0,p.getD 1 0 = p1,p.getD 2 0 = p2,p.getD 3 0 = p3,p.getD 4 0 = p4,p.getD 5 0 = p5,p.getD 6 0 = p6 at *
  have HR:=Lib.hid hr;clear hr
  go_enter Tryz.func101,Tryz.ntmps101
  go_wp2_with fail;refine HR.out.mono ?_;rintro e w1 ⟨rfl,b1⟩;go_wp2_with fail;refine (wfail_any g 2 w1).mono ?_;rintro e w2 ⟨rfl,rfl⟩;go_wp2_with fail;exact ⟨rfl,rfl,hb0.trans (b1.mono hb0.size)⟩
theorem wput_yes (x : Ev) (hp : x.p.length = 7) (A : Option Addr) (m c g : Nat) (bs : List UInt8) (w : World) (h : WrS w g bs) (hl : RdD w g A m x.l) (hx : rightE x = true) (hbs : bs.length≤140737488350000) :
    Calls Tryz.prog 101 #[.pointer (some ⟨g,0,none⟩),.agg (ec x (.slice A m c))] w fun e w'=>e = .returned (.tuple #[])∧WrS w' g (bs ++ encE x)∧w.grownBy w' (some g):=by
  have hb0 : Below w.heap.size w (w.alloc (.cells (ec x (.slice A m c)) 47)):=(Below.refl _ _).alloc (Nat.le_refl _) _;have kb : Blk (w.alloc (.cells (ec x (.slice A m c)) 47)) w.heap.size 47 (ec x (.slice A m c)):=Blk.new _ _ _;have hr:=eright_any x hp A m c (w.alloc (.cells (ec x (.slice A m c)) 47)) (hl.below (hb0.mono (by have:=h.lt;omega))).size;rw [hx] at hr;obtain ⟨⟨⟨a0,a1⟩,⟨a2,a3⟩,⟨a4,a5⟩,⟨a6,a7⟩,⟨a8,a9⟩,⟨a10,a11⟩⟩,⟨⟨d0,e0⟩,⟨d1,e1⟩,⟨d2,e2⟩,⟨d3,e3⟩,⟨d4,e4⟩,⟨d5,e5⟩,⟨d6,e6⟩⟩,h96,hdd⟩:=right_facts hp hx;obtain ⟨⟨n,q⟩,t,k,wk,v,p,l⟩:=x
  simp only at a0 a1 a2 a3 a4 a5 a6 a7 a8 a9 a10 a11 d0 d1 d2 d3 d4 d5 d6 e0 e1 e2 e3 e4 e5 e6 h96 hdd hl hp
  obtain ⟨n,rfl⟩:=Int.eq_ofNat_of_zero_le a0;obtain ⟨q,rfl⟩:=Int.eq_ofNat_of_zero_le a2;obtain ⟨t,rfl⟩:=Int.eq_ofNat_of_zero_le a4;obtain ⟨k,rfl⟩:=Int.eq_ofNat_of_zero_le (show 0≤k by omega);obtain ⟨wk,rfl⟩:=Int.eq_ofNat_of_zero_le a8;obtain ⟨v,rfl⟩:=Int.eq_ofNat_of_zero_le a10
  have hE : encE ⟨((n : Int),(q : Int)),t,k,wk,v,p,l⟩ = encN ([n,q,t,k,wk] ++ (if k = 1 then [v] else (if k = 2 then [(p.getD 0 0).toNat,(p.getD 1 0).toNat,(p.getD 2 0).toNat,(p.getD 3 0).toNat,(p.getD 4 0).toNat,(p.getD 5 0).toNat,(p.getD 6 0).toNat] else []) ++ [m] ++ dotN l)):=by
    unfold encE numsE
    have hm : m = l.length:=hl.1
    match p,hp with
    | [p0,p1,p2,p3,p4,p5,p6],_ =>
      simp only [List.map_append,dotNums_nat]
      by_cases k1 : k = 1
      · subst k1;simp
      · by_cases k2 : k = 2
        · subst k2;simp [dotNums_nat,hm]
        · have : ¬ (k : Int) = 1:=by omega
          have : ¬ (k : Int) = 2:=by omega
          simp [*,dotNums_nat]
  rw [hE];clear hE hx
  unfold ec at hb0 kb hr ⊢
  simp only at hb0 kb hr ⊢
  generalize p.getD 0 0 = p0,p.getD 1 0 = p1,p.getD 2 0 = p2,p.getD 3 0 = p3,p.getD 4 0 = p4,p.getD 5 0 = p5,p.getD 6 0 = p6 at *
  obtain ⟨p0,rfl⟩:=Int.eq_ofNat_of_zero_le d0;obtain ⟨p1,rfl⟩:=Int.eq_ofNat_of_zero_le d1;obtain ⟨p2,rfl⟩:=Int.eq_ofNat_of_zero_le d2;obtain ⟨p3,rfl⟩:=Int.eq_ofNat_of_zero_le d3;obtain ⟨p4,rfl⟩:=Int.eq_ofNat_of_zero_le d4;obtain ⟨p5,rfl⟩:=Int.eq_ofNat_of_zero_le d5;obtain ⟨p6,rfl⟩:=Int.eq_ofNat_of_zero_le d6
  simp only [Int.toNat_natCast]
  have HR:=Lib.hid hr;obtain ⟨Z,hZ⟩ : ∃ Z,Z = encN ([n,q,t,k,wk] ++ (if k = 1 then [v] else (if k = 2 then [p0,p1,p2,p3,p4,p5,p6] else []) ++ [m] ++ dotN l)):=⟨_,rfl⟩;rw [← hZ];have HZ:=Lib.hid hZ;clear hZ;have hgl:=h.lt
  have HT:=Lib.hid fun (w1 : World) (h : WrS w1 g bs) (hb : Blk w1 w.heap.size 47 _) (hr : RdD w1 g A m l)=>thrw_any w.heap.size g bs n q t k wk v p0 p1 p2 p3 p4 p5 p6 A m c l w1 h hb (by have:=hgl;omega) (by omega) (by omega) (by omega) (by omega) (by omega) (by omega) (by omega) (by omega) (by omega) (by omega) (by omega) (by omega) (by omega) hr (by have:=hl.1;omega) hdd hbs
  have HW:=Lib.hid h;have HL:=Lib.hid hl;have HGL:=Lib.hid hgl;have HKB:=Lib.hid kb;clear hr h hl hgl kb hp h96 hdd hbs a0 a1 a2 a3 a4 a5 a6 a7 a8 a9 a10 a11 d0 d1 d2 d3 d4 d5 d6 e0 e1 e2 e3 e4 e5 e6
  go_enter Tryz.func101,Tryz.ntmps101
  go_wp2_with fail;refine HR.out.mono ?_;rintro e w1 ⟨rfl,b1⟩;have hb1:=hb0.trans (b1.mono hb0.size);have kb1:=HKB.out.below b1 HKB.out.lt;have hw1 : WrS w1 g bs:=HW.out.below hb1;have hl1:=HL.out.below (hb1.mono (by have:=HGL.out;omega));clear HR HKB HW HL b1 hb0;go_wp2_with fail;refine (HT.out _ hw1 kb1 hl1).mono ?_;rintro e w2 ⟨rfl,hw2,gg⟩;go_wp2_with fail
  go_end0
  exact ⟨rfl,by rw [HZ.out];exact hw2,(only_below (grown_refl0 w _) hb1).trans gg⟩
end Go.Proofs.YtfpenfgmpbdakaaGreat

namespace Go.Proofs.YtfpenfgmpbdakaaGreat
set_option linter.unusedVariables false
set_option linter.unusedSimpArgs false
set_option maxRecDepth 100000
open Go.RowKit
open Dot Evt
def putE (x : Ev) : List UInt8 × Nat:=if rightE x = true then (encE x,0) else ([],2)
set_option maxRecDepth 100000 in
theorem eput_any (x : Ev) (hp : x.p.length = 7) (A : Option Addr) (m c : Nat) (w : World) (hl : RdD w w.heap.size A m x.l) :
    Calls Tryz.prog 80 #[.agg (ec x (.slice A m c))] w (GiveBE w (putE x).1 (putE x).2):=by
  obtain ⟨cs,hcs⟩ : ∃ cs,cs = ec x (.slice A m c):=⟨_,rfl⟩;have HCS:=Lib.hid hcs
  have hno:=fun (g : Nat) (w1 : World) (h : RdD w1 w1.heap.size A m x.l) (hx : rightE x = false)=>wput_no x hp A m c g w1 h hx
  have hyes:=fun (g : Nat) (w1 : World) (hw : WrS w1 g []) (h : RdD w1 g A m x.l) (hx : rightE x = true)=>wput_yes x hp A m c g [] w1 hw h hx (by simp)
  rw [← hcs] at hno hyes ⊢;clear hcs;have HL0:=Lib.hid hl;have HNO:=Lib.hid hno;have HYES:=Lib.hid hyes
  have hcz : cs.size = 14:=by rw [HCS.out];rfl
  have HCZ:=Lib.hid hcz;clear hl hno hyes hp hcz
  go_enter_defers Tryz.func80,Tryz.ntmps80
  go_upto_region 3 with fail
  refine nameW ?_;intro W hW;obtain ⟨B,hB⟩ : ∃ B,B = w.heap.size:=⟨_,rfl⟩;rw [← hB]
  have kb : Blk W B 47 cs:=by rw [hW,hB];exact ((Blk.new w _ _).alloc _).alloc _
  have kf : Blk W (B + 1) 27 #[.int .i64 0]:=by
    have:=Blk.new (w.alloc (.cells cs 47)) 27 #[.int .i64 0]
    rw [show (w.alloc (.cells cs 47)).heap.size = w.heap.size + 1 by simp] at this;rw [hW,hB];exact this.alloc _
  have kw : WrS W (B + 1 + 1) []:=by
    have:=Blk.new ((w.alloc (.cells cs 47)).alloc (.cells #[.int .i64 0] 27)) 150 #[.slice none 0 0]
    rw [show ((w.alloc (.cells cs 47)).alloc (.cells #[.int .i64 0] 27)).heap.size = w.heap.size + 1 + 1 by simp] at this;rw [hW,hB];exact ⟨none,0,0,this,OwnB.nil _ _⟩
  have hbb : Below B w W:=by rw [hW,hB];exact (((Below.refl _ _).alloc (Nat.le_refl _) _).alloc (by simp) _).alloc (by simp;omega) _
  have hl1 : RdD W B A m x.l:=by rw [hB];exact HL0.out.below (by rw [← hB];exact hbb)
  have HB:=Lib.hid hB;clear hW hB HL0
  cases hx : rightE x
  case false =>
    go_wp2_with first
      | ((with_reducible refine wpList_ld rowE kb HCZ.out ?_ ?_);rotate_left;(rfl))
    refine (HNO.out _ W hl1.size hx).mono ?_;rintro e w1 ⟨rfl,b1⟩;have k1:=kf.below b1 kf.lt;go_wp2_with fail;refine leaves_cons (f:=100) (args:=#[.pointer (some ⟨B + 1,0,none⟩)]) (by simp) (by simp [go_sem]) ?_;refine (ecaught_panic _ _ _ _ _ (k1.cell 0) (k1.free 0)).mono ?_;rintro e u' w2 ⟨rfl,rfl,rfl⟩;have k2:=(k1.alloc (.cells #[.int .i64 2] 166)).set_ 0 (.int .i64 2);have c2:=k2.cell 0;have hb3 : Below B w ((w1.alloc (.cells #[.int .i64 2] 166)).setCell ⟨B + 1,0,none⟩ (.int .i64 2)):=((hbb.trans (b1.mono (by have:=kb.lt;omega))).alloc (by have:=hbb.size;have:=b1.size;have:=HB.out;omega) _).setCell (by show B≤B + 1;omega) _
    have he : putE x = ([],2):=by unfold putE;rw [hx];rfl
    refine ⟨.tuple #[.slice none 0 0,.int .i64 2],by simp [results,Tryz.results80,go_sem,c2],none,0,0,by rw [he];rfl,?_,by rw [← HB.out];exact hb3⟩;rw [he];exact OwnB.nil _ _
  case true =>
    go_wp2_with first
      | ((with_reducible refine wpList_ld rowE kb HCZ.out ?_ ?_);rotate_left;(rfl))
    refine (HYES.out _ W kw (hl1.more (by omega)) hx).mono ?_;rintro e w1 ⟨rfl,hw1,gg⟩;obtain ⟨A1,n1,c1,kw1,ho1⟩:=hw1;have q1 : w1.cell? ⟨B + 1 + 1,0,none⟩ = some (.slice A1 n1 c1):=kw1.cell 0;have kf1:=kf.grown gg (by simp);have f1 : w1.cell? ⟨B + 1,0,none⟩ = some (.int .i64 0):=kf1.cell 0;have f2:=kf1.free 0;go_wp2_with fail;refine leaves_cons (f:=100) (args:=#[.pointer (some ⟨B + 1,0,none⟩)]) (by simp) (by simp [go_sem]) ?_;refine (ecaught_none _ _).mono ?_;rintro e u' w2 ⟨rfl,rfl,rfl⟩;have k2:=kf1.set_ 0 (.int .i64 0);have c2:=k2.cell 0
    have he : putE x = (encE x,0):=by unfold putE;rw [hx];rfl
    have hb3 : Below B w (w1.setCell ⟨B + 1,0,none⟩ (.int .i64 0)):=(hbb.trans (only_Below gg (by omega) (by have:=kb.lt;omega))).setCell (by show B≤B + 1;omega) _;refine ⟨.tuple #[.slice A1 n1 c1,.int .i64 0],by simp [results,Tryz.results80,go_sem,c2],A1,n1,c1,by rw [he];rfl,?_,by rw [← HB.out];exact hb3⟩;rw [he];refine (ho1.setFar ?_ _).mono (by have:=HB.out;omega)
    rcases A1 with _ | a
    · simp
    · have:=(ho1.lt a.block rfl).1
      simp
      omega
end Go.Proofs.YtfpenfgmpbdakaaGreat

namespace Go.Proofs.YtfpenfgmpbdakaaGreat
set_option linter.unusedVariables false
set_option linter.unusedSimpArgs false
set_option maxRecDepth 100000
open Go.RowKit
theorem same_eq (A1 A2 : Option Addr) (n1 c1 n2 c2 : Nat) (bs : List UInt8) (B1 B2 : Nat) (w : World) (h1 : RdB w B1 A1 n1 bs) (h2 : RdB w B2 A2 n2 bs) (hl : n1≤9223372036854775807) :
    Calls Tryz.prog 26 #[.slice A1 n1 c1,.slice A2 n2 c2] w fun e w'=>e = .returned (.bool true)∧∃ m,w' = w.drewN m:=by
  obtain rfl:=h1.1;obtain rfl:=h2.1
  go_enter Tryz.func26,Tryz.ntmps26
  go_wp2_with fail
  go_loopw [13] (fun i wr=>∃ k m : Nat,k≤bs.length∧i = .int .i64 k∧wr = w.drewN m) (fun i _=>bs.length - (intOf i).toNat)
  case atStart=>exact ⟨0,0,by omega,rfl,rfl⟩
  case round =>
    obtain ⟨k,m,hk,rfl,rfl⟩:=hrel
    by_cases hlt : k < bs.length
    · obtain ⟨a1,rfl,_,hc1⟩:=h1.at_ hlt
      obtain ⟨a2,rfl,_,hc2⟩:=h2.at_ hlt;obtain ⟨x,hx⟩ : ∃ x,x = bs[k]:=⟨_,rfl⟩;rw [← hx] at hc1 hc2;clear hx
      have hq : ((x.toNat : Int) != (x.toNat : Int)) = false:=by simp
      go_wp2_with fail
      go_quiet (fail)
      go_wp2_with fail
      go_roundw
      case rel=>exact ⟨k + 1,_,by omega,by go_num,rfl⟩
      case measure=>simp [intOf];omega
    · go_wp2_with fail
      go_ret;exact ⟨rfl,_,rfl⟩
end Go.Proofs.YtfpenfgmpbdakaaGreat

namespace Go.Proofs.YtfpenfgmpbdakaaGreat
set_option linter.unusedVariables false
set_option linter.unusedSimpArgs false
set_option maxRecDepth 100000
open Go.RowKit
open Dot Evt
def exZ : Ev:=⟨(0,0),0,0,0,0,Evt.p0,[]⟩
abbrev cT (t : Int) : Array Value:=#[.int .i64 0,.int .i64 0,.int .i64 t,.int .i64 0,.int .i64 0,.int .i64 0,.int .i64 0,.int .i64 0,.int .i64 0,.int .i64 0,.int .i64 0,.int .i64 0,.int .i64 0,.slice none 0 0]
end Go.Proofs.YtfpenfgmpbdakaaGreat

namespace Go.Proofs.YtfpenfgmpbdakaaGreat
set_option linter.unusedVariables false
set_option linter.unusedSimpArgs false
set_option maxRecDepth 100000
open Go.RowKit
open Dot Evt
theorem own_emptyD {w : World} {g base : Nat} (h : Blk w g 42 #[]) (hb : base≤g) : OwnD w base (some ⟨g,0,none⟩) 0 0 [] :=
  ⟨rfl,rfl,.inr ⟨g,0,#[],rfl,hb,h,Nat.le_refl _,Nat.zero_le _,rfl,rfl⟩⟩
theorem infoEv : (Tryz.prog.info? 47).map (fun i=>(i.zero,i.size,i.bytes)) = some (some (.agg (cT 0)),14,128):=by kernel_rfl
def ecsL (xs : List EvV) : List Value:=xs.flatMap fun x=>x.cs.toList
theorem ecsL_len (xs : List EvV) : (ecsL xs).length = xs.length * 14:=by
  induction xs with
  | nil=>rfl
  | cons x l ih=>show (x.cs.toList ++ ecsL l).length = _;rw [List.length_append,ih,Array.length_toList,x.size];simp;omega
theorem ecsL_app (l m : List EvV) : ecsL (l ++ m) = ecsL l ++ ecsL m:=by unfold ecsL;rw [List.flatMap_append]
theorem ecsL_one (l : List EvV) : ∀ u ∈ ecsL l,u.oneCell' = true:=by
  intro u hu
  unfold ecsL at hu
  rw [List.mem_flatMap] at hu;obtain ⟨d,_,hd⟩:=hu
  have:=Array.all_eq_true_iff_forall_mem.1 d.one u (by simpa using hd)
  exact this
theorem ecsL_at (l : List EvV) : ∀ (i : Nat) (x : EvV),l[i]? = some x→∀ (j : Nat) v,x.cs[j]? = some v→(ecsL l)[i * 14 + j]? = some v:=by
  induction l with
  | nil=>intro i d h;simp at h
  | cons y l ih =>
    intro i x h j v hv;have e : ecsL (y :: l) = y.cs.toList ++ ecsL l:=rfl
    have hj : j < 14:=by
      have:=(Array.getElem?_eq_some_iff.1 hv).1
      rwa [x.size] at this
    rw [e]
    cases i with
    | zero =>
      simp at h
      subst h;rw [Nat.zero_mul,Nat.zero_add,List.getElem?_append_left (by rw [Array.length_toList,y.size];exact hj),Array.getElem?_toList];exact hv
    | succ i =>
      rw [List.getElem?_append_right (by rw [Array.length_toList,y.size];omega),Array.length_toList,y.size,show (i + 1) * 14 + j - 14 = i * 14 + j by omega];exact ih i x (by simpa using h) j v hv
def OwnEv (w : World) (base : Nat) (A : Option Addr) (n c : Nat) (xs : List EvV) : Prop:=n = xs.length∧w.ownsRow base 47 14 (.slice A n c) n (ecsL xs)
section
variable {w w' : World} {base B n c : Nat} {A : Option Addr} {xs : List EvV}
theorem OwnEv.nil (w : World) (base : Nat) : OwnEv w base none 0 0 []:=⟨rfl,World.ownsRow_nil w base _ 14⟩
theorem OwnEv.alloc (h : OwnEv w base A n c xs) (o : Obj) : OwnEv (w.alloc o) base A n c xs:=⟨h.1,h.2.alloc o⟩
theorem OwnEv.drew (h : OwnEv w base A n c xs) : OwnEv w.drew base A n c xs:=h
theorem OwnEv.mono {base' : Nat} (h : OwnEv w base A n c xs) (hb : base'≤base) : OwnEv w base' A n c xs:=⟨h.1,ownsRow_base h.2 hb⟩
theorem OwnEv.raw (h : OwnEv w base A n c xs) : Rd w w.heap.size A (ecsL xs):=fun j u hu=>by
  rcases h.2.2 with ⟨hv,h0⟩ | ⟨g,cap,cur,hv,hb,hh,hn,hm,hs,hc⟩
  · have:=h.2.1;rw [h0] at this;simp at this;rw [this] at hu;simp at hu
  · injection hv with hA
    subst hA;exact ⟨_,rfl,(h.2.lt g rfl).2,h.2.cells (g:=g) rfl j u hu⟩
theorem OwnEv.lt (h : OwnEv w base A n c xs) : ∀ g,A.map (·.block) = some g→base≤g∧g < w.heap.size:=fun g hg=>h.2.lt g (by
  rcases A with _ | a
  · simp at hg
  · simpa [Value.ownBlock] using hg)
theorem OwnEv.below (h : OwnEv w base A n c xs) (hb : Below B w w') (hB : w.heap.size≤B) : OwnEv w' base A n c xs:=⟨h.1,ownsRow_keep h.2 fun k hk=>hb.block k (by have:=ownsRow_lt h.2 hk;omega)⟩
theorem OwnEv.row (h : OwnEv w base A n c xs) (hx : ∀ x ∈ xs,EvOk w w.heap.size x) : RowEv w w.heap.size A n xs:=⟨h.1,fun i x hi=>by
  have hm:=List.mem_of_getElem? hi;have h0 : (ecsL xs)[i * 14 + 0]? = some (.int .i64 x.e.d.1):=ecsL_at xs i x hi 0 _ rfl;obtain ⟨ad,hA,hb,_⟩:=h.raw _ _ h0;refine ⟨hx x hm,ad,hA,hb,fun j v hv=>?_⟩;obtain ⟨ad',hA',_,hc⟩:=h.raw _ _ (ecsL_at xs i x hi j v hv)
  obtain rfl : ad = ad':=by rw [hA] at hA';injection hA'
  rw [add_add]
  exact hc⟩
end
theorem own2_ne {w : World} {b1 b2 : Nat} {t1 t2 : TypeId} {s1 s2 : Nat} {A1 A2 : Option Addr} {n1 c1 n2 c2 : Nat} {x1 x2 : List Value} (h1 : w.ownsRow b1 t1 s1 (.slice A1 n1 c1) n1 x1) (h2 : w.ownsRow b2 t2 s2 (.slice A2 n2 c2) n2 x2) (hne : t1 ≠ t2) : A1.map (·.block) = none∨A1.map (·.block) ≠ A2.map (·.block):=by
  rcases h : A1.map (·.block) with _ | k
  · exact .inl h
  · refine .inr fun e=>?_
    obtain ⟨cur,hc⟩:=ownsRow_type h1 h;obtain ⟨cur',hc'⟩:=ownsRow_type h2 (e.symm.trans h);rw [hc] at hc'
    injection hc' with hc'
    injection hc' with _ ht
    exact hne ht
def EvOwn (w : World) (base : Nat) (x : EvV) : Prop:=x.e.p.length = 7∧OwnD w base x.A x.m x.c x.e.l∧x.m≤10000000000000
theorem EvOwn.ok {w : World} {base : Nat} {x : EvV} (h : EvOwn w base x) : EvOk w w.heap.size x:=⟨h.1,h.2.1.rd,h.2.2⟩
theorem wpList_appE {w : World} {ops : Array Oper} {rest : List Oper} {o : Oper} {a : Act} {Q : Exit→Act→World→Prop} (hgd : o.guard = none) (s x : Operand)
    (ho : o.op = .call { callee:=.builtin .append,args:=#[s,x],argTypes:=#[48,48] })
    {base : Nat} {A : Option Addr} {n c : Nat} {bs : List EvV} (hs : a.eval s = .slice A n c) (hown : OwnEv w base A n c bs)
    {B : Nat} {D : Option Addr} {m d : Nat} {news : List EvV} (hx : a.eval x = .slice D m d) (hr : Rd w B D (ecsL news)) (hm : m = news.length)
    (hbytes : n + m≤1000000000000) (hbase : base≤w.heap.size)
    (h : ∀ A' c' w',OwnEv w' base A' (n + m) c' (bs ++ news)→w.grownBy w' (A.map (·.block))→Moved A' (A.map (·.block)) w.heap.size→Below base w w' →
      wpList Tryz.prog ops Q rest (a.put o.dst (.slice A' (n + m) c')) w') : wpList Tryz.prog ops Q (o :: rest) a w:=by
  obtain ⟨i0,hi,hz0,hz1,hz2⟩:=info_parts infoEv
  have hob : (Value.slice A n c).ownBlock = A.map (·.block):=by cases A <;> rfl
  refine wpList_app w hgd s x 48 ho base 47 i0 (.agg (cT 0)) 14 128 Tryz.underlying48 hi hz0 hz1 hz2 rfl (by decide) _ _ _ hs hown.2 B D m d (ecsL news) hx hr (by rw [ecsL_len,hm]) (ecsL_one _) (by unfold maxLen;omega) (by omega) hbase ?_;intro A' c' w' h1 h2 h3;rw [hob] at h2 h3;exact h A' c' w' ⟨by rw [List.length_append,hown.1,hm],by rw [ecsL_app];exact h1⟩ h2 h3 ((Below.refl _ _).grown h2 hbase (fun g hg=>(hown.lt g hg).1))
theorem buildE1 (x : EvV) (w : World) : (Instr.buildSlice 48 1 #[(0,.agg x.cs)]).run Tryz.prog w = .ok (.slice (some ⟨w.heap.size,0,none⟩) 1 1) (w.alloc (.cells x.cs 47)):=by
  obtain ⟨⟨⟨n,q⟩,t,k,wk,v,p,l⟩,A,m,c⟩:=x
  unfold EvV.cs ec
  simp only
  generalize p.getD 0 0 = p0,p.getD 1 0 = p1,p.getD 2 0 = p2,p.getD 3 0 = p3,p.getD 4 0 = p4,p.getD 5 0 = p5,p.getD 6 0 = p6
  kernel_rfl
set_option maxRecDepth 100000 in
theorem rcopy07_any (x : EvV) (w : World) (hx : EvOk w w.heap.size x) (hm : x.m≤100000) :
    Calls Tryz.prog 19 #[.agg x.cs] w fun e w'=>∃ A' c',e = .returned (.agg (ec x.e (.slice A' x.m c')))∧OwnD w' w.heap.size A' x.m c' x.e.l∧Below w.heap.size w w':=by
  obtain ⟨cs,hcs⟩ : ∃ cs,cs = x.cs:=⟨_,rfl⟩;have HSZ:=Lib.hid (show cs.size = 14 by rw [hcs];rfl);have X13:=Lib.hid (show cs[13]? = some (.slice x.A x.m x.c) by rw [hcs];rfl);have XS:=Lib.hid (fun (A' : Option Addr) (c' : Nat)=>(show cs.setIfInBounds 13 (.slice A' x.m c') = ec x.e (.slice A' x.m c') by rw [hcs];rfl));rw [← hcs];obtain ⟨l,hl⟩ : ∃ l,l = x.e.l:=⟨_,rfl⟩;have HRD:=Lib.hid (show RdD w w.heap.size x.A x.m l by rw [hl];exact hx.2.1);rw [← hl];have HM:=Lib.hid (HRD.out.1);clear hx hcs hl
  go_enter Tryz.func19,Tryz.ntmps19
  go_upto_region 1 with fail
  refine nameW ?_;intro wv hwv;obtain ⟨b,hb⟩ : ∃ b,b = w.heap.size:=⟨_,rfl⟩;rw [← hb]
  have kb : Blk wv b 47 cs:=by rw [hwv,hb];exact (Blk.new w _ _).alloc _
  have kz : Blk wv (b + 1) 47 (cT 0):=by
    have h:=Blk.new (w.alloc (.cells cs 47)) 47 (cT 0);rw [show (w.alloc (.cells cs 47)).heap.size = w.heap.size + 1 by simp] at h;rw [hwv,hb];exact h
  have gb : Below b w wv:=by rw [hwv,hb];exact ((Below.refl _ _).alloc (Nat.le_refl _) _).alloc (by simp) _
  have hrd : RdD wv b x.A x.m l:=by
    rw [hb];exact HRD.out.below (by rw [← hb];exact gb)
  have hsz:=kz.lt;have hsb:=kb.lt;have t13 : wv.cell? ⟨b,13,none⟩ = some (.slice x.A x.m x.c):=(kb.cell 13).trans X13.out;have HB:=Lib.hid hb;clear hwv hb HRD;have hrd2 : Rd (wv.alloc (.cells #[] 42)) b x.A (dcs l):=(hrd.below ((Below.refl _ _).alloc (by omega) _)).rd;have HR2:=Lib.hid hrd2;clear hrd hrd2
  go_wp2_with (at_builtin;refine wpList_appD rfl (.tmp 3) (.tmp 5) rfl rfl (own_emptyD (base:=b + 1 + 1) (Blk.new wv _ _) (by omega)) rfl (news:=l) HR2.out HM.out ?hc1 ?hc2 ?_)
  case hc1=>omega
  case hc2=>simp;omega
  intro A' c' w3 o3 g3 m3 b3;have bx : Below (b + 1 + 1) wv w3:=((Below.refl _ _).alloc (by omega) (.cells #[] 42)).trans b3;have kb3:=kb.below bx (by omega);have kz3:=kz.below bx (by omega);have gb3:=gb.trans (bx.mono (by omega));have c3 : w3.cell? ⟨b,13,none⟩ = some (.slice x.A x.m x.c):=(kb3.cell 13).trans X13.out;have f3:=kb3.free 13;have kb4:=kb3.set_ 13 (.slice A' x.m c');rw [XS.out] at kb4;have kz4:=kz3.far (p:=⟨b,13,none⟩) (by simp) (.slice A' x.m c')
  have o4:=o3.setFar (p:=⟨b,13,none⟩) (by
    intro h
    have:=(o3.lt _ h).1
    simp at this
    omega) (.slice A' x.m c')
  have gb4 : Below b w (w3.setCell ⟨b,13,none⟩ (.slice A' x.m c')):=gb3.setCell (by show b≤b;omega) _;obtain ⟨ce,hce⟩ : ∃ ce,ce = ec x.e (.slice A' x.m c'):=⟨_,rfl⟩;have HSE:=Lib.hid (show ce.size = 14 by rw [hce];rfl);have H1E:=Lib.hid (show ce.all (·.oneCell') = true by rw [hce];exact ec_one _ _ _ _);have HCE:=Lib.hid hce;have HZ0:=Lib.hid (show (cT 0).size = 14 from rfl);rw [← hce] at kb4;clear hce kb3 kz3 gb3 kb kz gb g3 m3 b3 bx
  have hs3 : b < w3.heap.size:=by have:=kb4.lt;simpa [World.setCell] using this
  go_upto_region 2 with fail
  refine nameW ?_;intro w4 hw4;rw [← hw4] at kb4 kz4 o4 gb4;clear hw4 c3 f3 o3 hs3
  go_wp2_with first
    | ((with_reducible refine wpList_ld rowE kb4 HSE.out ?_ ?_);rotate_left;(rfl))
    | ((with_reducible refine wpList_st rowE kz4 HSE.out HZ0.out H1E.out ?_ ?_ ?_);rotate_left;(rfl);(rfl);intro w5 k5 g5 z5)
  have o5:=o4.grown g5 (.inr (own_ne o4.2 kz4 (by decide)));exact bodyPost_ret (v:=.agg ce) (results_blk rfl rowE k5 HSE.out rfl) rfl ⟨A',c',by rw [HCE.out],o5.mono (by have:=HB.out;omega),by rw [← HB.out];exact gb4.grown g5 (by have:=gb4.size;have:=HB.out;omega) (fun q hq=>by injection hq;omega)⟩
def CopiesEnd (w : World) (n : Nat) (xs : List EvV) (e : Ending) (w' : World) : Prop:=∃ A' c' ys,e = .returned (.slice A' n c')∧OwnEv w' w.heap.size A' n c' ys∧(∀ y ∈ ys,EvOwn w' w.heap.size y)∧ys.map (·.e) = xs.map (·.e)∧Below w.heap.size w w'
set_option maxRecDepth 100000 in
set_option maxHeartbeats 1000000 in
theorem rcopies07_any (A : Option Addr) (n c : Nat) (xs : List EvV) (w : World) (hn : n≤100000) (hR : RowEv w w.heap.size A n xs) (hm : ∀ x ∈ xs,x.m≤100000) :
    Calls Tryz.prog 22 #[.slice A n c] w (CopiesEnd w n xs):=by
  have HN:=Lib.hid hR.1
  have HRK:=Lib.hid fun (w' : World) (hb : Below w.heap.size w w')=>hR.below hb
  have HNB:=Lib.hid hn;have HM:=Lib.hid hm;clear hR hn hm;obtain ⟨B,hB⟩ : ∃ B,B = w.heap.size:=⟨_,rfl⟩;have HB:=Lib.hid hB;rw [← hB] at HRK;clear hB
  go_enter Tryz.func22,Tryz.ntmps22
  go_wp2_with fail
  go_loopw [3,8] (fun s i wr=>∃ (k : Nat) (A' : Option Addr) (c' : Nat) (ys : List EvV),k≤n∧i = .int .i64 k∧s = .slice A' k c'∧OwnEv wr B A' k c' ys∧(∀ y ∈ ys,EvOwn wr B y)∧ys.map (·.e) = (xs.take k).map (·.e)∧Below B w wr) (fun _ i _=>n - (intOf i).toNat)
  case atStart=>exact ⟨0,none,0,[],by omega,rfl,rfl,OwnEv.nil _ _,fun y hy=>by simp at hy,rfl,by rw [HB.out];exact Below.refl _ _⟩
  case round =>
    obtain ⟨k,A',c',ys,hk,rfl,rfl,ho,hys,hmp,gb⟩:=hrel;have HYS:=Lib.hid hys;have HMP:=Lib.hid hmp;clear hys hmp
    by_cases hlt : k < n
    · have hkl : k < xs.length:=by rw [← HN.out];exact hlt
      have hgs : B≤wr.heap.size:=by have:=gb.size;have:=HB.out;omega
      obtain ⟨hok,ad,hA,hab,hcell⟩:=(HRK.out wr gb).2 k _ (List.getElem?_eq_getElem hkl);have hsn:=take_snoc xs hkl;have hmm:=HM.out _ (List.getElem_mem hkl)
      generalize xs[k] = x at *
      subst hA;obtain ⟨cs,hcs⟩ : ∃ cs,cs = x.cs:=⟨_,rfl⟩;rw [← hcs] at hcell;have HCS:=Lib.hid hcs;have HSZ:=Lib.hid (show cs.size = 14 by rw [hcs];rfl);have H1C:=Lib.hid (show cs.all (·.oneCell') = true by rw [hcs];exact x.one);have HC:=Lib.hid hcell;have HSN:=Lib.hid hsn;have HOK:=Lib.hid hok;have HMM:=Lib.hid hmm
      have hk0 : (0 : Int)≤(k : Int):=by omega
      have hkm : (k : Int) < (n : Int):=by omega
      clear hcell hok hsn hmm hcs
      go_upto_region 4 with fail
      go_upto_region 5 with first
        | ((with_reducible refine wpList_lda rowE HC.out HSZ.out ?_ ?_);rotate_left;(rfl))
        | ((with_reducible refine wpList_st rowE (Blk.new _ _ _) HSZ.out ?_ H1C.out ?_ ?_ ?_);(rfl);rotate_left;(rfl);(rfl);intro w6 k6 g6 z6)
      have bA : Below wr.heap.size wr w6:=(((Below.refl _ _).alloc (Nat.le_refl _) _).grown g6 (by simp) (fun q hq=>by injection hq with hq;omega));have gb6:=gb.trans (bA.mono hgs);have ho6:=ho.below bA (Nat.le_refl _)
      have hys6 : ∀ y ∈ ys,EvOwn w6 B y:=fun y hy=>by
        obtain ⟨q1,q2,q3⟩:=HYS.out y hy;exact ⟨q1,q2.below bA (Nat.le_refl _),q3⟩
      have hok6:=HOK.out.below (bA.mono hgs);obtain ⟨gr,hgr2⟩ : ∃ gr,gr = wr.heap.size:=⟨_,rfl⟩
      have hgr3 : B≤gr:=by omega
      rw [← hgr2] at k6 ⊢;have HYS6:=Lib.hid hys6
      have hs6 : B≤w6.heap.size:=by have:=gb6.size;have:=HB.out;omega
      have hcp:=rcopy07_any x w6 (hok6.more hs6) HMM.out;rw [← HCS.out] at hcp;have HCP:=Lib.hid hcp;clear hgr2 g6 z6 bA gb ho HYS hys6 hcp hok6
      go_wp2_with first
        | ((with_reducible refine wpList_ld rowE k6 HSZ.out ?_ ?_);rotate_left;(rfl))
      refine HCP.out.mono ?_;rintro e w7 ⟨A2,c2,rfl,o7,b7⟩;have ho7:=ho6.below b7 (Nat.le_refl _)
      have hys7 : ∀ y ∈ ys,EvOwn w7 B y:=fun y hy=>by
        obtain ⟨q1,q2,q3⟩:=HYS6.out y hy;exact ⟨q1,q2.below b7 (Nat.le_refl _),q3⟩
      have gb7:=gb6.trans (b7.mono hs6);have hz : EvOwn w7 B ⟨x.e,A2,x.m,c2⟩:=⟨HOK.out.1,o7.mono hs6,HOK.out.2.2⟩;obtain ⟨z,hzz⟩ : ∃ z : EvV,z = ⟨x.e,A2,x.m,c2⟩:=⟨_,rfl⟩
      have hze : z.e = x.e:=by rw [hzz]
      rw [← hzz] at hz
      have hcz : ec x.e (.slice A2 x.m c2) = z.cs:=by rw [hzz];rfl
      rw [hcz];have HZ:=Lib.hid hz;have HZE:=Lib.hid hze;have HBS:=Lib.hid (fun w=>buildE1 z w);have HYS7:=Lib.hid hys7
      have hs7 : B≤w7.heap.size:=by have:=gb7.size;have:=HB.out;omega
      obtain ⟨cz,hcz2⟩ : ∃ cz,cz = z.cs:=⟨_,rfl⟩;have HCZ:=Lib.hid hcz2;rw [← hcz2] at HBS ⊢;clear hz hze hzz hcz hcz2 hys7 HYS6 o7 b7 ho6 gb6
      go_wp2_with first
        | ((refine wpList_bs (v:=.slice (some ⟨w7.heap.size,0,none⟩) 1 1) (w':=w7.alloc (.cells cz 47)) rfl 48 1 #[(0,.tmp 14)] rfl ?_ ?_);(simp only [List.map_toArray,List.map_cons,List.map_nil];exact HBS.out w7))
        | (at_builtin;refine wpList_appE rfl (.tmp 12) (.tmp 15) rfl rfl (ho7.alloc _) rfl (news:=[z]) (B:=w7.heap.size + 1) ?hd1 rfl ?hd2 ?hd3 ?_)
      case hd1 =>
        have h:=Rd.made w7 cz 47 (0,0);rw [show ecsL [z] = cz.toList by rw [HCZ.out];simp [ecsL]];exact h
      case hd2=>have:=HNB.out;omega
      case hd3=>simp;omega
      intro A3 c3 w8 o8 g8 m8 b8;have gb8:=gb7.trans (((Below.refl _ _).alloc hs7 (.cells cz 47)).trans b8)
      have hys8 : ∀ y ∈ ys ++ [z],EvOwn w8 B y:=fun y hy=>by
        have hy2 : EvOwn w7 B y:=by
          rcases List.mem_append.1 hy with h | h
          · exact HYS7.out y h
          · simp at h;rw [h];exact HZ.out
        exact ⟨hy2.1,(hy2.2.1.alloc (.cells cz 47)).grown g8 (own2_ne hy2.2.1.2 ho7.2 (by decide)),hy2.2.2⟩
      have HYS8:=Lib.hid hys8;clear hys8 g8 m8 b8 HYS7;go_wp2_with fail
      go_roundw
      case rel=>exact ⟨k + 1,A3,c3,ys ++ [z],by omega,num_succ k (by have:=HNB.out;omega),rfl,o8,HYS8.out,by rw [HSN.out,List.map_append,List.map_append,HMP.out];simp [HZE.out],gb8⟩
      case measure=>exact meas_succ k n hlt (by have:=HNB.out;omega)
    · have hkn : k = n:=by omega
      have hkd : decide ((k : Int) < (n : Int)) = false:=decide_eq_false (by omega);have hmp:=HMP.out;rw [List.take_of_length_le (by rw [← HN.out];omega)] at hmp;have HMP2:=Lib.hid hmp;clear hmp HMP;subst hkn;go_wp2_with fail;go_ret;exact ⟨A',c',ys,rfl,by rw [← HB.out];exact ho,by rw [← HB.out];exact HYS.out,HMP2.out,by rw [← HB.out];exact gb⟩
end Go.Proofs.YtfpenfgmpbdakaaGreat

namespace Go.Proofs.YtfpenfgmpbdakaaGreat
set_option linter.unusedVariables false
set_option linter.unusedSimpArgs false
set_option maxRecDepth 100000
open Go.RowKit
open Dot Evt
theorem cloneDt_any (A : Option Addr) (n c : Nat) (l : List Dt) (B : Nat) (w : World) (hb : RdD w B A n l) (hB : B≤w.heap.size) (hl : n≤1000000000000) :
    Calls Tryz.prog 83 #[.slice A n c] w fun e w'=>∃ A' c',e = .returned (.slice A' n c')∧OwnD w' w.heap.size A' n c' l∧Below w.heap.size w w':=by
  have q:=fun (w : World) (a : Option Addr) (n c n' c' : Nat)=>Lib.run_eql_slice_nil (P:=Tryz.prog) w 45 _ a n c n' c' Tryz.underlying45
  rcases A with _ | a
  · have h0 : l = []:=by
      rcases l with _ | ⟨x,r⟩
      · rfl
      · obtain ⟨_,h,_⟩:=hb.2 0 _ rfl
        cases h
    subst h0;obtain rfl:=hb.1
    go_enter Tryz.func83,Tryz.ntmps83
    go_wp2_with fail;go_ret;exact ⟨_,_,rfl,OwnD.nil _ _,Below.refl _ _⟩
  · obtain ⟨m0,hm0⟩ : ∃ m0,m0 = n:=⟨_,rfl⟩
    have hm:=hb.1;clear hm0
    go_enter Tryz.func83,Tryz.ntmps83
    go_wp2_with (at_builtin;refine wpList_appD rfl (.tmp 5) (.tmp 6) rfl rfl (own_emptyD (base:=w.heap.size) (Blk.new w 42 #[]) (Nat.le_refl _)) rfl ((hb.below ((Below.refl _ _).alloc hB _)).rd) hm (by omega) (by simp) ?_)
    intro A' c' w2 ho1 _ _ hbl1;subst hm;go_wp2_with fail;go_ret;exact ⟨_,_,rfl,ho1,((Below.refl _ _).alloc (Nat.le_refl _) _).trans hbl1⟩
set_option maxHeartbeats 2000000 in
theorem indexE_any (A : Option Addr) (n c : Nat) (xs : List EvV) (fid : FuncId) (cap : Array Value) (P : EvV→Bool) (w0 : World) (hr : RowEv w0 w0.heap.size A n xs) (hn : n≤10000000000000)
    (hk : ∀ args w,(callFunc fid args).run Tryz.prog w = .ok (.enter fid args) w)
    (hclo : ∀ x ∈ xs,∀ w,Below w0.heap.size w0 w→Calls Tryz.prog fid (#[.agg x.cs] ++ cap) w fun e w'=>e = .returned (.bool (P x))∧Below w.heap.size w w') :
    Calls Tryz.prog 102 #[.slice A n c,.func (.func fid) #[] cap] w0 fun e w'=>(∃ z : Int,e = .returned (.int .i64 z)∧decide (0≤z) = xs.any P)∧Below w0.heap.size w0 w':=by
  have HN:=Lib.hid hr.1
  have HRK:=Lib.hid fun (w' : World) (hb : Below w0.heap.size w0 w')=>hr.below hb
  have HC:=Lib.hid hclo;have HNB:=Lib.hid hn;obtain ⟨R,hR⟩ : ∃ R,R = xs.any P:=⟨_,rfl⟩;rw [← hR];have HR:=Lib.hid hR;clear hr hclo hR hn
  go_enter Tryz.func102,Tryz.ntmps102
  go_wp2_with fail
  go_loopw [5,8] (fun _ i wr=>∃ k : Nat,k≤n∧i = .int .i64 (k : Nat)∧(∀ j x,j < k→xs[j]? = some x→P x = false)∧Below w0.heap.size w0 wr) (fun _ i _=>n - (intOf i).toNat)
  case atStart=>exact ⟨0,by omega,rfl,fun j x hj=>by omega,Below.refl _ _⟩
  case round =>
  obtain ⟨k,hkn,rfl,hall,gb⟩:=hrel;have HA:=Lib.hid hall;clear hall
  by_cases hlt : k < n
  · have hkl : k < xs.length:=by rw [← HN.out];exact hlt
    have hkb : k < 10000000000000:=by have:=HNB.out;omega
    obtain ⟨hok,ad,hA,hab,hcs⟩:=(HRK.out wr gb).2 k _ (List.getElem?_eq_getElem hkl);have hc:=HC.out _ (List.getElem_mem hkl) wr gb;have e1 : xs[k]? = some xs[k]:=List.getElem?_eq_getElem hkl;have hmem : xs[k] ∈ xs:=List.getElem_mem hkl
    generalize xs[k] = x at *
    subst hA;obtain ⟨cs,hcx⟩ : ∃ cs,cs = x.cs:=⟨_,rfl⟩;rw [← hcx] at hcs hc;have HSZ:=Lib.hid (show cs.size = 14 by rw [hcx];rfl);have HCS:=Lib.hid hcs;obtain ⟨b,hb⟩ : ∃ b,b = P x:=⟨_,rfl⟩;rw [← hb] at hc;have HB:=Lib.hid hb;have HCL:=Lib.hid hc;have E1:=Lib.hid e1;have HM:=Lib.hid hmem
    have hk0 : (0 : Int)≤(k : Int):=by omega
    have hkm : (k : Int) < (n : Int):=by omega
    clear hcs hc hb hok hcx e1 hmem
    go_upto_region 4 with fail
    go_wp2_with ((with_reducible refine wpList_lda rowE HCS.out HSZ.out ?_ ?_);rotate_left;(rfl))
    refine HCL.out.mono ?_;rintro e w1 ⟨rfl,b1⟩;have gb:=gb.trans (b1.mono gb.size);clear b1 HCL
    cases b
    case true =>
      have hr : R = true:=by rw [HR.out];exact List.any_eq_true.2 ⟨x,HM.out,HB.out.symm⟩
      subst hr;go_wp2_with fail;go_ret;exact ⟨⟨_,rfl,decide_eq_true hk0⟩,gb⟩
    case false =>
      go_wp2_with fail
      go_roundw
      case rel=>exact ⟨k + 1,by omega,by go_num,fun j y hj hy=>by
        by_cases e : j = k
        · subst e
          rw [E1.out] at hy
          injection hy with hy
          rw [← hy];exact HB.out.symm
        · exact HA.out j y (by omega) hy,gb⟩
      case measure=>simp [intOf];omega
  · obtain rfl : k = n:=by omega
    have hr : R = false:=by
      rw [HR.out,List.any_eq_false];intro x hx;obtain ⟨j,hj,e⟩:=List.getElem_of_mem hx;rw [HA.out j x (by rw [HN.out];exact hj) (by rw [List.getElem?_eq_getElem hj,e])]
      decide
    subst hr
    have hkk : ¬ (k : Int) < (k : Int):=by omega
    go_wp2_with fail;go_ret;exact ⟨⟨-1,rfl,by decide⟩,gb⟩
theorem containsE_any (A : Option Addr) (n c : Nat) (xs : List EvV) (fid : FuncId) (cap : Array Value) (P : EvV→Bool) (w0 : World) (hr : RowEv w0 w0.heap.size A n xs) (hn : n≤10000000000000)
    (hk : ∀ args w,(callFunc fid args).run Tryz.prog w = .ok (.enter fid args) w)
    (hclo : ∀ x ∈ xs,∀ w,Below w0.heap.size w0 w→Calls Tryz.prog fid (#[.agg x.cs] ++ cap) w fun e w'=>e = .returned (.bool (P x))∧Below w.heap.size w w') :
    Calls Tryz.prog 81 #[.slice A n c,.func (.func fid) #[] cap] w0 fun e w'=>e = .returned (.bool (xs.any P))∧Below w0.heap.size w0 w':=by
  have HI:=Lib.hid (indexE_any A n c xs fid cap P w0 hr hn hk hclo)
  generalize xs.any P = R at *
  clear hr hclo hk hn
  go_enter Tryz.func81,Tryz.ntmps81
  go_wp2_with fail;refine HI.out.mono ?_;rintro e w1 ⟨⟨z,rfl,hz⟩,b1⟩;have HZ:=Lib.hid hz;clear hz;go_wp2_with fail;go_ret;exact ⟨by rw [← HZ.out];rfl,b1⟩
namespace Sto
theorem has1_any (x : EvV) (g : Nat) (n q : Int) (w : World) (kd : Blk w g 42 #[.int .i64 n,.int .i64 q]) :
    Calls Tryz.prog 82 #[.agg x.cs,.pointer (some ⟨g,0,none⟩)] w fun e w'=>e = .returned (.bool (decide (x.e.d = (n,q))))∧Below w.heap.size w w':=by
  obtain ⟨R,hR⟩ : ∃ R,R = decide (x.e.d = (n,q)):=⟨_,rfl⟩;rw [← hR];obtain ⟨cs,hcx⟩ : ∃ cs,cs = x.cs:=⟨_,rfl⟩;rw [← hcx];have X0:=Lib.hid (show cs[0]? = some (.int .i64 x.e.d.1) by rw [hcx];rfl);have X1:=Lib.hid (show cs[1]? = some (.int .i64 x.e.d.2) by rw [hcx];rfl)
  generalize x.e.d = d at *
  obtain ⟨n',q'⟩:=d;clear hcx
  by_cases e1 : n' = n
  · by_cases e2 : q' = q
    · have hr : R = true:=by rw [hR,e1,e2];exact decide_eq_true rfl
      subst hr e1 e2;clear hR
      go_enter Tryz.func82,Tryz.ntmps82
      go_upto_region 1 with fail
      refine nameW ?_;intro W hW
      have kb : Blk W w.heap.size 47 cs:=by rw [hW];exact Blk.new _ _ _
      have gb : Below w.heap.size w W:=by rw [hW];exact (Below.refl _ _).alloc (Nat.le_refl _) _
      have kd:=kd.below gb kd.lt;have c0:=(kb.cell 0).trans X0.out;have c1:=(kb.cell 1).trans X1.out;have d0 : W.cell? ⟨g,0,none⟩ = some (.int .i64 n'):=kd.cell 0;have d1 : W.cell? ⟨g,1,none⟩ = some (.int .i64 q'):=kd.cell 1;clear hW kb kd;go_wp2_with fail;go_ret;exact ⟨rfl,gb⟩
    · have hr : R = false:=by rw [hR];exact decide_eq_false (fun h=>e2 (congrArg Prod.snd h))
      subst hr e1;clear hR
      go_enter Tryz.func82,Tryz.ntmps82
      go_upto_region 1 with fail
      refine nameW ?_;intro W hW
      have kb : Blk W w.heap.size 47 cs:=by rw [hW];exact Blk.new _ _ _
      have gb : Below w.heap.size w W:=by rw [hW];exact (Below.refl _ _).alloc (Nat.le_refl _) _
      have kd:=kd.below gb kd.lt;have c0:=(kb.cell 0).trans X0.out;have c1:=(kb.cell 1).trans X1.out;have d0 : W.cell? ⟨g,0,none⟩ = some (.int .i64 n'):=kd.cell 0;have d1 : W.cell? ⟨g,1,none⟩ = some (.int .i64 q):=kd.cell 1;clear hW kb kd;go_wp2_with fail;go_ret;exact ⟨rfl,gb⟩
  · have hr : R = false:=by rw [hR];exact decide_eq_false (fun h=>e1 (congrArg Prod.fst h))
    subst hr;clear hR
    go_enter Tryz.func82,Tryz.ntmps82
    go_upto_region 1 with fail
    refine nameW ?_;intro W hW
    have kb : Blk W w.heap.size 47 cs:=by rw [hW];exact Blk.new _ _ _
    have gb : Below w.heap.size w W:=by rw [hW];exact (Below.refl _ _).alloc (Nat.le_refl _) _
    have kd:=kd.below gb kd.lt;have c0:=(kb.cell 0).trans X0.out;have c1:=(kb.cell 1).trans X1.out;have d0 : W.cell? ⟨g,0,none⟩ = some (.int .i64 n):=kd.cell 0;have d1 : W.cell? ⟨g,1,none⟩ = some (.int .i64 q):=kd.cell 1;clear hW kb kd;go_wp2_with fail;go_ret;exact ⟨rfl,gb⟩
def hasE (l : List Ev) (d : Dt) : Bool:=l.any fun e=>decide (e.d = d)
theorem shas_any (A : Option Addr) (n c : Nat) (xs : List EvV) (x y : Int) (w0 : World) (hr : RowEv w0 w0.heap.size A n xs) (hn : n≤10000000000000) :
    Calls Tryz.prog 53 #[.slice A n c,.agg #[.int .i64 x,.int .i64 y]] w0 fun e w'=>e = .returned (.bool (hasE (xs.map (·.e)) (x,y)))∧Below w0.heap.size w0 w':=by
  have hck : ∀ args w,(callFunc 82 args).run Tryz.prog w = .ok (.enter 82 args) w:=by
    intro args w
    simp [go_sem]
  have hx : hasE (xs.map (·.e)) (x,y) = xs.any fun z=>decide (z.e.d = (x,y)):=by unfold hasE;rw [List.any_map];rfl
  rw [hx]
  have HRK:=Lib.hid fun (w' : World) (hb : Below w0.heap.size w0 w')=>(hr.below hb).more hb.size
  have HCK:=Lib.hid hck
  obtain ⟨R,hR⟩ : ∃ R,R = xs.any fun z=>decide (z.e.d = (x,y)):=⟨_,rfl⟩
  rw [← hR];have HR:=Lib.hid hR;have HNB:=Lib.hid hn;clear hck hr hx hR hn
  go_enter Tryz.func53,Tryz.ntmps53
  go_upto_region 1 with fail
  refine nameW ?_;intro W hW;obtain ⟨g,hg⟩ : ∃ g,g = w0.heap.size:=⟨_,rfl⟩;rw [← hg]
  have kb : Blk W g 42 #[.int .i64 x,.int .i64 y]:=by rw [hW,hg];exact Blk.new _ _ _
  have gb : Below w0.heap.size w0 W:=by rw [hW];exact (Below.refl _ _).alloc (Nat.le_refl _) _
  clear hW hg;have HCN:=Lib.hid (containsE_any A n c xs 82 #[.pointer (some ⟨g,0,none⟩)] (fun z=>decide (z.e.d = (x,y))) W (HRK.out W gb) HNB.out HCK.out (fun z _ w hb=>has1_any z g x y w (kb.below hb kb.lt)));go_wp2_with fail;refine HCN.out.mono ?_;rintro e w1 ⟨rfl,b1⟩;have gb:=gb.trans (b1.mono gb.size);rw [← HR.out];go_wp2_with fail;go_ret;exact ⟨rfl,gb⟩
end Sto
end Go.Proofs.YtfpenfgmpbdakaaGreat

namespace Go.Proofs.YtfpenfgmpbdakaaGreat
set_option linter.unusedVariables false
set_option linter.unusedSimpArgs false
set_option maxRecDepth 100000
open Go.RowKit
open Dot Evt
theorem numsE_len (x : Ev) (hp : x.p.length = 7) : (numsE x).length≤13 + 2 * x.l.length:=by
  have hd : (dotNums x.l).length = 2 * x.l.length:=by rw [← dotN_len,← dotNums_nat,List.length_map]
  unfold numsE
  rw [List.length_append]
  split
  · simp only [List.length_cons,List.length_nil];omega
  · rw [List.length_append,List.length_append,hd]
    split
    · simp only [List.length_cons,List.length_nil,hp];omega
    · simp only [List.length_cons,List.length_nil];omega
theorem encE_len {x : Ev} (hp : x.p.length = 7) (hx : rightE x = true) : (encE x).length≤1230:=by
  have h:=encN_len ((numsE x).map Int.toNat);rw [List.length_map] at h;have h2:=numsE_len x hp;have h3:=(right_facts hp hx).2.2.1
  unfold encE
  omega
end Go.Proofs.YtfpenfgmpbdakaaGreat

namespace Go.Proofs.YtfpenfgmpbdakaaGreat
set_option linter.unusedVariables false
set_option linter.unusedSimpArgs false
set_option maxRecDepth 100000
open Go.RowKit
open Dot Evt
namespace Sto
set_option maxHeartbeats 1000000 in
theorem own_any (x : EvV) (w : World) (hx : EvOk w w.heap.size x) (hm : x.m≤100000) :
    Calls Tryz.prog 54 #[.agg x.cs] w fun e w'=>∃ z : EvV,e = .returned (.agg z.cs)∧z.e = x.e∧EvOwn w' w.heap.size z∧Below w.heap.size w w':=by
  obtain ⟨cs,hcs⟩ : ∃ cs,cs = x.cs:=⟨_,rfl⟩;have HSZ:=Lib.hid (show cs.size = 14 by rw [hcs];rfl);have X13:=Lib.hid (show cs[13]? = some (.slice x.A x.m x.c) by rw [hcs];rfl);have XS:=Lib.hid (fun (A' : Option Addr) (c' : Nat)=>(show cs.setIfInBounds 13 (.slice A' x.m c') = ec x.e (.slice A' x.m c') by rw [hcs];rfl));rw [← hcs];have HX:=Lib.hid hx;have HM:=Lib.hid hm;clear hx hm hcs
  go_enter Tryz.func54,Tryz.ntmps54
  go_upto_region 1 with fail
  refine nameW ?_;intro wv hwv;obtain ⟨b,hb⟩ : ∃ b,b = w.heap.size:=⟨_,rfl⟩;rw [← hb]
  have kb : Blk wv b 47 cs:=by rw [hwv,hb];exact (Blk.new w _ _).alloc _
  have kz : Blk wv (b + 1) 47 (cT 0):=by
    have h:=Blk.new (w.alloc (.cells cs 47)) 47 (cT 0);rw [show (w.alloc (.cells cs 47)).heap.size = w.heap.size + 1 by simp] at h;rw [hwv,hb];exact h
  have gb : Below w.heap.size w wv:=by rw [hwv];exact ((Below.refl _ _).alloc (Nat.le_refl _) _).alloc (by simp) _
  have t13 : wv.cell? ⟨b,13,none⟩ = some (.slice x.A x.m x.c):=(kb.cell 13).trans X13.out;have HCL:=Lib.hid (cloneDt_any x.A x.m x.c x.e.l w.heap.size wv (HX.out.2.1.below gb) gb.size (by have:=HM.out;omega))
  have hbw : w.heap.size≤b:=by omega
  clear hwv hb;go_wp2_with fail;refine HCL.out.mono ?_;rintro e w3 ⟨A',c',rfl,o3,b3⟩;have kb3:=kb.below b3 kb.lt;have kz3:=kz.below b3 kz.lt;have gb3:=gb.trans (b3.mono gb.size);have hbv:=kz.lt;have c3 : w3.cell? ⟨b,13,none⟩ = some (.slice x.A x.m x.c):=(kb3.cell 13).trans X13.out;have f3:=kb3.free 13;have hl3:=kb3.lt;have kb4:=kb3.set_ 13 (.slice A' x.m c');rw [XS.out] at kb4;have kz4:=kz3.far (p:=⟨b,13,none⟩) (by simp) (.slice A' x.m c');have o4:=o3.setFar (p:=⟨b,13,none⟩) (fun h=>by have h9 : wv.heap.size≤b:=(o3.lt _ h).1;omega) (.slice A' x.m c');have gb4 : Below w.heap.size w (w3.setCell ⟨b,13,none⟩ (.slice A' x.m c')):=gb3.setCell (p:=⟨b,13,none⟩) hbw _;obtain ⟨z,hz⟩ : ∃ z : EvV,z = ⟨x.e,A',x.m,c'⟩:=⟨_,rfl⟩
  have hzc : ec x.e (.slice A' x.m c') = z.cs:=by rw [hz];rfl
  rw [hzc] at kb4;have SZ:=Lib.hid z.size;have OZ:=Lib.hid z.one;have HZ0:=Lib.hid (show (cT 0).size = 14 from rfl);have HZ:=Lib.hid hz;clear kb3 kz3 gb3 kb kz gb hzc hz t13
  go_upto_region 2 with fail
  refine nameW ?_;intro w4 hw4;rw [← hw4] at kb4 kz4 o4 gb4;clear hw4 c3 f3 o3 hl3
  generalize hCZ : z.cs = CZ at *
  go_wp2_with first
    | ((with_reducible refine wpList_ld rowE kb4 SZ.out ?_ ?_);rotate_left;(rfl))
    | ((with_reducible refine wpList_st rowE kz4 SZ.out HZ0.out OZ.out ?_ ?_ ?_);rotate_left;(rfl);(rfl);intro w5 k5 g5 z5)
  have o5:=o4.grown g5 (.inr (own_ne o4.2 kz4 (by decide)));refine bodyPost_ret (v:=.agg CZ) (results_blk rfl rowE k5 SZ.out rfl) rfl ⟨z,by rw [hCZ],by rw [HZ.out],?_,gb4.grown g5 gb4.size (fun q hq=>by injection hq;omega)⟩;rw [HZ.out];exact ⟨HX.out.1,o5.mono (by omega),HX.out.2.2⟩
set_option maxRecDepth 100000 in
set_option maxHeartbeats 2000000 in
theorem owns_any (A : Option Addr) (n c : Nat) (xs : List EvV) (w : World) (hn : n≤100000) (hR : RowEv w w.heap.size A n xs) (hm : ∀ x ∈ xs,x.m≤100000) :
    Calls Tryz.prog 58 #[.slice A n c] w (CopiesEnd w n xs):=by
  have HN:=Lib.hid hR.1
  have HRK:=Lib.hid fun (w' : World) (hb : Below w.heap.size w w')=>hR.below hb
  have HNB:=Lib.hid hn;have HM:=Lib.hid hm;clear hR hn hm;obtain ⟨B,hB⟩ : ∃ B,B = w.heap.size:=⟨_,rfl⟩;have HB:=Lib.hid hB;rw [← hB] at HRK;clear hB
  go_enter Tryz.func58,Tryz.ntmps58
  go_wp2_with fail
  go_loopw [2,7] (fun s i wr=>∃ (k : Nat) (A' : Option Addr) (c' : Nat) (ys : List EvV),k≤n∧i = .int .i64 k∧s = .slice A' k c'∧OwnEv wr B A' k c' ys∧(∀ y ∈ ys,EvOwn wr B y)∧ys.map (·.e) = (xs.take k).map (·.e)∧Below B w wr) (fun _ i _=>n - (intOf i).toNat)
  case atStart=>exact ⟨0,none,0,[],by omega,rfl,rfl,OwnEv.nil _ _,fun y hy=>by simp at hy,rfl,by rw [HB.out];exact Below.refl _ _⟩
  case round =>
    obtain ⟨k,A',c',ys,hk,rfl,rfl,ho,hys,hmp,gb⟩:=hrel;have HYS:=Lib.hid hys;have HMP:=Lib.hid hmp;clear hys hmp
    by_cases hlt : k < n
    · have hkl : k < xs.length:=by rw [← HN.out];exact hlt
      have hgs : B≤wr.heap.size:=by have:=gb.size;have:=HB.out;omega
      obtain ⟨hok,ad,hA,hab,hcell⟩:=(HRK.out wr gb).2 k _ (List.getElem?_eq_getElem hkl);have hsn:=take_snoc xs hkl;have hmm:=HM.out _ (List.getElem_mem hkl)
      generalize xs[k] = x at *
      subst hA;obtain ⟨cs,hcs⟩ : ∃ cs,cs = x.cs:=⟨_,rfl⟩;rw [← hcs] at hcell;have HCS:=Lib.hid hcs;have HSZ:=Lib.hid (show cs.size = 14 by rw [hcs];rfl);have H1C:=Lib.hid (show cs.all (·.oneCell') = true by rw [hcs];exact x.one);have HC:=Lib.hid hcell;have HSN:=Lib.hid hsn;have HOK:=Lib.hid hok;have HMM:=Lib.hid hmm
      have hk0 : (0 : Int)≤(k : Int):=by omega
      have hkm : (k : Int) < (n : Int):=by omega
      clear hcell hok hsn hmm hcs
      go_upto_region 3 with fail
      go_upto_region 4 with first
        | ((with_reducible refine wpList_lda rowE HC.out HSZ.out ?_ ?_);rotate_left;(rfl))
        | ((with_reducible refine wpList_st rowE (Blk.new _ _ _) HSZ.out ?_ H1C.out ?_ ?_ ?_);(rfl);rotate_left;(rfl);(rfl);intro w6 k6 g6 z6)
      have bA : Below wr.heap.size wr w6:=(((Below.refl _ _).alloc (Nat.le_refl _) _).grown g6 (by simp) (fun q hq=>by injection hq with hq;omega));have gb6:=gb.trans (bA.mono hgs);have ho6:=ho.below bA (Nat.le_refl _)
      have hys6 : ∀ y ∈ ys,EvOwn w6 B y:=fun y hy=>by
        obtain ⟨q1,q2,q3⟩:=HYS.out y hy;exact ⟨q1,q2.below bA (Nat.le_refl _),q3⟩
      have hok6:=HOK.out.below (bA.mono hgs);obtain ⟨gr,hgr2⟩ : ∃ gr,gr = wr.heap.size:=⟨_,rfl⟩
      have hgr3 : B≤gr:=by omega
      rw [← hgr2] at k6 ⊢;have HYS6:=Lib.hid hys6
      have hs6 : B≤w6.heap.size:=by have:=gb6.size;have:=HB.out;omega
      have hcp:=own_any x w6 (hok6.more hs6) HMM.out;rw [← HCS.out] at hcp;have HCP:=Lib.hid hcp;clear hgr2 g6 z6 bA gb ho HYS hys6 hcp hok6
      go_wp2_with first
        | ((with_reducible refine wpList_ld rowE k6 HSZ.out ?_ ?_);rotate_left;(rfl))
      refine HCP.out.mono ?_;rintro e w7 ⟨z,rfl,hze,hz,b7⟩;have ho7:=ho6.below b7 (Nat.le_refl _)
      have hys7 : ∀ y ∈ ys,EvOwn w7 B y:=fun y hy=>by
        obtain ⟨q1,q2,q3⟩:=HYS6.out y hy;exact ⟨q1,q2.below b7 (Nat.le_refl _),q3⟩
      have gb7:=gb6.trans (b7.mono hs6);have hz : EvOwn w7 B z:=⟨hz.1,hz.2.1.mono hs6,hz.2.2⟩;have HZ:=Lib.hid hz;have HZE:=Lib.hid hze;have HBS:=Lib.hid (fun w=>buildE1 z w);have HYS7:=Lib.hid hys7
      have hs7 : B≤w7.heap.size:=by have:=gb7.size;have:=HB.out;omega
      obtain ⟨cz,hcz2⟩ : ∃ cz,cz = z.cs:=⟨_,rfl⟩;have HCZ:=Lib.hid hcz2;rw [← hcz2] at HBS ⊢;clear hz hze hcz2 hys7 HYS6 b7 ho6 gb6
      go_wp2_with first
        | ((refine wpList_bs (v:=.slice (some ⟨w7.heap.size,0,none⟩) 1 1) (w':=w7.alloc (.cells cz 47)) rfl 48 1 #[(0,.tmp 13)] rfl ?_ ?_);(simp only [List.map_toArray,List.map_cons,List.map_nil];exact HBS.out w7))
        | (at_builtin;refine wpList_appE rfl (.tmp 11) (.tmp 14) rfl rfl (ho7.alloc _) rfl (news:=[z]) (B:=w7.heap.size + 1) ?hd1 rfl ?hd2 ?hd3 ?_)
      case hd1 =>
        have h:=Rd.made w7 cz 47 (0,0);rw [show ecsL [z] = cz.toList by rw [HCZ.out];simp [ecsL]];exact h
      case hd2=>have:=HNB.out;omega
      case hd3=>simp;omega
      intro A3 c3 w8 o8 g8 m8 b8;have gb8:=gb7.trans (((Below.refl _ _).alloc hs7 (.cells cz 47)).trans b8)
      have hys8 : ∀ y ∈ ys ++ [z],EvOwn w8 B y:=fun y hy=>by
        have hy2 : EvOwn w7 B y:=by
          rcases List.mem_append.1 hy with h | h
          · exact HYS7.out y h
          · simp at h;rw [h];exact HZ.out
        exact ⟨hy2.1,(hy2.2.1.alloc (.cells cz 47)).grown g8 (own2_ne hy2.2.1.2 ho7.2 (by decide)),hy2.2.2⟩
      have HYS8:=Lib.hid hys8;clear hys8 g8 m8 b8 HYS7;go_wp2_with fail
      go_roundw
      case rel=>exact ⟨k + 1,A3,c3,ys ++ [z],by omega,num_succ k (by have:=HNB.out;omega),rfl,o8,HYS8.out,by rw [HSN.out,List.map_append,List.map_append,HMP.out];simp [HZE.out],gb8⟩
      case measure=>exact meas_succ k n hlt (by have:=HNB.out;omega)
    · have hkn : k = n:=by omega
      have hkd : decide ((k : Int) < (n : Int)) = false:=decide_eq_false (by omega);have hmp:=HMP.out;rw [List.take_of_length_le (by rw [← HN.out];omega)] at hmp;have HMP2:=Lib.hid hmp;clear hmp HMP;subst hkn;go_wp2_with fail;go_ret;exact ⟨A',c',ys,rfl,by rw [← HB.out];exact ho,by rw [← HB.out];exact HYS.out,HMP2.out,by rw [← HB.out];exact gb⟩
def told3 (x : Ev) : List UInt8:=3 :: (putE x).1
theorem told3_bad (x : EvV) (w : World) (hx : EvOk w w.heap.size x) (hr : rightE x.e = false) :
    Calls Tryz.prog 52 #[.agg x.cs] w fun e w'=>e = .panicked [{ v:=flt 2,recovered:=false }]∧Below w.heap.size w w':=by
  have HP:=Lib.hid fun (w' : World) (hb : Below w.heap.size w w')=>eput_any x.e hx.1 x.A x.m x.c w' ((hx.2.1.below hb).more hb.size)
  obtain ⟨cs,hcs⟩ : ∃ cs,cs = x.cs:=⟨_,rfl⟩
  have hcs2 : ec x.e (.slice x.A x.m x.c) = cs:=by rw [hcs];rfl
  have SZ:=Lib.hid (show cs.size = 14 by rw [hcs];rfl);rw [hcs2] at HP;rw [← hcs]
  have hp : putE x.e = ([],2):=by unfold putE;rw [hr];rfl
  rw [hp] at HP;clear hx hcs hcs2 hp hr
  go_enter Tryz.func52,Tryz.ntmps52
  go_upto_region 1 with fail
  refine nameW ?_;intro W hW
  have kb : Blk W w.heap.size 47 cs:=by rw [hW];exact Blk.new _ _ _
  have gb : Below w.heap.size w W:=by rw [hW];exact (Below.refl _ _).alloc (Nat.le_refl _) _
  clear hW
  go_wp2_with ((with_reducible refine wpList_ld rowE kb SZ.out ?_ ?_);rotate_left;(rfl))
  refine (HP.out W gb).mono ?_;rintro e w1 ⟨A,n1,c1,rfl,ho,b1⟩;have gb1:=gb.trans (b1.mono gb.size);go_wp2_with fail;refine (must_no (by first | with_reducible rfl | assumption | (simp;done) | (simp;omega)) _ _).mono ?_;rintro e w2 ⟨rfl,rfl⟩;go_wp2_with fail;exact ⟨rfl,rfl,gb1⟩
theorem told3_any (x : EvV) (w : World) (hx : EvOk w w.heap.size x) (hr : rightE x.e = true) :
    Calls Tryz.prog 52 #[.agg x.cs] w (GiveB w (told3 x.e)):=by
  have HP:=Lib.hid fun (w' : World) (hb : Below w.heap.size w w')=>eput_any x.e hx.1 x.A x.m x.c w' ((hx.2.1.below hb).more hb.size)
  obtain ⟨cs,hcs⟩ : ∃ cs,cs = x.cs:=⟨_,rfl⟩
  have hcs2 : ec x.e (.slice x.A x.m x.c) = cs:=by rw [hcs];rfl
  have SZ:=Lib.hid (show cs.size = 14 by rw [hcs];rfl);rw [hcs2] at HP;rw [← hcs]
  have hp : putE x.e = (encE x.e,0):=by unfold putE;rw [hr];rfl
  have hlen:=encE_len hx.1 hr
  have ht : told3 x.e = 3 :: encE x.e:=by unfold told3;rw [hp]
  rw [hp] at HP;rw [ht]
  generalize encE x.e = PB at *
  clear hx hcs hcs2 hp hr ht
  go_enter Tryz.func52,Tryz.ntmps52
  go_upto_region 1 with fail
  refine nameW ?_;intro W hW
  have kb : Blk W w.heap.size 47 cs:=by rw [hW];exact Blk.new _ _ _
  have gb : Below w.heap.size w W:=by rw [hW];exact (Below.refl _ _).alloc (Nat.le_refl _) _
  clear hW
  go_wp2_with ((with_reducible refine wpList_ld rowE kb SZ.out ?_ ?_);rotate_left;(rfl))
  refine (HP.out W gb).mono ?_;rintro e w1 ⟨A,n1,c1,rfl,ho,b1⟩;have gb1:=gb.trans (b1.mono gb.size);have HO:=Lib.hid ho
  have hn1 : n1≤100000000:=by rw [ho.1];omega
  clear ho b1 kb gb;go_wp2_with fail;refine (must_ok _ _).mono ?_;rintro e w2 ⟨rfl,rfl⟩;have hba : Below w1.heap.size w1 (w1.alloc (.cells #[.int .u8 3] 5)):=(Below.refl _ _).alloc (Nat.le_refl _) _
  go_wp2_with (at_builtin;refine wpList_appB rfl (.tmp 14) (.tmp 15) rfl rfl (OwnB.made w1 w1.heap.size [3] #[.int .u8 3] 1 rfl rfl (Nat.le_refl _) (by unfold maxLen;omega)) rfl (HO.out.rd.below hba) (by omega) (by simp) ?_)
  intro A' c' w3 o3 _ _ b3;rw [show 1 + n1 = n1 + 1 from Nat.add_comm _ _] at *;have HO3:=Lib.hid o3;have gb3:=gb1.trans ((hba.trans b3).mono gb1.size);clear o3 b3 hba;go_wp2_with fail;go_ret;exact ⟨A',n1 + 1,c',rfl,HO3.out.mono gb1.size,gb3⟩
theorem inc_any (b g used u i : Nat) (E : Value) (w : World) (h0 : Blk w b 88 (sc g used u i E)) :
    Calls Tryz.prog 31 #[.pointer (some ⟨b,0,none⟩)] w fun e w'=>e = .returned (.int .i64 (i : Nat))∧w = w':=by
  have c0:=h0.cell 3
  go_enter Tryz.func31,Tryz.ntmps31
  go_wp2_with fail;go_ret;exact ⟨rfl,rfl⟩
theorem events_any (b g used u i : Nat) (A : Option Addr) (n c : Nat) (xs : List EvV) (w : World) (h0 : Blk w b 88 (sc g used u i (.slice A n c))) (hn : n≤100000) (hR : RowEv w w.heap.size A n xs) (hm : ∀ x ∈ xs,x.m≤100000) :
    Calls Tryz.prog 30 #[.pointer (some ⟨b,0,none⟩)] w (CopiesEnd w n xs):=by
  have c0:=h0.cell 4;have c0 : w.cell? ⟨b,4,none⟩ = some (.slice A n c):=c0;have HO:=Lib.hid (owns_any A n c xs w hn hR hm);clear h0 hn hR hm
  go_enter Tryz.func30,Tryz.ntmps30
  go_wp2_with fail;refine HO.out.mono ?_;rintro e w1 ⟨A',c',ys,rfl,h1,h2,h3,h4⟩;go_wp2_with fail;go_ret;exact ⟨A',c',ys,rfl,h1,h2,h3,h4⟩
end Sto
end Go.Proofs.YtfpenfgmpbdakaaGreat

namespace Go.Proofs.YtfpenfgmpbdakaaGreat
set_option linter.unusedVariables false
set_option linter.unusedSimpArgs false
set_option maxRecDepth 100000
open Go.RowKit
open Dot Evt
set_option maxRecDepth 100000 in
set_option maxHeartbeats 4000000 in
theorem rpol_any (p : List Int) (w : World) : Calls Tryz.prog 86 #[.agg (pc p)] w fun e w'=>e = .returned (.bool (polB p))∧Below w.heap.size w w':=by
  have hbb : Below w.heap.size w (w.alloc (.cells (pc p) 44)):=(Below.refl _ _).alloc (Nat.le_refl _) _;obtain ⟨R,hR⟩ : ∃ R,R = polB p:=⟨_,rfl⟩;rw [← hR];have hR2:=@polB_iff p;rw [← hR] at hR2;clear hR
  unfold pc at hbb ⊢
  generalize p.getD 0 0 = p0,p.getD 1 0 = p1,p.getD 2 0 = p2,p.getD 3 0 = p3,p.getD 4 0 = p4,p.getD 5 0 = p5,p.getD 6 0 = p6 at *
  have HR:=Lib.hid hR2;clear hR2
  by_cases h0 : 0≤p0
  rotate_left
  · have hf : R = false:=by
      rw [← Bool.not_eq_true,HR.out]
      omega
    have d0 : decide (0≤p0) = false:=decide_eq_false h0;subst hf;clear h0
    go_enter Tryz.func86,Tryz.ntmps86
    go_wp2_with fail;go_ret;exact ⟨rfl,hbb⟩
  have d0 : decide (0≤p0) = true:=decide_eq_true h0
  by_cases h1 : p0≤p1
  rotate_left
  · have hf : R = false:=by
      rw [← Bool.not_eq_true,HR.out]
      omega
    have d1 : decide (p0≤p1) = false:=decide_eq_false h1;subst hf;clear h0 h1
    go_enter Tryz.func86,Tryz.ntmps86
    go_wp2_with fail;go_ret;exact ⟨rfl,hbb⟩
  have d1 : decide (p0≤p1) = true:=decide_eq_true h1
  by_cases h2 : p1≤1000
  rotate_left
  · have hf : R = false:=by
      rw [← Bool.not_eq_true,HR.out]
      omega
    have d2 : decide (p1≤1000) = false:=decide_eq_false h2;subst hf;clear h0 h1 h2
    go_enter Tryz.func86,Tryz.ntmps86
    go_wp2_with fail;go_ret;exact ⟨rfl,hbb⟩
  have d2 : decide (p1≤1000) = true:=decide_eq_true h2
  by_cases h3 : 1≤p2
  rotate_left
  · have hf : R = false:=by
      rw [← Bool.not_eq_true,HR.out]
      omega
    have d3 : decide (1≤p2) = false:=decide_eq_false h3;subst hf;clear h0 h1 h2 h3
    go_enter Tryz.func86,Tryz.ntmps86
    go_wp2_with fail;go_ret;exact ⟨rfl,hbb⟩
  have d3 : decide (1≤p2) = true:=decide_eq_true h3
  by_cases h4 : p2≤1073741824
  rotate_left
  · have hf : R = false:=by
      rw [← Bool.not_eq_true,HR.out]
      omega
    have d4 : decide (p2≤1073741824) = false:=decide_eq_false h4;subst hf;clear h0 h1 h2 h3 h4
    go_enter Tryz.func86,Tryz.ntmps86
    go_wp2_with fail;go_ret;exact ⟨rfl,hbb⟩
  have d4 : decide (p2≤1073741824) = true:=decide_eq_true h4
  by_cases h5 : 0≤p3
  rotate_left
  · have hf : R = false:=by
      rw [← Bool.not_eq_true,HR.out]
      omega
    have d5 : decide (0≤p3) = false:=decide_eq_false h5;subst hf;clear h0 h1 h2 h3 h4 h5
    go_enter Tryz.func86,Tryz.ntmps86
    go_wp2_with fail;go_ret;exact ⟨rfl,hbb⟩
  have d5 : decide (0≤p3) = true:=decide_eq_true h5
  by_cases h6 : p3≤100
  rotate_left
  · have hf : R = false:=by
      rw [← Bool.not_eq_true,HR.out]
      omega
    have d6 : decide (p3≤100) = false:=decide_eq_false h6;subst hf;clear h0 h1 h2 h3 h4 h5 h6
    go_enter Tryz.func86,Tryz.ntmps86
    go_wp2_with fail;go_ret;exact ⟨rfl,hbb⟩
  have d6 : decide (p3≤100) = true:=decide_eq_true h6
  by_cases h7 : 1≤p4
  rotate_left
  · have hf : R = false:=by
      rw [← Bool.not_eq_true,HR.out]
      omega
    have d7 : decide (1≤p4) = false:=decide_eq_false h7;subst hf;clear h0 h1 h2 h3 h4 h5 h6 h7
    go_enter Tryz.func86,Tryz.ntmps86
    go_wp2_with fail;go_ret;exact ⟨rfl,hbb⟩
  have d7 : decide (1≤p4) = true:=decide_eq_true h7
  by_cases h8 : p4≤1000
  rotate_left
  · have hf : R = false:=by
      rw [← Bool.not_eq_true,HR.out]
      omega
    have d8 : decide (p4≤1000) = false:=decide_eq_false h8;subst hf;clear h0 h1 h2 h3 h4 h5 h6 h7 h8
    go_enter Tryz.func86,Tryz.ntmps86
    go_wp2_with fail;go_ret;exact ⟨rfl,hbb⟩
  have d8 : decide (p4≤1000) = true:=decide_eq_true h8
  by_cases h9 : 1≤p5
  rotate_left
  · have hf : R = false:=by
      rw [← Bool.not_eq_true,HR.out]
      omega
    have d9 : decide (1≤p5) = false:=decide_eq_false h9;subst hf;clear h0 h1 h2 h3 h4 h5 h6 h7 h8 h9
    go_enter Tryz.func86,Tryz.ntmps86
    go_wp2_with fail;go_ret;exact ⟨rfl,hbb⟩
  have d9 : decide (1≤p5) = true:=decide_eq_true h9
  by_cases h10 : p5≤1000
  rotate_left
  · have hf : R = false:=by
      rw [← Bool.not_eq_true,HR.out]
      omega
    have d10 : decide (p5≤1000) = false:=decide_eq_false h10;subst hf;clear h0 h1 h2 h3 h4 h5 h6 h7 h8 h9 h10
    go_enter Tryz.func86,Tryz.ntmps86
    go_wp2_with fail;go_ret;exact ⟨rfl,hbb⟩
  have d10 : decide (p5≤1000) = true:=decide_eq_true h10
  by_cases h11 : 0≤p6
  rotate_left
  · have hf : R = false:=by
      rw [← Bool.not_eq_true,HR.out]
      omega
    have d11 : decide (0≤p6) = false:=decide_eq_false h11;subst hf;clear h0 h1 h2 h3 h4 h5 h6 h7 h8 h9 h10 h11
    go_enter Tryz.func86,Tryz.ntmps86
    go_wp2_with fail;go_ret;exact ⟨rfl,hbb⟩
  have d11 : decide (0≤p6) = true:=decide_eq_true h11
  by_cases h12 : p6≤1000
  rotate_left
  · have hf : R = false:=by
      rw [← Bool.not_eq_true,HR.out]
      omega
    have d12 : decide (p6≤1000) = false:=decide_eq_false h12;subst hf;clear h0 h1 h2 h3 h4 h5 h6 h7 h8 h9 h10 h11 h12
    go_enter Tryz.func86,Tryz.ntmps86
    go_wp2_with fail;go_ret;exact ⟨rfl,hbb⟩
  have d12 : decide (p6≤1000) = true:=decide_eq_true h12
  have hf : R = true:=by
    rw [HR.out]
    omega
  subst hf;clear h0 h1 h2 h3 h4 h5 h6 h7 h8 h9 h10 h11 h12
  go_enter Tryz.func86,Tryz.ntmps86
  go_wp2_with fail;go_ret;exact ⟨rfl,hbb⟩
end Go.Proofs.YtfpenfgmpbdakaaGreat

namespace Go.Proofs.YtfpenfgmpbdakaaGreat
set_option linter.unusedVariables false
set_option linter.unusedSimpArgs false
set_option maxRecDepth 100000
open Go.RowKit
open Dot Evt
set_option maxRecDepth 100000 in
set_option maxHeartbeats 4000000 in
theorem eright07_any (x : Ev) (hp : x.p.length = 7) (A : Option Addr) (m c : Nat) (w : World) (hl : RdD w w.heap.size A m x.l) (hmb : m≤4611686018427387904) :
    Calls Tryz.prog 55 #[.agg (ec x (.slice A m c))] w fun e w'=>e = .returned (.bool (rightE x))∧Below w.heap.size w w':=by
  obtain ⟨R,hR⟩ : ∃ R,R = rightE x:=⟨_,rfl⟩;rw [← hR];obtain ⟨⟨n,q⟩,t,k,wk,v,p,l⟩:=x;have hpol:=rpol_any p;obtain ⟨K,hK⟩ : ∃ K,K = kindB ⟨(n,q),t,k,wk,v,p,l⟩:=⟨_,rfl⟩
  have hR2 : R = (mayB (n,q) && inB t 1 top && inB wk 0 7 && decide (l.length≤96) && namedB (n,q) l && K):=by rw [hR,hK];rfl
  clear hR
  simp only at hl hp
  have HM:=Lib.hid hl.1;have hbb : Below w.heap.size w (w.alloc (.cells (ec ⟨(n,q),t,k,wk,v,p,l⟩ (.slice A m c)) 47)):=(Below.refl _ _).alloc (Nat.le_refl _) _;have kb : Blk (w.alloc (.cells (ec ⟨(n,q),t,k,wk,v,p,l⟩ (.slice A m c)) 47)) w.heap.size 47 (ec ⟨(n,q),t,k,wk,v,p,l⟩ (.slice A m c)):=Blk.new _ _ _
  unfold ec at hbb kb ⊢
  unfold pc at hpol
  simp only at hbb kb ⊢
  have hpz : p = p0↔(p.getD 0 0 = 0∧p.getD 1 0 = 0∧p.getD 2 0 = 0∧p.getD 3 0 = 0∧p.getD 4 0 = 0∧p.getD 5 0 = 0∧p.getD 6 0 = 0):=by
    match p,hp with
    | [a,b,c,d,e,f,g],_=>simp [p0]
  have hKp : K = if k = 1 then decide (p = p0) && inB v 0 top && decide (l = []) else if k = 2 then polB p && decide (v = 0) else if k = 3 then decide (p = p0) && decide (v = 0) else false:=by rw [hK];rfl
  clear hK hp
  generalize hpp : decide (p = p0) = PZ at hKp
  have hpz2 : PZ = decide (p.getD 0 0 = 0∧p.getD 1 0 = 0∧p.getD 2 0 = 0∧p.getD 3 0 = 0∧p.getD 4 0 = 0∧p.getD 5 0 = 0∧p.getD 6 0 = 0):=by
    rw [← hpp];exact decide_eq_decide.2 hpz
  clear hpp hpz
  generalize polB p = PB at hKp hpol
  generalize p.getD 0 0 = p0,p.getD 1 0 = p1,p.getD 2 0 = p2,p.getD 3 0 = p3,p.getD 4 0 = p4,p.getD 5 0 = p5,p.getD 6 0 = p6 at *
  have HR:=Lib.hid hR2;have HK:=Lib.hid hKp;have HZ:=Lib.hid hpz2;have HP:=Lib.hid hpol;have HL:=Lib.hid hl;have HMB:=Lib.hid hmb;clear hR2 hKp hpz2 hpol hl hmb
  go_enter Tryz.func55,Tryz.ntmps55
  go_upto_region 1 with fail
  refine nameW ?_;intro wv hwv;obtain ⟨b,hb⟩ : ∃ b,b = w.heap.size:=⟨_,rfl⟩;rw [← hb];rw [← hwv,← hb] at kb hbb;have hlv:=HL.out.below (B:=w.heap.size) (by rw [← hb];exact hbb);rw [← hb] at hlv;obtain ⟨c0,c1,_⟩:=ecells kb;have HBE:=Lib.hid hb;clear hwv hb HL;go_wp2_with fail;refine (rmay_any n q wv).mono ?_;rintro e w2 ⟨rfl,b2⟩;have hb2:=hbb.trans (b2.mono (by have:=kb.lt;omega));have kb2:=kb.below b2 kb.lt;have hl2:=hlv.below (b2.mono (by have:=kb.lt;omega));have hs2:=kb2.lt;clear kb hlv c0 c1 hbb b2;obtain ⟨c0,c1,c2,c3,c4,c5,c6,c7,c8,c9,c10,c11,c12,c13⟩:=ecells kb2
  rcases hm : mayB (n,q) with _ | _
  · skip
    go_wp2_with fail;go_ret;refine ⟨?_,by rw [← HBE.out];exact hb2⟩;rw [HR.out,hm]
    try rfl
  have HMY:=Lib.hid hm;clear hm
  have hn1 : ¬ t < 1→¬ (1099511627776 : Int) < t→inB t 1 top = true:=fun h1 h2=>(inB_iff _ _ _).2 ⟨by omega,by unfold top;omega⟩
  have hn2 : ¬ wk < 0→¬ (7 : Int) < wk→inB wk 0 7 = true:=fun h1 h2=>(inB_iff _ _ _).2 ⟨by omega,by omega⟩
  have HN1:=Lib.hid hn1;have HN2:=Lib.hid hn2;clear hn1 hn2
  by_cases hc : t < 1
  · have hcd : decide (t < 1) = true:=decide_eq_true hc
    have hcx : inB t 1 top = false:=by rw [← Bool.not_eq_true,inB_iff];unfold top;omega
    clear hc;have HCX:=Lib.hid hcx;clear hcx;go_wp2_with fail;go_ret;refine ⟨?_,by rw [← HBE.out];exact hb2⟩;rw [HR.out,HMY.out,HCX.out]
    try rfl
  have e1 : decide (t < 1) = false:=decide_eq_false hc;have E1:=Lib.hid hc;clear hc
  by_cases hc : (1099511627776 : Int) < t
  · have hcd : decide ((1099511627776 : Int) < t) = true:=decide_eq_true hc
    have hcx : inB t 1 top = false:=by rw [← Bool.not_eq_true,inB_iff];unfold top;omega
    clear hc;have HCX:=Lib.hid hcx;clear hcx;go_wp2_with fail;go_ret;refine ⟨?_,by rw [← HBE.out];exact hb2⟩;rw [HR.out,HMY.out,HCX.out]
    try rfl
  have e2 : decide ((1099511627776 : Int) < t) = false:=decide_eq_false hc;have HT:=Lib.hid (HN1.out E1.out hc);clear hc
  by_cases hc : wk < 0
  · have hcd : decide (wk < 0) = true:=decide_eq_true hc
    have hcx : inB wk 0 7 = false:=by rw [← Bool.not_eq_true,inB_iff];omega
    clear hc;have HCX:=Lib.hid hcx;clear hcx;go_wp2_with fail;go_ret;refine ⟨?_,by rw [← HBE.out];exact hb2⟩;rw [HR.out,HMY.out,HT.out,HCX.out]
    try rfl
  have e3 : decide (wk < 0) = false:=decide_eq_false hc;have E3:=Lib.hid hc;clear hc
  by_cases hc : (7 : Int) < wk
  · have hcd : decide ((7 : Int) < wk) = true:=decide_eq_true hc
    have hcx : inB wk 0 7 = false:=by rw [← Bool.not_eq_true,inB_iff];omega
    clear hc;have HCX:=Lib.hid hcx;clear hcx;go_wp2_with fail;go_ret;refine ⟨?_,by rw [← HBE.out];exact hb2⟩;rw [HR.out,HMY.out,HT.out,HCX.out]
    try rfl
  have e4 : decide ((7 : Int) < wk) = false:=decide_eq_false hc;have HW:=Lib.hid (HN2.out E3.out hc);clear hc
  by_cases hc : (96 : Int) < (m : Int)
  · have hcd : decide ((96 : Int) < (m : Int)) = true:=decide_eq_true hc
    have hcx : decide (l.length≤96) = false:=by rw [decide_eq_false_iff_not];have:=HM.out;omega
    clear hc;have HCX:=Lib.hid hcx;clear hcx;go_wp2_with fail;go_ret;refine ⟨?_,by rw [← HBE.out];exact hb2⟩;rw [HR.out,HMY.out,HT.out,HW.out,HCX.out]
    try rfl
  have e5 : decide ((96 : Int) < (m : Int)) = false:=decide_eq_false hc;have HLE:=Lib.hid (show decide (l.length≤96) = true by rw [decide_eq_true_eq];have:=HM.out;omega);have H96:=Lib.hid (show m≤96 by omega);clear hc;have HRN:=Lib.hid (show R = (namedB (n,q) l && K) by rw [HR.out,HMY.out,HT.out,HW.out,HLE.out];cases namedB (n,q) l <;> rfl);clear HR HMY HT HW HLE HN1 HN2 E1 E3;go_wp2_with fail
  go_loopw [38] (fun i wr=>∃ j : Nat,j≤m∧i = .int .i64 j∧(∀ i,i < j→nameAt (n,q) l i = true)∧Blk wr b 47 #[.int .i64 n,.int .i64 q,.int .i64 t,.int .i64 k,.int .i64 wk,.int .i64 v,.int .i64 p0,.int .i64 p1,.int .i64 p2,.int .i64 p3,.int .i64 p4,.int .i64 p5,.int .i64 p6,.slice A m c]∧RdD wr b A m l∧Below b w wr) (fun i _=>m - (intOf i).toNat)
  case atStart=>exact ⟨0,by omega,rfl,fun i hi=>by omega,kb2,hl2,hb2⟩
  case round =>
    clear kb2 hl2 hb2 c0 c1 c2 c3 c4 c5 c6 c7 c8 c9 c10 c11 c12 c13 e1 e2 e3 e4 e5 hs2;obtain ⟨j,hj,rfl,hall,kb,hl,hbel⟩:=hrel;have HA:=Lib.hid hall;clear hall
    by_cases hlt : j < m
    · have hjl : j < l.length:=by rw [← HM.out];exact hlt
      obtain ⟨ad,hA,hdt⟩:=hl.2 j _ (List.getElem?_eq_getElem hjl)
      have hgd : nameAt (n,q) l j = (mayB l[j] && !decide (l[j] = (n,q)) && (decide (j = 0) || befB (l.getD (j - 1) (0,0)) l[j])):=by
        unfold nameAt
        rw [show l.getD j (0,0) = l[j] by rw [List.getD_eq_getElem?_getD,List.getElem?_eq_getElem hjl];rfl]
      generalize l[j] = d at *
      subst hA;obtain ⟨x,y⟩:=d;obtain ⟨q5,q0,q1⟩:=hdt
      simp only at q0 q1 hgd
      have HG:=Lib.hid hgd;clear hgd;have hsz:=kb.lt;obtain ⟨wn,hwn⟩ : ∃ wn,wn = wr.alloc (.cells #[.int .i64 x,.int .i64 y] 42):=⟨_,rfl⟩;obtain ⟨gd,hgd⟩ : ∃ gd,gd = wr.heap.size:=⟨_,rfl⟩
      have kx : Blk wn gd 42 #[.int .i64 x,.int .i64 y]:=by rw [hwn,hgd];exact Blk.new wr _ _
      have bn : Below wr.heap.size wr wn:=by rw [hwn];exact (Below.refl _ _).alloc (Nat.le_refl _) _
      have kb1:=kb.below bn kb.lt;have hb1:=hbel.trans (bn.mono (by omega));have hl1:=hl.below (bn.mono (by omega));have HW:=Lib.hid hwn;have HGD:=Lib.hid hgd
      have hgl : b < gd:=by omega
      have hj0 : (0 : Int)≤(j : Int):=by omega
      have hjm : (j : Int) < (m : Int):=by omega
      clear hwn hgd bn hl;have cs : wr.cell? ⟨b,13,none⟩ = some (.slice (some ad) m c):=kb.cell 13
      go_upto_region 6 with fail
      rw [← HW.out,← HGD.out];clear cs q0 q1 kb hbel;have t0 : wn.cell? ⟨gd,0,none⟩ = some (.int .i64 x):=kx.cell 0;have t1 : wn.cell? ⟨gd,1,none⟩ = some (.int .i64 y):=kx.cell 1;have o0 : wn.cell? ⟨b,0,none⟩ = some (.int .i64 n):=kb1.cell 0;have o1 : wn.cell? ⟨b,1,none⟩ = some (.int .i64 q):=kb1.cell 1;have o13 : wn.cell? ⟨b,13,none⟩ = some (.slice (some ad) m c):=kb1.cell 13
      have hmc : ∀ w',Calls Tryz.prog 84 #[.agg #[.int .i64 x,.int .i64 y]] w' fun e w''=>e = .returned (.bool (mayB (x,y)))∧Below w'.heap.size w' w'':=fun w'=>rmay_any x y w'
      cases hmm : mayB (x,y)
      case false =>
        have hgk : nameAt (n,q) l j = false:=by rw [HG.out,hmm];rfl
        have HGK:=Lib.hid hgk;rw [hmm] at hmc;have HMC:=Lib.hid hmc;clear hgk hmm hmc;refine wp_region_below (by kernel_rfl) (by kernel_rfl) ?_;intro T iT F hF hT
        have S0 : ∀ xf,(F xf).cell? ⟨gd,0,none⟩ = some (.int .i64 x):=fun xf=>((hF xf).cell (p:=⟨gd,0,none⟩) kx.lt).trans t0
        have S1 : ∀ xf,(F xf).cell? ⟨gd,1,none⟩ = some (.int .i64 y):=fun xf=>((hF xf).cell (p:=⟨gd,1,none⟩) kx.lt).trans t1
        have S2 : ∀ xf,(F xf).cell? ⟨b,0,none⟩ = some (.int .i64 n):=fun xf=>((hF xf).cell (p:=⟨b,0,none⟩) kb1.lt).trans o0
        have S3 : ∀ xf,(F xf).cell? ⟨b,1,none⟩ = some (.int .i64 q):=fun xf=>((hF xf).cell (p:=⟨b,1,none⟩) kb1.lt).trans o1
        have S4 : ∀ xf,(F xf).cell? ⟨b,13,none⟩ = some (.slice (some ad) m c):=fun xf=>((hF xf).cell (p:=⟨b,13,none⟩) kb1.lt).trans o13
        have HF:=Lib.hid hF;have HT:=Lib.hid hT;clear hF hT
        repeat (first
          | go_big_quiet_step (((go_at_call 84;exact calls_below HF.out HT.out (HMC.out _)))))
        refine wpQuiet_nil ?_;intro w' hw';obtain ⟨qf,rfl⟩:=hw';have bF:=HF.out qf;have kF:=kb1.below bF kb1.lt;have hbF:=hb1.trans (bF.mono (by have:=kb1.lt;omega));have hlF:=hl1.below (bF.mono (by have:=kb1.lt;omega));clear HF HT S0 S1 S2 S3 S4 t0 t1 o0 o1 o13;go_wp2_with fail;go_ret;refine ⟨?_,by rw [← HBE.out];exact hbF⟩;rw [HRN.out,name_at hjl HGK.out]
        rfl
      case true =>
        have HMM:=Lib.hid hmm;rw [hmm] at hmc;have HMC:=Lib.hid hmc;clear hmm hmc
        by_cases hx : x = n
        · subst hx
          by_cases hy : y = q
          · subst hy
            have hgk : nameAt (x,y) l j = false:=by rw [HG.out,HMM.out];simp
            have HGK:=Lib.hid hgk;clear hgk;refine wp_region_below (by kernel_rfl) (by kernel_rfl) ?_;intro T iT F hF hT
            have S0 : ∀ xf,(F xf).cell? ⟨gd,0,none⟩ = some (.int .i64 x):=fun xf=>((hF xf).cell (p:=⟨gd,0,none⟩) kx.lt).trans t0
            have S1 : ∀ xf,(F xf).cell? ⟨gd,1,none⟩ = some (.int .i64 y):=fun xf=>((hF xf).cell (p:=⟨gd,1,none⟩) kx.lt).trans t1
            have S2 : ∀ xf,(F xf).cell? ⟨b,0,none⟩ = some (.int .i64 x):=fun xf=>((hF xf).cell (p:=⟨b,0,none⟩) kb1.lt).trans o0
            have S3 : ∀ xf,(F xf).cell? ⟨b,1,none⟩ = some (.int .i64 y):=fun xf=>((hF xf).cell (p:=⟨b,1,none⟩) kb1.lt).trans o1
            have S4 : ∀ xf,(F xf).cell? ⟨b,13,none⟩ = some (.slice (some ad) m c):=fun xf=>((hF xf).cell (p:=⟨b,13,none⟩) kb1.lt).trans o13
            have HF:=Lib.hid hF;have HT:=Lib.hid hT;clear hF hT
            repeat (first
              | go_big_quiet_step (((go_at_call 84;exact calls_below HF.out HT.out (HMC.out _)))))
            refine wpQuiet_nil ?_;intro w' hw';obtain ⟨qf,rfl⟩:=hw';have bF:=HF.out qf;have kF:=kb1.below bF kb1.lt;have hbF:=hb1.trans (bF.mono (by have:=kb1.lt;omega));have hlF:=hl1.below (bF.mono (by have:=kb1.lt;omega));clear HF HT S0 S1 S2 S3 S4 t0 t1 o0 o1 o13;go_wp2_with fail;go_ret;refine ⟨?_,by rw [← HBE.out];exact hbF⟩;rw [HRN.out,name_at hjl HGK.out]
            rfl
          · skip
            have HNO:=Lib.hid (show decide ((x,y) = (x,q)) = false by rw [decide_eq_false_iff_not];intro h;exact hy (congrArg Prod.snd h))
            by_cases hk0 : j = 0
            · subst hk0
              have hgk : nameAt (x,q) l 0 = true:=by rw [HG.out,HMM.out,HNO.out];rfl
              have HGK:=Lib.hid hgk;clear hgk;refine wp_region_below (by kernel_rfl) (by kernel_rfl) ?_;intro T iT F hF hT
              have S0 : ∀ xf,(F xf).cell? ⟨gd,0,none⟩ = some (.int .i64 x):=fun xf=>((hF xf).cell (p:=⟨gd,0,none⟩) kx.lt).trans t0
              have S1 : ∀ xf,(F xf).cell? ⟨gd,1,none⟩ = some (.int .i64 y):=fun xf=>((hF xf).cell (p:=⟨gd,1,none⟩) kx.lt).trans t1
              have S2 : ∀ xf,(F xf).cell? ⟨b,0,none⟩ = some (.int .i64 x):=fun xf=>((hF xf).cell (p:=⟨b,0,none⟩) kb1.lt).trans o0
              have S3 : ∀ xf,(F xf).cell? ⟨b,1,none⟩ = some (.int .i64 q):=fun xf=>((hF xf).cell (p:=⟨b,1,none⟩) kb1.lt).trans o1
              have S4 : ∀ xf,(F xf).cell? ⟨b,13,none⟩ = some (.slice (some ad) m c):=fun xf=>((hF xf).cell (p:=⟨b,13,none⟩) kb1.lt).trans o13
              have HF:=Lib.hid hF;have HT:=Lib.hid hT;clear hF hT
              repeat (first
                | go_big_quiet_step (((go_at_call 84;exact calls_below HF.out HT.out (HMC.out _)))))
              refine wpQuiet_nil ?_;intro w' hw';obtain ⟨qf,rfl⟩:=hw';have bF:=HF.out qf;have kF:=kb1.below bF kb1.lt;have hbF:=hb1.trans (bF.mono (by have:=kb1.lt;omega));have hlF:=hl1.below (bF.mono (by have:=kb1.lt;omega));clear HF HT S0 S1 S2 S3 S4 t0 t1 o0 o1 o13;go_wp2_with fail
              go_roundw
              case rel=>exact ⟨1,by omega,rfl,fun i hi=>by
                by_cases e : i = 0
                · subst e;exact HGK.out
                · exact HA.out i (by omega),kF,hlF,hbF⟩
              case measure=>simp only [intOf];omega
            · obtain ⟨i,hmk⟩ : ∃ i,j = i + 1:=⟨j - 1,by omega⟩
              have hml : i < l.length:=by omega
              have hkp : 0 < j:=by omega
              have hkq : (0 : Int) < (j : Int):=by omega
              have hwk : IntKind.i64.wrap ((j : Int) - 1) = (i : Int):=by rw [IntKind.wrap_i64];have:=H96.out;omega
              have hm0 : (0 : Int)≤(i : Int):=by omega
              have hmn : (i : Int) < (m : Int):=by omega
              obtain ⟨ad2,hae,hdt2⟩:=hl1.2 i _ (List.getElem?_eq_getElem hml)
              injection hae with hae
              subst hae
              have hpe : l.getD i (0,0) = l[i]:=by rw [List.getD_eq_getElem?_getD,List.getElem?_eq_getElem hml];rfl
              have hg3 : nameAt (x,q) l j = befB l[i] (x,y):=by
                rw [HG.out,HMM.out,HNO.out,decide_eq_false hk0,show j - 1 = i by omega,hpe]
                cases befB l[i] (x,y) <;> rfl
              clear hpe
              generalize l[i] = d at *
              obtain ⟨x2,y2⟩:=d;obtain ⟨p5,p0,p1⟩:=hdt2
              simp only at p0 p1
              have p6 : (ad.add (i * 2)).block < wn.heap.size:=Nat.lt_of_lt_of_le p5 (by have:=kb1.lt;omega);clear HG;have HG:=Lib.hid hg3;clear hg3 hmk
              have hcc : ∀ w',Calls Tryz.prog 85 #[.agg #[.int .i64 x2,.int .i64 y2],.agg #[.int .i64 x,.int .i64 y]] w' fun e w''=>e = .returned (.bool (befB (x2,y2) (x,y)))∧Below w'.heap.size w' w'':=fun w'=>before_any x2 y2 x y w'
              cases hbf : befB (x2,y2) (x,y)
              case false =>
                have hgk : nameAt (x,q) l j = false:=by rw [HG.out,hbf]
                have HGK:=Lib.hid hgk;rw [hbf] at hcc;have HCC:=Lib.hid hcc;clear hgk hbf hcc;refine wp_region_below (by kernel_rfl) (by kernel_rfl) ?_;intro T iT F hF hT
                have S0 : ∀ xf,(F xf).cell? ⟨gd,0,none⟩ = some (.int .i64 x):=fun xf=>((hF xf).cell (p:=⟨gd,0,none⟩) kx.lt).trans t0
                have S1 : ∀ xf,(F xf).cell? ⟨gd,1,none⟩ = some (.int .i64 y):=fun xf=>((hF xf).cell (p:=⟨gd,1,none⟩) kx.lt).trans t1
                have S2 : ∀ xf,(F xf).cell? ⟨b,0,none⟩ = some (.int .i64 x):=fun xf=>((hF xf).cell (p:=⟨b,0,none⟩) kb1.lt).trans o0
                have S3 : ∀ xf,(F xf).cell? ⟨b,1,none⟩ = some (.int .i64 q):=fun xf=>((hF xf).cell (p:=⟨b,1,none⟩) kb1.lt).trans o1
                have S4 : ∀ xf,(F xf).cell? ⟨b,13,none⟩ = some (.slice (some ad) m c):=fun xf=>((hF xf).cell (p:=⟨b,13,none⟩) kb1.lt).trans o13
                have SP : ∀ xf,(F xf).cell? (ad.add (i * 2)) = some (.int .i64 x2):=fun xf=>((hF xf).cell p6).trans p0
                have SQ : ∀ xf,(F xf).cell? ⟨(ad.add (i * 2)).block,(ad.add (i * 2)).off + 1,none⟩ = some (.int .i64 y2):=fun xf=>((hF xf).cell (p:=⟨(ad.add (i * 2)).block,(ad.add (i * 2)).off + 1,none⟩) p6).trans p1
                have HF:=Lib.hid hF;have HT:=Lib.hid hT;clear hF hT
                repeat (first
                  | go_big_quiet_step ((first | (go_at_call 84;exact calls_below HF.out HT.out (HMC.out _)) | (go_at_call 85;exact calls_below HF.out HT.out (HCC.out _)))))
                refine wpQuiet_nil ?_;intro w' hw';obtain ⟨qf,rfl⟩:=hw';have bF:=HF.out qf;have kF:=kb1.below bF kb1.lt;have hbF:=hb1.trans (bF.mono (by have:=kb1.lt;omega));have hlF:=hl1.below (bF.mono (by have:=kb1.lt;omega));clear HF HT S0 S1 S2 S3 S4 t0 t1 o0 o1 o13;go_wp2_with fail;go_ret;refine ⟨?_,by rw [← HBE.out];exact hbF⟩;rw [HRN.out,name_at hjl HGK.out]
                rfl
              case true =>
                have hgk : nameAt (x,q) l j = true:=by rw [HG.out,hbf]
                have HGK:=Lib.hid hgk;rw [hbf] at hcc;have HCC:=Lib.hid hcc;clear hgk hbf hcc;refine wp_region_below (by kernel_rfl) (by kernel_rfl) ?_;intro T iT F hF hT
                have S0 : ∀ xf,(F xf).cell? ⟨gd,0,none⟩ = some (.int .i64 x):=fun xf=>((hF xf).cell (p:=⟨gd,0,none⟩) kx.lt).trans t0
                have S1 : ∀ xf,(F xf).cell? ⟨gd,1,none⟩ = some (.int .i64 y):=fun xf=>((hF xf).cell (p:=⟨gd,1,none⟩) kx.lt).trans t1
                have S2 : ∀ xf,(F xf).cell? ⟨b,0,none⟩ = some (.int .i64 x):=fun xf=>((hF xf).cell (p:=⟨b,0,none⟩) kb1.lt).trans o0
                have S3 : ∀ xf,(F xf).cell? ⟨b,1,none⟩ = some (.int .i64 q):=fun xf=>((hF xf).cell (p:=⟨b,1,none⟩) kb1.lt).trans o1
                have S4 : ∀ xf,(F xf).cell? ⟨b,13,none⟩ = some (.slice (some ad) m c):=fun xf=>((hF xf).cell (p:=⟨b,13,none⟩) kb1.lt).trans o13
                have SP : ∀ xf,(F xf).cell? (ad.add (i * 2)) = some (.int .i64 x2):=fun xf=>((hF xf).cell p6).trans p0
                have SQ : ∀ xf,(F xf).cell? ⟨(ad.add (i * 2)).block,(ad.add (i * 2)).off + 1,none⟩ = some (.int .i64 y2):=fun xf=>((hF xf).cell (p:=⟨(ad.add (i * 2)).block,(ad.add (i * 2)).off + 1,none⟩) p6).trans p1
                have HF:=Lib.hid hF;have HT:=Lib.hid hT;clear hF hT
                repeat (first
                  | go_big_quiet_step ((first | (go_at_call 84;exact calls_below HF.out HT.out (HMC.out _)) | (go_at_call 85;exact calls_below HF.out HT.out (HCC.out _)))))
                refine wpQuiet_nil ?_;intro w' hw';obtain ⟨qf,rfl⟩:=hw';have bF:=HF.out qf;have kF:=kb1.below bF kb1.lt;have hbF:=hb1.trans (bF.mono (by have:=kb1.lt;omega));have hlF:=hl1.below (bF.mono (by have:=kb1.lt;omega));clear HF HT S0 S1 S2 S3 S4 t0 t1 o0 o1 o13;go_wp2_with fail
                go_roundw
                case rel=>exact ⟨j + 1,by omega,num_succ j (by have:=H96.out;omega),fun i hi=>by
                  by_cases e : i = j
                  · subst e;exact HGK.out
                  · exact HA.out i (by omega),kF,hlF,hbF⟩
                case measure=>exact meas_succ j m hlt (by have:=H96.out;omega)
        · skip
          have HNO:=Lib.hid (show decide ((x,y) = (n,q)) = false by rw [decide_eq_false_iff_not];intro h;exact hx (congrArg Prod.fst h))
          by_cases hk0 : j = 0
          · subst hk0
            have hgk : nameAt (n,q) l 0 = true:=by rw [HG.out,HMM.out,HNO.out];rfl
            have HGK:=Lib.hid hgk;clear hgk;refine wp_region_below (by kernel_rfl) (by kernel_rfl) ?_;intro T iT F hF hT
            have S0 : ∀ xf,(F xf).cell? ⟨gd,0,none⟩ = some (.int .i64 x):=fun xf=>((hF xf).cell (p:=⟨gd,0,none⟩) kx.lt).trans t0
            have S1 : ∀ xf,(F xf).cell? ⟨gd,1,none⟩ = some (.int .i64 y):=fun xf=>((hF xf).cell (p:=⟨gd,1,none⟩) kx.lt).trans t1
            have S2 : ∀ xf,(F xf).cell? ⟨b,0,none⟩ = some (.int .i64 n):=fun xf=>((hF xf).cell (p:=⟨b,0,none⟩) kb1.lt).trans o0
            have S3 : ∀ xf,(F xf).cell? ⟨b,1,none⟩ = some (.int .i64 q):=fun xf=>((hF xf).cell (p:=⟨b,1,none⟩) kb1.lt).trans o1
            have S4 : ∀ xf,(F xf).cell? ⟨b,13,none⟩ = some (.slice (some ad) m c):=fun xf=>((hF xf).cell (p:=⟨b,13,none⟩) kb1.lt).trans o13
            have HF:=Lib.hid hF;have HT:=Lib.hid hT;clear hF hT
            repeat (first
              | go_big_quiet_step (((go_at_call 84;exact calls_below HF.out HT.out (HMC.out _)))))
            refine wpQuiet_nil ?_;intro w' hw';obtain ⟨qf,rfl⟩:=hw';have bF:=HF.out qf;have kF:=kb1.below bF kb1.lt;have hbF:=hb1.trans (bF.mono (by have:=kb1.lt;omega));have hlF:=hl1.below (bF.mono (by have:=kb1.lt;omega));clear HF HT S0 S1 S2 S3 S4 t0 t1 o0 o1 o13;go_wp2_with fail
            go_roundw
            case rel=>exact ⟨1,by omega,rfl,fun i hi=>by
              by_cases e : i = 0
              · subst e;exact HGK.out
              · exact HA.out i (by omega),kF,hlF,hbF⟩
            case measure=>simp only [intOf];omega
          · obtain ⟨i,hmk⟩ : ∃ i,j = i + 1:=⟨j - 1,by omega⟩
            have hml : i < l.length:=by omega
            have hkp : 0 < j:=by omega
            have hkq : (0 : Int) < (j : Int):=by omega
            have hwk : IntKind.i64.wrap ((j : Int) - 1) = (i : Int):=by rw [IntKind.wrap_i64];have:=H96.out;omega
            have hm0 : (0 : Int)≤(i : Int):=by omega
            have hmn : (i : Int) < (m : Int):=by omega
            obtain ⟨ad2,hae,hdt2⟩:=hl1.2 i _ (List.getElem?_eq_getElem hml)
            injection hae with hae
            subst hae
            have hpe : l.getD i (0,0) = l[i]:=by rw [List.getD_eq_getElem?_getD,List.getElem?_eq_getElem hml];rfl
            have hg3 : nameAt (n,q) l j = befB l[i] (x,y):=by
              rw [HG.out,HMM.out,HNO.out,decide_eq_false hk0,show j - 1 = i by omega,hpe]
              cases befB l[i] (x,y) <;> rfl
            clear hpe
            generalize l[i] = d at *
            obtain ⟨x2,y2⟩:=d;obtain ⟨p5,p0,p1⟩:=hdt2
            simp only at p0 p1
            have p6 : (ad.add (i * 2)).block < wn.heap.size:=Nat.lt_of_lt_of_le p5 (by have:=kb1.lt;omega);clear HG;have HG:=Lib.hid hg3;clear hg3 hmk
            have hcc : ∀ w',Calls Tryz.prog 85 #[.agg #[.int .i64 x2,.int .i64 y2],.agg #[.int .i64 x,.int .i64 y]] w' fun e w''=>e = .returned (.bool (befB (x2,y2) (x,y)))∧Below w'.heap.size w' w'':=fun w'=>before_any x2 y2 x y w'
            cases hbf : befB (x2,y2) (x,y)
            case false =>
              have hgk : nameAt (n,q) l j = false:=by rw [HG.out,hbf]
              have HGK:=Lib.hid hgk;rw [hbf] at hcc;have HCC:=Lib.hid hcc;clear hgk hbf hcc;refine wp_region_below (by kernel_rfl) (by kernel_rfl) ?_;intro T iT F hF hT
              have S0 : ∀ xf,(F xf).cell? ⟨gd,0,none⟩ = some (.int .i64 x):=fun xf=>((hF xf).cell (p:=⟨gd,0,none⟩) kx.lt).trans t0
              have S1 : ∀ xf,(F xf).cell? ⟨gd,1,none⟩ = some (.int .i64 y):=fun xf=>((hF xf).cell (p:=⟨gd,1,none⟩) kx.lt).trans t1
              have S2 : ∀ xf,(F xf).cell? ⟨b,0,none⟩ = some (.int .i64 n):=fun xf=>((hF xf).cell (p:=⟨b,0,none⟩) kb1.lt).trans o0
              have S3 : ∀ xf,(F xf).cell? ⟨b,1,none⟩ = some (.int .i64 q):=fun xf=>((hF xf).cell (p:=⟨b,1,none⟩) kb1.lt).trans o1
              have S4 : ∀ xf,(F xf).cell? ⟨b,13,none⟩ = some (.slice (some ad) m c):=fun xf=>((hF xf).cell (p:=⟨b,13,none⟩) kb1.lt).trans o13
              have SP : ∀ xf,(F xf).cell? (ad.add (i * 2)) = some (.int .i64 x2):=fun xf=>((hF xf).cell p6).trans p0
              have SQ : ∀ xf,(F xf).cell? ⟨(ad.add (i * 2)).block,(ad.add (i * 2)).off + 1,none⟩ = some (.int .i64 y2):=fun xf=>((hF xf).cell (p:=⟨(ad.add (i * 2)).block,(ad.add (i * 2)).off + 1,none⟩) p6).trans p1
              have HF:=Lib.hid hF;have HT:=Lib.hid hT;clear hF hT
              repeat (first
                | go_big_quiet_step ((first | (go_at_call 84;exact calls_below HF.out HT.out (HMC.out _)) | (go_at_call 85;exact calls_below HF.out HT.out (HCC.out _)))))
              refine wpQuiet_nil ?_;intro w' hw';obtain ⟨qf,rfl⟩:=hw';have bF:=HF.out qf;have kF:=kb1.below bF kb1.lt;have hbF:=hb1.trans (bF.mono (by have:=kb1.lt;omega));have hlF:=hl1.below (bF.mono (by have:=kb1.lt;omega));clear HF HT S0 S1 S2 S3 S4 t0 t1 o0 o1 o13;go_wp2_with fail;go_ret;refine ⟨?_,by rw [← HBE.out];exact hbF⟩;rw [HRN.out,name_at hjl HGK.out]
              rfl
            case true =>
              have hgk : nameAt (n,q) l j = true:=by rw [HG.out,hbf]
              have HGK:=Lib.hid hgk;rw [hbf] at hcc;have HCC:=Lib.hid hcc;clear hgk hbf hcc;refine wp_region_below (by kernel_rfl) (by kernel_rfl) ?_;intro T iT F hF hT
              have S0 : ∀ xf,(F xf).cell? ⟨gd,0,none⟩ = some (.int .i64 x):=fun xf=>((hF xf).cell (p:=⟨gd,0,none⟩) kx.lt).trans t0
              have S1 : ∀ xf,(F xf).cell? ⟨gd,1,none⟩ = some (.int .i64 y):=fun xf=>((hF xf).cell (p:=⟨gd,1,none⟩) kx.lt).trans t1
              have S2 : ∀ xf,(F xf).cell? ⟨b,0,none⟩ = some (.int .i64 n):=fun xf=>((hF xf).cell (p:=⟨b,0,none⟩) kb1.lt).trans o0
              have S3 : ∀ xf,(F xf).cell? ⟨b,1,none⟩ = some (.int .i64 q):=fun xf=>((hF xf).cell (p:=⟨b,1,none⟩) kb1.lt).trans o1
              have S4 : ∀ xf,(F xf).cell? ⟨b,13,none⟩ = some (.slice (some ad) m c):=fun xf=>((hF xf).cell (p:=⟨b,13,none⟩) kb1.lt).trans o13
              have SP : ∀ xf,(F xf).cell? (ad.add (i * 2)) = some (.int .i64 x2):=fun xf=>((hF xf).cell p6).trans p0
              have SQ : ∀ xf,(F xf).cell? ⟨(ad.add (i * 2)).block,(ad.add (i * 2)).off + 1,none⟩ = some (.int .i64 y2):=fun xf=>((hF xf).cell (p:=⟨(ad.add (i * 2)).block,(ad.add (i * 2)).off + 1,none⟩) p6).trans p1
              have HF:=Lib.hid hF;have HT:=Lib.hid hT;clear hF hT
              repeat (first
                | go_big_quiet_step ((first | (go_at_call 84;exact calls_below HF.out HT.out (HMC.out _)) | (go_at_call 85;exact calls_below HF.out HT.out (HCC.out _)))))
              refine wpQuiet_nil ?_;intro w' hw';obtain ⟨qf,rfl⟩:=hw';have bF:=HF.out qf;have kF:=kb1.below bF kb1.lt;have hbF:=hb1.trans (bF.mono (by have:=kb1.lt;omega));have hlF:=hl1.below (bF.mono (by have:=kb1.lt;omega));clear HF HT S0 S1 S2 S3 S4 t0 t1 o0 o1 o13;go_wp2_with fail
              go_roundw
              case rel=>exact ⟨j + 1,by omega,num_succ j (by have:=H96.out;omega),fun i hi=>by
                by_cases e : i = j
                · subst e;exact HGK.out
                · exact HA.out i (by omega),kF,hlF,hbF⟩
              case measure=>exact meas_succ j m hlt (by have:=H96.out;omega)
    · have hne : namedB (n,q) l = true:=by
        rw [named_iff]
        exact fun i hi=>HA.out i (by have:=HM.out;omega)
      have HRK:=Lib.hid (show R = K by rw [HRN.out,hne];rfl);have hjd : decide ((j : Int) < (m : Int)) = false:=decide_eq_false (by omega);have HB4:=Lib.hid hbel;have hs4:=kb.lt;obtain ⟨c0,c1,c2,c3,c4,c5,c6,c7,c8,c9,c10,c11,c12,c13⟩:=ecells kb;clear HRN HA hne kb hl hbel
      by_cases hp0 : p0 = 0
      rotate_left
      · have hz : PZ = false:=by rw [HZ.out,decide_eq_false_iff_not];omega
        by_cases k1 : k = 1
        · have hKv:=HK.out
          rw [if_pos k1] at hKv;clear HK;have HK:=Lib.hid hKv;clear hKv;subst k1
          by_cases hv0 : 0≤v
          rotate_left
          · have hvx:=Lib.hid (show inB v 0 top = false by rw [← Bool.not_eq_true,inB_iff];omega)
            have hvd : decide (0≤v) = false:=decide_eq_false hv0;clear hv0;go_wp2_with fail;go_ret;refine ⟨?_,by rw [← HBE.out];exact HB4.out⟩;rw [HRK.out,HK.out,hz,hvx.out]
            try rfl
          have hvd : decide (0≤v) = true:=decide_eq_true hv0
          by_cases hvt : v≤1099511627776
          rotate_left
          · have hvx:=Lib.hid (show inB v 0 top = false by rw [← Bool.not_eq_true,inB_iff];unfold top;omega)
            have hvd2 : decide (v≤1099511627776) = false:=decide_eq_false hvt;clear hv0 hvt;go_wp2_with fail;go_ret;refine ⟨?_,by rw [← HBE.out];exact HB4.out⟩;rw [HRK.out,HK.out,hz,hvx.out]
            try rfl
          have hvd2 : decide (v≤1099511627776) = true:=decide_eq_true hvt;have hvx:=Lib.hid (show inB v 0 top = true by rw [inB_iff];unfold top;omega);clear hv0 hvt;go_wp2_with fail;go_ret;refine ⟨?_,by rw [← HBE.out];exact HB4.out⟩;rw [HRK.out,HK.out,hz,hvx.out]
          try rfl
        by_cases k2 : k = 2
        · have hKv:=HK.out
          rw [if_neg k1,if_pos k2] at hKv;clear HK;have HK:=Lib.hid hKv;clear hKv;subst k2;clear k1
          by_cases hv : v = 0
          · have hKv:=HK.out
            rw [decide_eq_true hv] at hKv;clear HK;have HK:=Lib.hid hKv;clear hKv;subst hv;go_wp2_with fail;refine (HP.out _).mono ?_;rintro e w5 ⟨rfl,b5⟩;have hb5:=HB4.out.trans (b5.mono (by have:=HB4.out.size;omega));go_wp2_with fail;go_ret;refine ⟨?_,by rw [← HBE.out];exact hb5⟩;rw [HRK.out,HK.out]
            cases PB <;> rfl
          have hv2 : (v == (0 : Int)) = false:=by rw [beq_eq_false_iff_ne];exact hv
          go_wp2_with fail;go_ret;refine ⟨?_,by rw [← HBE.out];exact HB4.out⟩;rw [HRK.out,HK.out,decide_eq_false hv]
          cases PB <;> rfl
        by_cases k3 : k = 3
        · have hKv:=HK.out
          rw [if_neg k1,if_neg k2,if_pos k3] at hKv;clear HK;have HK:=Lib.hid hKv;clear hKv;subst k3;clear k1 k2
          by_cases hv : v = 0
          · have hKv:=HK.out
            rw [decide_eq_true hv] at hKv;clear HK;have HK:=Lib.hid hKv;clear hKv;subst hv;go_wp2_with fail;go_ret;refine ⟨?_,by rw [← HBE.out];exact HB4.out⟩;rw [HRK.out,HK.out,hz]
            try rfl
          have hv2 : (v == (0 : Int)) = false:=by rw [beq_eq_false_iff_ne];exact hv
          go_wp2_with fail;go_ret;refine ⟨?_,by rw [← HBE.out];exact HB4.out⟩;rw [HRK.out,HK.out,hz,decide_eq_false hv]
          try rfl
        go_wp2_with fail;go_ret;refine ⟨?_,by rw [← HBE.out];exact HB4.out⟩;rw [HRK.out,HK.out,if_neg k1,if_neg k2,if_neg k3]
        try rfl
      subst hp0
      by_cases hp1 : p1 = 0
      rotate_left
      · have hz : PZ = false:=by rw [HZ.out,decide_eq_false_iff_not];omega
        by_cases k1 : k = 1
        · have hKv:=HK.out
          rw [if_pos k1] at hKv;clear HK;have HK:=Lib.hid hKv;clear hKv;subst k1
          by_cases hv0 : 0≤v
          rotate_left
          · have hvx:=Lib.hid (show inB v 0 top = false by rw [← Bool.not_eq_true,inB_iff];omega)
            have hvd : decide (0≤v) = false:=decide_eq_false hv0;clear hv0;go_wp2_with fail;go_ret;refine ⟨?_,by rw [← HBE.out];exact HB4.out⟩;rw [HRK.out,HK.out,hz,hvx.out]
            try rfl
          have hvd : decide (0≤v) = true:=decide_eq_true hv0
          by_cases hvt : v≤1099511627776
          rotate_left
          · have hvx:=Lib.hid (show inB v 0 top = false by rw [← Bool.not_eq_true,inB_iff];unfold top;omega)
            have hvd2 : decide (v≤1099511627776) = false:=decide_eq_false hvt;clear hv0 hvt;go_wp2_with fail;go_ret;refine ⟨?_,by rw [← HBE.out];exact HB4.out⟩;rw [HRK.out,HK.out,hz,hvx.out]
            try rfl
          have hvd2 : decide (v≤1099511627776) = true:=decide_eq_true hvt;have hvx:=Lib.hid (show inB v 0 top = true by rw [inB_iff];unfold top;omega);clear hv0 hvt;go_wp2_with fail;go_ret;refine ⟨?_,by rw [← HBE.out];exact HB4.out⟩;rw [HRK.out,HK.out,hz,hvx.out]
          try rfl
        by_cases k2 : k = 2
        · have hKv:=HK.out
          rw [if_neg k1,if_pos k2] at hKv;clear HK;have HK:=Lib.hid hKv;clear hKv;subst k2;clear k1
          by_cases hv : v = 0
          · have hKv:=HK.out
            rw [decide_eq_true hv] at hKv;clear HK;have HK:=Lib.hid hKv;clear hKv;subst hv;go_wp2_with fail;refine (HP.out _).mono ?_;rintro e w5 ⟨rfl,b5⟩;have hb5:=HB4.out.trans (b5.mono (by have:=HB4.out.size;omega));go_wp2_with fail;go_ret;refine ⟨?_,by rw [← HBE.out];exact hb5⟩;rw [HRK.out,HK.out]
            cases PB <;> rfl
          have hv2 : (v == (0 : Int)) = false:=by rw [beq_eq_false_iff_ne];exact hv
          go_wp2_with fail;go_ret;refine ⟨?_,by rw [← HBE.out];exact HB4.out⟩;rw [HRK.out,HK.out,decide_eq_false hv]
          cases PB <;> rfl
        by_cases k3 : k = 3
        · have hKv:=HK.out
          rw [if_neg k1,if_neg k2,if_pos k3] at hKv;clear HK;have HK:=Lib.hid hKv;clear hKv;subst k3;clear k1 k2
          by_cases hv : v = 0
          · have hKv:=HK.out
            rw [decide_eq_true hv] at hKv;clear HK;have HK:=Lib.hid hKv;clear hKv;subst hv;go_wp2_with fail;go_ret;refine ⟨?_,by rw [← HBE.out];exact HB4.out⟩;rw [HRK.out,HK.out,hz]
            try rfl
          have hv2 : (v == (0 : Int)) = false:=by rw [beq_eq_false_iff_ne];exact hv
          go_wp2_with fail;go_ret;refine ⟨?_,by rw [← HBE.out];exact HB4.out⟩;rw [HRK.out,HK.out,hz,decide_eq_false hv]
          try rfl
        go_wp2_with fail;go_ret;refine ⟨?_,by rw [← HBE.out];exact HB4.out⟩;rw [HRK.out,HK.out,if_neg k1,if_neg k2,if_neg k3]
        try rfl
      subst hp1
      by_cases hp2 : p2 = 0
      rotate_left
      · have hz : PZ = false:=by rw [HZ.out,decide_eq_false_iff_not];omega
        by_cases k1 : k = 1
        · have hKv:=HK.out
          rw [if_pos k1] at hKv;clear HK;have HK:=Lib.hid hKv;clear hKv;subst k1
          by_cases hv0 : 0≤v
          rotate_left
          · have hvx:=Lib.hid (show inB v 0 top = false by rw [← Bool.not_eq_true,inB_iff];omega)
            have hvd : decide (0≤v) = false:=decide_eq_false hv0;clear hv0;go_wp2_with fail;go_ret;refine ⟨?_,by rw [← HBE.out];exact HB4.out⟩;rw [HRK.out,HK.out,hz,hvx.out]
            try rfl
          have hvd : decide (0≤v) = true:=decide_eq_true hv0
          by_cases hvt : v≤1099511627776
          rotate_left
          · have hvx:=Lib.hid (show inB v 0 top = false by rw [← Bool.not_eq_true,inB_iff];unfold top;omega)
            have hvd2 : decide (v≤1099511627776) = false:=decide_eq_false hvt;clear hv0 hvt;go_wp2_with fail;go_ret;refine ⟨?_,by rw [← HBE.out];exact HB4.out⟩;rw [HRK.out,HK.out,hz,hvx.out]
            try rfl
          have hvd2 : decide (v≤1099511627776) = true:=decide_eq_true hvt;have hvx:=Lib.hid (show inB v 0 top = true by rw [inB_iff];unfold top;omega);clear hv0 hvt;go_wp2_with fail;go_ret;refine ⟨?_,by rw [← HBE.out];exact HB4.out⟩;rw [HRK.out,HK.out,hz,hvx.out]
          try rfl
        by_cases k2 : k = 2
        · have hKv:=HK.out
          rw [if_neg k1,if_pos k2] at hKv;clear HK;have HK:=Lib.hid hKv;clear hKv;subst k2;clear k1
          by_cases hv : v = 0
          · have hKv:=HK.out
            rw [decide_eq_true hv] at hKv;clear HK;have HK:=Lib.hid hKv;clear hKv;subst hv;go_wp2_with fail;refine (HP.out _).mono ?_;rintro e w5 ⟨rfl,b5⟩;have hb5:=HB4.out.trans (b5.mono (by have:=HB4.out.size;omega));go_wp2_with fail;go_ret;refine ⟨?_,by rw [← HBE.out];exact hb5⟩;rw [HRK.out,HK.out]
            cases PB <;> rfl
          have hv2 : (v == (0 : Int)) = false:=by rw [beq_eq_false_iff_ne];exact hv
          go_wp2_with fail;go_ret;refine ⟨?_,by rw [← HBE.out];exact HB4.out⟩;rw [HRK.out,HK.out,decide_eq_false hv]
          cases PB <;> rfl
        by_cases k3 : k = 3
        · have hKv:=HK.out
          rw [if_neg k1,if_neg k2,if_pos k3] at hKv;clear HK;have HK:=Lib.hid hKv;clear hKv;subst k3;clear k1 k2
          by_cases hv : v = 0
          · have hKv:=HK.out
            rw [decide_eq_true hv] at hKv;clear HK;have HK:=Lib.hid hKv;clear hKv;subst hv;go_wp2_with fail;go_ret;refine ⟨?_,by rw [← HBE.out];exact HB4.out⟩;rw [HRK.out,HK.out,hz]
            try rfl
          have hv2 : (v == (0 : Int)) = false:=by rw [beq_eq_false_iff_ne];exact hv
          go_wp2_with fail;go_ret;refine ⟨?_,by rw [← HBE.out];exact HB4.out⟩;rw [HRK.out,HK.out,hz,decide_eq_false hv]
          try rfl
        go_wp2_with fail;go_ret;refine ⟨?_,by rw [← HBE.out];exact HB4.out⟩;rw [HRK.out,HK.out,if_neg k1,if_neg k2,if_neg k3]
        try rfl
      subst hp2
      by_cases hp3 : p3 = 0
      rotate_left
      · have hz : PZ = false:=by rw [HZ.out,decide_eq_false_iff_not];omega
        by_cases k1 : k = 1
        · have hKv:=HK.out
          rw [if_pos k1] at hKv;clear HK;have HK:=Lib.hid hKv;clear hKv;subst k1
          by_cases hv0 : 0≤v
          rotate_left
          · have hvx:=Lib.hid (show inB v 0 top = false by rw [← Bool.not_eq_true,inB_iff];omega)
            have hvd : decide (0≤v) = false:=decide_eq_false hv0;clear hv0;go_wp2_with fail;go_ret;refine ⟨?_,by rw [← HBE.out];exact HB4.out⟩;rw [HRK.out,HK.out,hz,hvx.out]
            try rfl
          have hvd : decide (0≤v) = true:=decide_eq_true hv0
          by_cases hvt : v≤1099511627776
          rotate_left
          · have hvx:=Lib.hid (show inB v 0 top = false by rw [← Bool.not_eq_true,inB_iff];unfold top;omega)
            have hvd2 : decide (v≤1099511627776) = false:=decide_eq_false hvt;clear hv0 hvt;go_wp2_with fail;go_ret;refine ⟨?_,by rw [← HBE.out];exact HB4.out⟩;rw [HRK.out,HK.out,hz,hvx.out]
            try rfl
          have hvd2 : decide (v≤1099511627776) = true:=decide_eq_true hvt;have hvx:=Lib.hid (show inB v 0 top = true by rw [inB_iff];unfold top;omega);clear hv0 hvt;go_wp2_with fail;go_ret;refine ⟨?_,by rw [← HBE.out];exact HB4.out⟩;rw [HRK.out,HK.out,hz,hvx.out]
          try rfl
        by_cases k2 : k = 2
        · have hKv:=HK.out
          rw [if_neg k1,if_pos k2] at hKv;clear HK;have HK:=Lib.hid hKv;clear hKv;subst k2;clear k1
          by_cases hv : v = 0
          · have hKv:=HK.out
            rw [decide_eq_true hv] at hKv;clear HK;have HK:=Lib.hid hKv;clear hKv;subst hv;go_wp2_with fail;refine (HP.out _).mono ?_;rintro e w5 ⟨rfl,b5⟩;have hb5:=HB4.out.trans (b5.mono (by have:=HB4.out.size;omega));go_wp2_with fail;go_ret;refine ⟨?_,by rw [← HBE.out];exact hb5⟩;rw [HRK.out,HK.out]
            cases PB <;> rfl
          have hv2 : (v == (0 : Int)) = false:=by rw [beq_eq_false_iff_ne];exact hv
          go_wp2_with fail;go_ret;refine ⟨?_,by rw [← HBE.out];exact HB4.out⟩;rw [HRK.out,HK.out,decide_eq_false hv]
          cases PB <;> rfl
        by_cases k3 : k = 3
        · have hKv:=HK.out
          rw [if_neg k1,if_neg k2,if_pos k3] at hKv;clear HK;have HK:=Lib.hid hKv;clear hKv;subst k3;clear k1 k2
          by_cases hv : v = 0
          · have hKv:=HK.out
            rw [decide_eq_true hv] at hKv;clear HK;have HK:=Lib.hid hKv;clear hKv;subst hv;go_wp2_with fail;go_ret;refine ⟨?_,by rw [← HBE.out];exact HB4.out⟩;rw [HRK.out,HK.out,hz]
            try rfl
          have hv2 : (v == (0 : Int)) = false:=by rw [beq_eq_false_iff_ne];exact hv
          go_wp2_with fail;go_ret;refine ⟨?_,by rw [← HBE.out];exact HB4.out⟩;rw [HRK.out,HK.out,hz,decide_eq_false hv]
          try rfl
        go_wp2_with fail;go_ret;refine ⟨?_,by rw [← HBE.out];exact HB4.out⟩;rw [HRK.out,HK.out,if_neg k1,if_neg k2,if_neg k3]
        try rfl
      subst hp3
      by_cases hp4 : p4 = 0
      rotate_left
      · have hz : PZ = false:=by rw [HZ.out,decide_eq_false_iff_not];omega
        by_cases k1 : k = 1
        · have hKv:=HK.out
          rw [if_pos k1] at hKv;clear HK;have HK:=Lib.hid hKv;clear hKv;subst k1
          by_cases hv0 : 0≤v
          rotate_left
          · have hvx:=Lib.hid (show inB v 0 top = false by rw [← Bool.not_eq_true,inB_iff];omega)
            have hvd : decide (0≤v) = false:=decide_eq_false hv0;clear hv0;go_wp2_with fail;go_ret;refine ⟨?_,by rw [← HBE.out];exact HB4.out⟩;rw [HRK.out,HK.out,hz,hvx.out]
            try rfl
          have hvd : decide (0≤v) = true:=decide_eq_true hv0
          by_cases hvt : v≤1099511627776
          rotate_left
          · have hvx:=Lib.hid (show inB v 0 top = false by rw [← Bool.not_eq_true,inB_iff];unfold top;omega)
            have hvd2 : decide (v≤1099511627776) = false:=decide_eq_false hvt;clear hv0 hvt;go_wp2_with fail;go_ret;refine ⟨?_,by rw [← HBE.out];exact HB4.out⟩;rw [HRK.out,HK.out,hz,hvx.out]
            try rfl
          have hvd2 : decide (v≤1099511627776) = true:=decide_eq_true hvt;have hvx:=Lib.hid (show inB v 0 top = true by rw [inB_iff];unfold top;omega);clear hv0 hvt;go_wp2_with fail;go_ret;refine ⟨?_,by rw [← HBE.out];exact HB4.out⟩;rw [HRK.out,HK.out,hz,hvx.out]
          try rfl
        by_cases k2 : k = 2
        · have hKv:=HK.out
          rw [if_neg k1,if_pos k2] at hKv;clear HK;have HK:=Lib.hid hKv;clear hKv;subst k2;clear k1
          by_cases hv : v = 0
          · have hKv:=HK.out
            rw [decide_eq_true hv] at hKv;clear HK;have HK:=Lib.hid hKv;clear hKv;subst hv;go_wp2_with fail;refine (HP.out _).mono ?_;rintro e w5 ⟨rfl,b5⟩;have hb5:=HB4.out.trans (b5.mono (by have:=HB4.out.size;omega));go_wp2_with fail;go_ret;refine ⟨?_,by rw [← HBE.out];exact hb5⟩;rw [HRK.out,HK.out]
            cases PB <;> rfl
          have hv2 : (v == (0 : Int)) = false:=by rw [beq_eq_false_iff_ne];exact hv
          go_wp2_with fail;go_ret;refine ⟨?_,by rw [← HBE.out];exact HB4.out⟩;rw [HRK.out,HK.out,decide_eq_false hv]
          cases PB <;> rfl
        by_cases k3 : k = 3
        · have hKv:=HK.out
          rw [if_neg k1,if_neg k2,if_pos k3] at hKv;clear HK;have HK:=Lib.hid hKv;clear hKv;subst k3;clear k1 k2
          by_cases hv : v = 0
          · have hKv:=HK.out
            rw [decide_eq_true hv] at hKv;clear HK;have HK:=Lib.hid hKv;clear hKv;subst hv;go_wp2_with fail;go_ret;refine ⟨?_,by rw [← HBE.out];exact HB4.out⟩;rw [HRK.out,HK.out,hz]
            try rfl
          have hv2 : (v == (0 : Int)) = false:=by rw [beq_eq_false_iff_ne];exact hv
          go_wp2_with fail;go_ret;refine ⟨?_,by rw [← HBE.out];exact HB4.out⟩;rw [HRK.out,HK.out,hz,decide_eq_false hv]
          try rfl
        go_wp2_with fail;go_ret;refine ⟨?_,by rw [← HBE.out];exact HB4.out⟩;rw [HRK.out,HK.out,if_neg k1,if_neg k2,if_neg k3]
        try rfl
      subst hp4
      by_cases hp5 : p5 = 0
      rotate_left
      · have hz : PZ = false:=by rw [HZ.out,decide_eq_false_iff_not];omega
        by_cases k1 : k = 1
        · have hKv:=HK.out
          rw [if_pos k1] at hKv;clear HK;have HK:=Lib.hid hKv;clear hKv;subst k1
          by_cases hv0 : 0≤v
          rotate_left
          · have hvx:=Lib.hid (show inB v 0 top = false by rw [← Bool.not_eq_true,inB_iff];omega)
            have hvd : decide (0≤v) = false:=decide_eq_false hv0;clear hv0;go_wp2_with fail;go_ret;refine ⟨?_,by rw [← HBE.out];exact HB4.out⟩;rw [HRK.out,HK.out,hz,hvx.out]
            try rfl
          have hvd : decide (0≤v) = true:=decide_eq_true hv0
          by_cases hvt : v≤1099511627776
          rotate_left
          · have hvx:=Lib.hid (show inB v 0 top = false by rw [← Bool.not_eq_true,inB_iff];unfold top;omega)
            have hvd2 : decide (v≤1099511627776) = false:=decide_eq_false hvt;clear hv0 hvt;go_wp2_with fail;go_ret;refine ⟨?_,by rw [← HBE.out];exact HB4.out⟩;rw [HRK.out,HK.out,hz,hvx.out]
            try rfl
          have hvd2 : decide (v≤1099511627776) = true:=decide_eq_true hvt;have hvx:=Lib.hid (show inB v 0 top = true by rw [inB_iff];unfold top;omega);clear hv0 hvt;go_wp2_with fail;go_ret;refine ⟨?_,by rw [← HBE.out];exact HB4.out⟩;rw [HRK.out,HK.out,hz,hvx.out]
          try rfl
        by_cases k2 : k = 2
        · have hKv:=HK.out
          rw [if_neg k1,if_pos k2] at hKv;clear HK;have HK:=Lib.hid hKv;clear hKv;subst k2;clear k1
          by_cases hv : v = 0
          · have hKv:=HK.out
            rw [decide_eq_true hv] at hKv;clear HK;have HK:=Lib.hid hKv;clear hKv;subst hv;go_wp2_with fail;refine (HP.out _).mono ?_;rintro e w5 ⟨rfl,b5⟩;have hb5:=HB4.out.trans (b5.mono (by have:=HB4.out.size;omega));go_wp2_with fail;go_ret;refine ⟨?_,by rw [← HBE.out];exact hb5⟩;rw [HRK.out,HK.out]
            cases PB <;> rfl
          have hv2 : (v == (0 : Int)) = false:=by rw [beq_eq_false_iff_ne];exact hv
          go_wp2_with fail;go_ret;refine ⟨?_,by rw [← HBE.out];exact HB4.out⟩;rw [HRK.out,HK.out,decide_eq_false hv]
          cases PB <;> rfl
        by_cases k3 : k = 3
        · have hKv:=HK.out
          rw [if_neg k1,if_neg k2,if_pos k3] at hKv;clear HK;have HK:=Lib.hid hKv;clear hKv;subst k3;clear k1 k2
          by_cases hv : v = 0
          · have hKv:=HK.out
            rw [decide_eq_true hv] at hKv;clear HK;have HK:=Lib.hid hKv;clear hKv;subst hv;go_wp2_with fail;go_ret;refine ⟨?_,by rw [← HBE.out];exact HB4.out⟩;rw [HRK.out,HK.out,hz]
            try rfl
          have hv2 : (v == (0 : Int)) = false:=by rw [beq_eq_false_iff_ne];exact hv
          go_wp2_with fail;go_ret;refine ⟨?_,by rw [← HBE.out];exact HB4.out⟩;rw [HRK.out,HK.out,hz,decide_eq_false hv]
          try rfl
        go_wp2_with fail;go_ret;refine ⟨?_,by rw [← HBE.out];exact HB4.out⟩;rw [HRK.out,HK.out,if_neg k1,if_neg k2,if_neg k3]
        try rfl
      subst hp5
      by_cases hp6 : p6 = 0
      rotate_left
      · have hz : PZ = false:=by rw [HZ.out,decide_eq_false_iff_not];omega
        by_cases k1 : k = 1
        · have hKv:=HK.out
          rw [if_pos k1] at hKv;clear HK;have HK:=Lib.hid hKv;clear hKv;subst k1
          by_cases hv0 : 0≤v
          rotate_left
          · have hvx:=Lib.hid (show inB v 0 top = false by rw [← Bool.not_eq_true,inB_iff];omega)
            have hvd : decide (0≤v) = false:=decide_eq_false hv0;clear hv0;go_wp2_with fail;go_ret;refine ⟨?_,by rw [← HBE.out];exact HB4.out⟩;rw [HRK.out,HK.out,hz,hvx.out]
            try rfl
          have hvd : decide (0≤v) = true:=decide_eq_true hv0
          by_cases hvt : v≤1099511627776
          rotate_left
          · have hvx:=Lib.hid (show inB v 0 top = false by rw [← Bool.not_eq_true,inB_iff];unfold top;omega)
            have hvd2 : decide (v≤1099511627776) = false:=decide_eq_false hvt;clear hv0 hvt;go_wp2_with fail;go_ret;refine ⟨?_,by rw [← HBE.out];exact HB4.out⟩;rw [HRK.out,HK.out,hz,hvx.out]
            try rfl
          have hvd2 : decide (v≤1099511627776) = true:=decide_eq_true hvt;have hvx:=Lib.hid (show inB v 0 top = true by rw [inB_iff];unfold top;omega);clear hv0 hvt;go_wp2_with fail;go_ret;refine ⟨?_,by rw [← HBE.out];exact HB4.out⟩;rw [HRK.out,HK.out,hz,hvx.out]
          try rfl
        by_cases k2 : k = 2
        · have hKv:=HK.out
          rw [if_neg k1,if_pos k2] at hKv;clear HK;have HK:=Lib.hid hKv;clear hKv;subst k2;clear k1
          by_cases hv : v = 0
          · have hKv:=HK.out
            rw [decide_eq_true hv] at hKv;clear HK;have HK:=Lib.hid hKv;clear hKv;subst hv;go_wp2_with fail;refine (HP.out _).mono ?_;rintro e w5 ⟨rfl,b5⟩;have hb5:=HB4.out.trans (b5.mono (by have:=HB4.out.size;omega));go_wp2_with fail;go_ret;refine ⟨?_,by rw [← HBE.out];exact hb5⟩;rw [HRK.out,HK.out]
            cases PB <;> rfl
          have hv2 : (v == (0 : Int)) = false:=by rw [beq_eq_false_iff_ne];exact hv
          go_wp2_with fail;go_ret;refine ⟨?_,by rw [← HBE.out];exact HB4.out⟩;rw [HRK.out,HK.out,decide_eq_false hv]
          cases PB <;> rfl
        by_cases k3 : k = 3
        · have hKv:=HK.out
          rw [if_neg k1,if_neg k2,if_pos k3] at hKv;clear HK;have HK:=Lib.hid hKv;clear hKv;subst k3;clear k1 k2
          by_cases hv : v = 0
          · have hKv:=HK.out
            rw [decide_eq_true hv] at hKv;clear HK;have HK:=Lib.hid hKv;clear hKv;subst hv;go_wp2_with fail;go_ret;refine ⟨?_,by rw [← HBE.out];exact HB4.out⟩;rw [HRK.out,HK.out,hz]
            try rfl
          have hv2 : (v == (0 : Int)) = false:=by rw [beq_eq_false_iff_ne];exact hv
          go_wp2_with fail;go_ret;refine ⟨?_,by rw [← HBE.out];exact HB4.out⟩;rw [HRK.out,HK.out,hz,decide_eq_false hv]
          try rfl
        go_wp2_with fail;go_ret;refine ⟨?_,by rw [← HBE.out];exact HB4.out⟩;rw [HRK.out,HK.out,if_neg k1,if_neg k2,if_neg k3]
        try rfl
      subst hp6
      have hz : PZ = true:=by rw [HZ.out];simp
      by_cases k1 : k = 1
      · have hKv:=HK.out
        rw [if_pos k1] at hKv;clear HK;have HK:=Lib.hid hKv;clear hKv;subst k1
        by_cases hv0 : 0≤v
        rotate_left
        · have hvx:=Lib.hid (show inB v 0 top = false by rw [← Bool.not_eq_true,inB_iff];omega)
          have hvd : decide (0≤v) = false:=decide_eq_false hv0;clear hv0;go_wp2_with fail;go_ret;refine ⟨?_,by rw [← HBE.out];exact HB4.out⟩;rw [HRK.out,HK.out,hz,hvx.out]
          try rfl
        have hvd : decide (0≤v) = true:=decide_eq_true hv0
        by_cases hvt : v≤1099511627776
        rotate_left
        · have hvx:=Lib.hid (show inB v 0 top = false by rw [← Bool.not_eq_true,inB_iff];unfold top;omega)
          have hvd2 : decide (v≤1099511627776) = false:=decide_eq_false hvt;clear hv0 hvt;go_wp2_with fail;go_ret;refine ⟨?_,by rw [← HBE.out];exact HB4.out⟩;rw [HRK.out,HK.out,hz,hvx.out]
          try rfl
        have hvd2 : decide (v≤1099511627776) = true:=decide_eq_true hvt;have hvx:=Lib.hid (show inB v 0 top = true by rw [inB_iff];unfold top;omega);clear hv0 hvt
        by_cases hm0 : m = 0
        · subst hm0
          have hl0 : l = []:=List.length_eq_zero_iff.1 HM.out.symm;go_wp2_with fail;go_ret;refine ⟨?_,by rw [← HBE.out];exact HB4.out⟩;rw [HRK.out,HK.out,hz,hvx.out,decide_eq_true hl0]
          try rfl
        have hl0 : ¬ l = []:=fun h=>hm0 (by rw [HM.out,h];rfl)
        have hm1 : ((m : Int) == (0 : Int)) = false:=by rw [beq_eq_false_iff_ne];omega
        go_wp2_with fail;go_ret;refine ⟨?_,by rw [← HBE.out];exact HB4.out⟩;rw [HRK.out,HK.out,hz,hvx.out,decide_eq_false hl0]
        try rfl
      by_cases k2 : k = 2
      · have hKv:=HK.out
        rw [if_neg k1,if_pos k2] at hKv;clear HK;have HK:=Lib.hid hKv;clear hKv;subst k2;clear k1
        by_cases hv : v = 0
        · have hKv:=HK.out
          rw [decide_eq_true hv] at hKv;clear HK;have HK:=Lib.hid hKv;clear hKv;subst hv;go_wp2_with fail;refine (HP.out _).mono ?_;rintro e w5 ⟨rfl,b5⟩;have hb5:=HB4.out.trans (b5.mono (by have:=HB4.out.size;omega));go_wp2_with fail;go_ret;refine ⟨?_,by rw [← HBE.out];exact hb5⟩;rw [HRK.out,HK.out]
          cases PB <;> rfl
        have hv2 : (v == (0 : Int)) = false:=by rw [beq_eq_false_iff_ne];exact hv
        go_wp2_with fail;go_ret;refine ⟨?_,by rw [← HBE.out];exact HB4.out⟩;rw [HRK.out,HK.out,decide_eq_false hv]
        cases PB <;> rfl
      by_cases k3 : k = 3
      · have hKv:=HK.out
        rw [if_neg k1,if_neg k2,if_pos k3] at hKv;clear HK;have HK:=Lib.hid hKv;clear hKv;subst k3;clear k1 k2
        by_cases hv : v = 0
        · have hKv:=HK.out
          rw [decide_eq_true hv] at hKv;clear HK;have HK:=Lib.hid hKv;clear hKv;subst hv;go_wp2_with fail;go_ret;refine ⟨?_,by rw [← HBE.out];exact HB4.out⟩;rw [HRK.out,HK.out,hz]
          try rfl
        have hv2 : (v == (0 : Int)) = false:=by rw [beq_eq_false_iff_ne];exact hv
        go_wp2_with fail;go_ret;refine ⟨?_,by rw [← HBE.out];exact HB4.out⟩;rw [HRK.out,HK.out,hz,decide_eq_false hv]
        try rfl
      go_wp2_with fail;go_ret;refine ⟨?_,by rw [← HBE.out];exact HB4.out⟩;rw [HRK.out,HK.out,if_neg k1,if_neg k2,if_neg k3]
      try rfl
end Go.Proofs.YtfpenfgmpbdakaaGreat

namespace Go.Proofs.YtfpenfgmpbdakaaGreat
set_option linter.unusedVariables false
set_option linter.unusedSimpArgs false
set_option maxRecDepth 100000
open Go.RowKit
abbrev iv (z : Int) : Value:=.int .i64 z
def RdI (w : World) (B : Nat) (A : Option Addr) (n : Nat) (bs : List Int) : Prop:=n = bs.length∧Rd w B A (bs.map iv)
section
variable {w w' : World} {B B' n : Nat} {A : Option Addr} {bs : List Int}
theorem RdI.at_ (h : RdI w B A n bs) {k : Nat} (hk : k < bs.length) : ∃ a,A = some a∧a.block < B∧w.cell? (a.add k) = some (iv bs[k]):=by
  have:=Rd.at_ h.2 (k:=k) (by simpa using hk)
  simpa using this
theorem RdI.nil (w : World) (B : Nat) (A : Option Addr) : RdI w B A 0 []:=⟨rfl,Rd.nil w B A⟩
theorem RdI.below (h : RdI w B A n bs) (hb : Below B w w') : RdI w' B A n bs:=⟨h.1,h.2.below hb⟩
theorem RdI.alloc (h : RdI w B A n bs) (hB : B≤w.heap.size) (o : Obj) : RdI (w.alloc o) B A n bs:=⟨h.1,h.2.alloc hB o⟩
theorem RdI.size (h : RdI w B A n bs) : RdI w w.heap.size A n bs:=⟨h.1,h.2.size⟩
theorem RdI.more (h : RdI w B A n bs) (hB : B≤B') : RdI w B' A n bs:=⟨h.1,h.2.more hB⟩
theorem RdI.drop (h : RdI w B A n bs) (k : Nat) : RdI w B (A.map (·.add k)) (n - k) (bs.drop k):=by
  have:=h.2.drop k
  exact ⟨by rw [h.1,List.length_drop],by rwa [← List.map_drop] at this⟩
theorem RdI.take (h : RdI w B A n bs) {k : Nat} (hk : k≤n) : RdI w B A k (bs.take k):=by
  have:=h.2.take k
  exact ⟨by rw [List.length_take];have:=h.1;omega,by rwa [← List.map_take] at this⟩
theorem RdI.made (w : World) (bs : List Int) (cs : Array Value) (t : TypeId) (m : Nat × Nat) (h : cs.toList = bs.map iv) : RdI (w.alloc (.cells cs t m)) (w.heap.size + 1) (some ⟨w.heap.size,0,none⟩) bs.length bs :=
  ⟨rfl,by rw [← h];exact Rd.made w cs t m⟩
theorem iv_one (bs : List Int) : ∀ u ∈ bs.map iv,u.oneCell' = true:=by
  intro u hu;obtain ⟨c,_,rfl⟩:=List.mem_map.1 hu
  rfl
end
theorem infoI : (Tryz.prog.info? 3).map (fun i=>(i.zero,i.size,i.bytes)) = some (some (.int .i64 0),1,8):=by kernel_rfl
def OwnI (w : World) (base : Nat) (A : Option Addr) (n c : Nat) (bs : List Int) : Prop:=n = bs.length∧w.ownsRow base 3 1 (.slice A n c) n (bs.map iv)
section
variable {w w' : World} {base n c : Nat} {A : Option Addr} {bs : List Int}
theorem OwnI.rd (h : OwnI w base A n c bs) : RdI w w.heap.size A n bs:=⟨h.1,Rd.of_own h.2⟩
theorem OwnI.alloc (h : OwnI w base A n c bs) (o : Obj) : OwnI (w.alloc o) base A n c bs:=⟨h.1,h.2.alloc o⟩
theorem OwnI.nil (w : World) (base : Nat) : OwnI w base none 0 0 []:=⟨rfl,World.ownsRow_nil w base _ 1⟩
theorem OwnI.made (w : World) (base : Nat) (bs : List Int) (cs : Array Value) (n : Nat) (h : cs.toList = bs.map iv) (hn : n = bs.length) (hb : base≤w.heap.size) (hm : n≤maxLen) :
    OwnI (w.alloc (.cells cs 3)) base (some ⟨w.heap.size,0,none⟩) n n bs:=by
  have hs : cs.size = bs.length:=by rw [← Array.length_toList,h,List.length_map]
  refine ⟨hn,?_,.inr ⟨w.heap.size,n,cs,rfl,hb,heap_alloc_new w _,Nat.le_refl _,hm,by omega,?_⟩⟩
  · simp [hn]
  · rw [h,List.take_of_length_le (by simp;omega)]
theorem OwnI.mono {base' : Nat} (h : OwnI w base A n c bs) (hb : base'≤base) : OwnI w base' A n c bs:=by
  refine ⟨h.1,h.2.1,?_⟩
  rcases h.2.2 with h | ⟨g,cap,cur,h1,h2,h3⟩
  · exact .inl h
  · exact .inr ⟨g,cap,cur,h1,by omega,h3⟩
theorem OwnI.lt (h : OwnI w base A n c bs) : ∀ g,A.map (·.block) = some g→base≤g∧g < w.heap.size:=fun g hg=>h.2.lt g (by
  rcases A with _ | a
  · simp at hg
  · simpa [Value.ownBlock] using hg)
theorem OwnI.form (h : OwnI w base A n c bs) (hn : 0 < n) : ∃ g,A = some ⟨g,0,none⟩∧base≤g∧g < w.heap.size:=by
  rcases h.2.2 with ⟨_,h0⟩ | ⟨g,cap,cur,hv,hb,hh,_⟩
  · omega
  · injection hv with hA
    subst hA;exact ⟨g,rfl,hb,lt_of_block hh⟩
theorem OwnI.cell {g : Nat} (h : OwnI w base (some ⟨g,0,none⟩) n c bs) {j : Nat} (hj : j < bs.length) : w.cell? ⟨g,j,none⟩ = some (iv bs[j]):=by
  rw [h.2.cellAt j (by rw [h.1];omega)]
  simp [hj]
theorem OwnI.free {g : Nat} (h : OwnI w base (some ⟨g,0,none⟩) n c bs) (j : Nat) : w.frozen? ⟨g,j,none⟩ = false:=h.2.frozenAt j
theorem OwnI.set_ {g : Nat} (h : OwnI w base (some ⟨g,0,none⟩) n c bs) (j : Nat) (x : Int) : OwnI (w.setCell ⟨g,j,none⟩ (iv x)) base (some ⟨g,0,none⟩) n c (bs.set j x):=by
  refine ⟨by rw [List.length_set];exact h.1,?_⟩
  have:=(h.2.stored j (iv x)).1
  rwa [← List.map_set] at this
theorem OwnI.setFar {p : Addr} (h : OwnI w base A n c bs) (hp : A.map (·.block) ≠ some p.block) (u : Value) : OwnI (w.setCell p u) base A n c bs :=
  ⟨h.1,ownsRow_setCell_other h.2 (by
    rcases A with _ | a
    · simp [Value.ownBlock]
    · simpa [Value.ownBlock] using hp) u⟩
theorem OwnI.drew (h : OwnI w base A n c bs) : OwnI w.drew base A n c bs:=h
theorem OwnI.grown {row : Option Nat} (h : OwnI w base A n c bs) (hg : w.grownBy w' row) (hne : A.map (·.block) = none∨A.map (·.block) ≠ row) : OwnI w' base A n c bs :=
  ⟨h.1,h.2.kept hg (by
    rcases A with _ | a
    · exact .inl rfl
    · rcases hne with h | h
      · simp at h
      · exact .inr h)⟩
theorem OwnI.below {B : Nat} (h : OwnI w base A n c bs) (hb : Below B w w') (hB : w.heap.size≤B) : OwnI w' base A n c bs :=
  ⟨h.1,h.2.kept (row:=none) ⟨hb.os,hb.tape,hb.output,hb.size,fun k hk _=>hb.block k (by omega)⟩ (by
    rcases h.2.2 with ⟨e,_⟩ | ⟨g,cap,cur,e,_⟩
    · rw [e];exact .inl rfl
    · rw [e];exact .inr (by simp [Value.ownBlock]))⟩
end
theorem wpList_appI {w : World} {ops : Array Oper} {rest : List Oper} {o : Oper} {a : Act} {Q : Exit→Act→World→Prop} (hgd : o.guard = none) (s x : Operand)
    (ho : o.op = .call { callee:=.builtin .append,args:=#[s,x],argTypes:=#[153,153] })
    {base : Nat} {A : Option Addr} {n c : Nat} {bs : List Int} (hs : a.eval s = .slice A n c) (hown : OwnI w base A n c bs)
    {B : Nat} {D : Option Addr} {m d : Nat} {news : List Int} (hx : a.eval x = .slice D m d) (hr : RdI w B D m news)
    (hbytes : n + m≤17592186044416) (hbase : base≤w.heap.size)
    (h : ∀ A' c' w',OwnI w' base A' (n + m) c' (bs ++ news)→w.grownBy w' (A.map (·.block))→Moved A' (A.map (·.block)) w.heap.size→Below base w w' →
      wpList Tryz.prog ops Q rest (a.put o.dst (.slice A' (n + m) c')) w') : wpList Tryz.prog ops Q (o :: rest) a w:=by
  obtain ⟨i0,hi,hz0,hz1,hz2⟩:=info_parts infoI
  have hob : (Value.slice A n c).ownBlock = A.map (·.block):=by cases A <;> rfl
  refine wpList_app w hgd s x 153 ho base 3 i0 (.int .i64 0) 1 8 Tryz.underlying153 hi hz0 hz1 hz2 rfl (by decide) _ _ _ hs hown.2 B D m d (news.map iv) hx hr.2 (by simp [hr.1]) (iv_one _) (by unfold maxLen;omega) (by omega) hbase ?_;intro A' c' w' h1 h2 h3;rw [hob] at h2 h3;exact h A' c' w' ⟨by simp [hown.1,hr.1],by simpa using h1⟩ h2 h3 ((Below.refl _ _).grown h2 hbase (fun g hg=>(hown.lt g hg).1))
end Go.Proofs.YtfpenfgmpbdakaaGreat

namespace Go.Proofs.YtfpenfgmpbdakaaGreat
set_option linter.unusedVariables false
set_option linter.unusedSimpArgs false
set_option maxRecDepth 100000
open Go.RowKit
open Dot Evt
set_option maxRecDepth 100000 in
set_option maxHeartbeats 4000000 in
theorem rnums_any (x : Ev) (hp : x.p.length = 7) (A : Option Addr) (m c : Nat) (w : World) (hl : RdD w w.heap.size A m x.l) (h96 : m≤96) :
    Calls Tryz.prog 103 #[.agg (ec x (.slice A m c))] w fun e w'=>∃ A' n' c',e = .returned (.slice A' n' c')∧OwnI w' w.heap.size A' n' c' (numsE x)∧Below w.heap.size w w':=by
  obtain ⟨⟨n,q⟩,t,k,wk,v,p,l⟩:=x
  simp only at hl hp
  have hE : numsE ⟨(n,q),t,k,wk,v,p,l⟩ = [n,q,t,k,wk] ++ (if k = 1 then [v] else (if k = 2 then [p.getD 0 0,p.getD 1 0,p.getD 2 0,p.getD 3 0,p.getD 4 0,p.getD 5 0,p.getD 6 0] else []) ++ [(m : Int)] ++ dotNums l):=by
    unfold numsE
    match p,hp with
    | [a,b,c,d,e,f,g],_=>rw [hl.1];rfl
  obtain ⟨R,hR⟩ : ∃ R,R = numsE ⟨(n,q),t,k,wk,v,p,l⟩:=⟨_,rfl⟩;rw [← hR];rw [hE] at hR;clear hE;have HM:=Lib.hid hl.1
  unfold ec
  simp only
  generalize p.getD 0 0 = p0,p.getD 1 0 = p1,p.getD 2 0 = p2,p.getD 3 0 = p3,p.getD 4 0 = p4,p.getD 5 0 = p5,p.getD 6 0 = p6 at *
  have HR:=Lib.hid hR;have HL:=Lib.hid hl;have H96:=Lib.hid h96;clear hR hl h96 hp
  go_enter Tryz.func103,Tryz.ntmps103
  go_upto_region 1 with fail
  refine nameW ?_;intro wv hwv;obtain ⟨b,hb⟩ : ∃ b,b = w.heap.size:=⟨_,rfl⟩;rw [← hb]
  have kb : Blk wv b 47 #[.int .i64 n,.int .i64 q,.int .i64 t,.int .i64 k,.int .i64 wk,.int .i64 v,.int .i64 p0,.int .i64 p1,.int .i64 p2,.int .i64 p3,.int .i64 p4,.int .i64 p5,.int .i64 p6,.slice A m c]:=by rw [hwv,hb];exact Blk.new _ _ _
  have gb : Below b w wv:=by rw [hwv,hb];exact (Below.refl _ _).alloc (Nat.le_refl _) _
  have hl : RdD wv b A m l:=by
    rw [hb];exact HL.out.below (by rw [← hb];exact gb)
  have HB:=Lib.hid hb;clear hwv hb HL;obtain ⟨c0,c1,c2,c3,c4,c5,c6,c7,c8,c9,c10,c11,c12,c13⟩:=ecells kb;have hbl:=kb.lt
  go_upto_region 3 with fail
  refine nameW ?_;intro w1 hw1;obtain ⟨g5,hg5⟩ : ∃ g5,g5 = wv.heap.size:=⟨_,rfl⟩;rw [← hg5]
  have o5 : OwnI w1 (b + 1) (some ⟨g5,0,none⟩) 5 5 [n,q,t,k,wk]:=by
    rw [hw1,hg5];exact (OwnI.made wv (b + 1) [n,q,t,k,wk] _ 5 rfl rfl (by have:=kb.lt;omega) (by unfold maxLen;omega)).alloc _
  have kp : Blk w1 (g5 + 1) 44 #[.int .i64 p0,.int .i64 p1,.int .i64 p2,.int .i64 p3,.int .i64 p4,.int .i64 p5,.int .i64 p6]:=by
    have h:=Blk.new (wv.alloc (.cells #[.int .i64 n,.int .i64 q,.int .i64 t,.int .i64 k,.int .i64 wk] 3)) 44 #[.int .i64 p0,.int .i64 p1,.int .i64 p2,.int .i64 p3,.int .i64 p4,.int .i64 p5,.int .i64 p6];rw [show (wv.alloc (.cells #[.int .i64 n,.int .i64 q,.int .i64 t,.int .i64 k,.int .i64 wk] 3)).heap.size = wv.heap.size + 1 by simp] at h;rw [hw1,hg5];exact h
  have bA : Below wv.heap.size wv w1:=by rw [hw1];exact ((Below.refl _ _).alloc (Nat.le_refl _) _).alloc (by simp) _
  have kb1:=kb.below bA kb.lt;have gb1:=gb.trans (bA.mono (by have:=kb.lt;omega));have hl1:=hl.below (bA.mono (by have:=kb.lt;omega))
  have hbg : b < g5:=by have:=kb.lt;omega
  clear hw1 hg5 bA kb gb hl c0 c1 c2 c3 c4 c5 c6 c7 c8 c9 c10 c11 c12 c13;obtain ⟨c0,c1,c2,c3,c4,c5,c6,c7,c8,c9,c10,c11,c12,c13⟩:=ecells kb1;have hs1:=kp.lt
  by_cases k1 : k = 1
  · have hq : (k == (1 : Int)) = true:=by rw [beq_iff_eq];exact k1
    have hf:=HR.out;rw [if_pos k1] at hf;have HF:=Lib.hid hf;clear hf HR k1 kp
    go_wp2_with (at_builtin;refine wpList_appI rfl (.tmp 26) (.tmp 29) rfl rfl (o5.alloc _) (news:=[v]) rfl ⟨rfl,Rd.made _ _ _ _⟩ ?h2 ?h3 ?h4)
    case h2=>omega
    case h3=>simp;omega
    intro A' c' w2 o2 g2 m2 b2;have gb2:=(gb1.alloc (by have:=gb1.size;have:=HB.out;omega) (.cells #[.int .i64 v] 3)).trans (b2.mono (by omega));have HO:=Lib.hid (o2.mono (base':=b) (by omega));have HG:=Lib.hid gb2;clear o2 g2 m2 b2 gb2 o5;go_wp2_with fail;go_ret;exact ⟨A',_,c',rfl,by rw [HF.out,← HB.out];exact HO.out,by rw [← HB.out];exact HG.out⟩
  have hq : (k == (1 : Int)) = false:=by rw [beq_eq_false_iff_ne];exact k1
  have hf:=HR.out;rw [if_neg k1] at hf;have HF:=Lib.hid hf;clear hf HR k1
  by_cases k2 : k = 2
  · have hq2 : (k == (2 : Int)) = true:=by rw [beq_iff_eq];exact k2
    have hf:=HF.out;rw [if_pos k2] at hf;clear HF;have HF:=Lib.hid hf;clear hf k2;have hp0 : w1.cell? ⟨g5 + 1,0,none⟩ = some (.int .i64 p0):=kp.cell 0;have hp1 : w1.cell? ⟨g5 + 1,1,none⟩ = some (.int .i64 p1):=kp.cell 1;have hp2 : w1.cell? ⟨g5 + 1,2,none⟩ = some (.int .i64 p2):=kp.cell 2;have hp3 : w1.cell? ⟨g5 + 1,3,none⟩ = some (.int .i64 p3):=kp.cell 3;have hp4 : w1.cell? ⟨g5 + 1,4,none⟩ = some (.int .i64 p4):=kp.cell 4;have hp5 : w1.cell? ⟨g5 + 1,5,none⟩ = some (.int .i64 p5):=kp.cell 5;have hp6 : w1.cell? ⟨g5 + 1,6,none⟩ = some (.int .i64 p6):=kp.cell 6
    go_wp2_with (at_builtin;refine wpList_appI rfl (.tmp 33) (.tmp 48) rfl rfl (o5.alloc _) (news:=[p0,p1,p2,p3,p4,p5,p6]) rfl ⟨rfl,Rd.made _ _ _ _⟩ ?h12 ?h13 ?h14)
    case h12=>omega
    case h13=>simp;omega
    intro A2 c2' w2 o2 g2 m2 b2;have bx : Below (b + 1) w1 w2:=((Below.refl _ _).alloc (by omega) (.cells #[.int .i64 p0,.int .i64 p1,.int .i64 p2,.int .i64 p3,.int .i64 p4,.int .i64 p5,.int .i64 p6] 3)).trans b2;have kb2:=kb1.below bx (by omega);have hl2:=hl1.below (bx.mono (by omega));have gb2:=gb1.trans (bx.mono (by omega));clear g2 m2 b2 bx kb1 hl1 gb1 o5 hp0 hp1 hp2 hp3 hp4 hp5 hp6 kp c0 c1 c2 c3 c4 c5 c6 c7 c8 c9 c10 c11 c12 c13;have s13 : w2.cell? ⟨b,13,none⟩ = some (.slice A m c):=kb2.cell 13;have hsz : b + 1≤w2.heap.size:=kb2.lt
    go_wp2_with (at_builtin;refine wpList_appI rfl (.tmp 50) (.tmp 54) rfl rfl (o2.alloc _) (news:=[(m : Int)]) rfl ⟨rfl,Rd.made _ _ _ _⟩ ?h5_2 ?h6_2 ?h7_2)
    case h5_2=>omega
    case h6_2=>simp;omega
    intro A3 c3' w3 o3 g3 m3 b3;have bx : Below (b + 1) w2 w3:=((Below.refl _ _).alloc hsz (.cells #[.int .i64 m] 3)).trans b3;have kb3:=kb2.below bx (by omega);have hl3:=hl2.below (bx.mono (by omega));have gb3:=gb2.trans (bx.mono (by omega));have s13 : w3.cell? ⟨b,13,none⟩ = some (.slice A m c):=kb3.cell 13;obtain ⟨pr,hpr⟩ : ∃ pr,pr = [n,q,t,k,wk,p0,p1,p2,p3,p4,p5,p6,(m : Int)]:=⟨_,rfl⟩;rw [← hpr] at o3;have HPR:=Lib.hid hpr;have HPL:=Lib.hid (show pr.length≤13 by rw [hpr];simp);clear g3 m3 b3 bx hpr kb2 hl2 gb2 o2 hsz;go_wp2_with fail
    go_loopw [3,59] (fun s i wr=>∃ (j : Nat) (A' : Option Addr) (n' c' : Nat),j≤m∧i = .int .i64 j∧s = .slice A' n' c'∧OwnI wr (b + 1) A' n' c' (pr ++ dotNums (l.take j))∧Blk wr b 47 #[.int .i64 n,.int .i64 q,.int .i64 t,.int .i64 k,.int .i64 wk,.int .i64 v,.int .i64 p0,.int .i64 p1,.int .i64 p2,.int .i64 p3,.int .i64 p4,.int .i64 p5,.int .i64 p6,.slice A m c]∧RdD wr b A m l∧Below b w wr) (fun _ i _=>m - (intOf i).toNat)
    case atStart=>exact ⟨0,A3,_,c3',by omega,rfl,rfl,by simpa [dotNums] using o3,kb3,hl3,gb3⟩
    case round =>
      clear o3 kb3 hl3 gb3 s13;obtain ⟨j,A',n',c',hj,rfl,rfl,ho,kb,hl,gb⟩:=hrel
      by_cases hlt : j < m
      · have hjl : j < l.length:=by rw [← HM.out];exact hlt
        obtain ⟨ad,rfl,q5,q0,q1⟩:=hl.2 j _ (List.getElem?_eq_getElem hjl);have hsn:=take_snoc l hjl;have hnl:=ho.1;rw [List.length_append] at hnl
        have hdl : (dotNums (l.take j)).length = 2 * j:=by rw [← List.length_map (f:=Int.toNat),dotNums_nat,dotN_len,List.length_take];omega
        have HNL:=Lib.hid (show n'≤1000 by have:=HPL.out;have:=H96.out;omega)
        generalize l[j] = d at *
        obtain ⟨x,y⟩:=d
        simp only at q0 q1
        have HSN:=Lib.hid hsn
        have hj0 : (0 : Int)≤(j : Int):=by omega
        have hjm : (j : Int) < (m : Int):=by omega
        have hsz : b + 1≤wr.heap.size:=kb.lt
        have hmd : RdI ((wr.alloc (.cells #[.int .i64 x,.int .i64 y] 42)).alloc (.cells #[.int .i64 x,.int .i64 y] 3)) (wr.heap.size + 1 + 1) (some ⟨wr.heap.size + 1,0,none⟩) 2 [x,y]:=by
          have h:=RdI.made (wr.alloc (.cells #[.int .i64 x,.int .i64 y] 42)) [x,y] #[.int .i64 x,.int .i64 y] 3 (0,0) rfl;rw [show (wr.alloc (.cells #[.int .i64 x,.int .i64 y] 42)).heap.size = wr.heap.size + 1 by simp] at h;exact h
        have HMD:=Lib.hid hmd;clear hsn hnl hdl hmd
        go_wp2_with (at_builtin;refine wpList_appI rfl (.tmp 63) (.tmp 68) rfl rfl ((ho.alloc _).alloc _) (news:=[x,y]) rfl HMD.out ?h8_2 ?h9_2 ?h10_2)
        case h8_2=>have:=HNL.out;omega
        case h9_2=>simp;omega
        intro A4 c4' w4 o4 g4 m4 b4;have bx : Below (b + 1) wr w4:=(((Below.refl _ _).alloc hsz (.cells #[.int .i64 x,.int .i64 y] 42)).alloc (by simp;omega) (.cells #[.int .i64 x,.int .i64 y] 3)).trans b4;have kb4:=kb.below bx (by omega);have hl4:=hl.below (bx.mono (by omega));have gb4:=gb.trans (bx.mono (by omega));clear g4 m4 b4 bx;go_wp2_with fail
        go_roundw
        case rel=>exact ⟨j + 1,A4,_,c4',by omega,num_succ j (by have:=H96.out;omega),rfl,by rw [HSN.out];simpa [dotNums] using o4,kb4,hl4,gb4⟩
        case measure=>exact meas_succ j m hlt (by have:=H96.out;omega)
      · have hje : l.take j = l:=List.take_of_length_le (by rw [← HM.out];omega)
        rw [hje] at ho;have HO:=Lib.hid (ho.mono (base':=b) (by omega));have hkd : decide ((j : Int) < (m : Int)) = false:=decide_eq_false (by omega);clear hje ho;go_wp2_with fail;go_ret;refine ⟨A',n',c',rfl,?_,by rw [← HB.out];exact gb⟩;rw [HF.out,← HB.out]
        have e : [n,q,t,k,wk] ++ ([p0,p1,p2,p3,p4,p5,p6] ++ [(m : Int)] ++ dotNums l) = pr ++ dotNums l:=by rw [HPR.out];simp
        rw [e];exact HO.out
  have hq2 : (k == (2 : Int)) = false:=by rw [beq_eq_false_iff_ne];exact k2
  have hf:=HF.out;rw [if_neg k2] at hf;clear HF;have HF:=Lib.hid hf;clear hf k2;have s13 : w1.cell? ⟨b,13,none⟩ = some (.slice A m c):=kb1.cell 13;have hsz : b + 1≤w1.heap.size:=kb1.lt
  go_wp2_with (at_builtin;refine wpList_appI rfl (.tmp 50) (.tmp 54) rfl rfl (o5.alloc _) (news:=[(m : Int)]) rfl ⟨rfl,Rd.made _ _ _ _⟩ ?h5_1 ?h6_1 ?h7_1)
  case h5_1=>omega
  case h6_1=>simp;omega
  intro A3 c3' w3 o3 g3 m3 b3;have bx : Below (b + 1) w1 w3:=((Below.refl _ _).alloc hsz (.cells #[.int .i64 m] 3)).trans b3;have kb3:=kb1.below bx (by omega);have hl3:=hl1.below (bx.mono (by omega));have gb3:=gb1.trans (bx.mono (by omega));have s13 : w3.cell? ⟨b,13,none⟩ = some (.slice A m c):=kb3.cell 13;obtain ⟨pr,hpr⟩ : ∃ pr,pr = [n,q,t,k,wk,(m : Int)]:=⟨_,rfl⟩;rw [← hpr] at o3;have HPR:=Lib.hid hpr;have HPL:=Lib.hid (show pr.length≤13 by rw [hpr];simp);clear g3 m3 b3 bx hpr kb1 hl1 gb1 o5 hsz;go_wp2_with fail
  go_loopw [3,59] (fun s i wr=>∃ (j : Nat) (A' : Option Addr) (n' c' : Nat),j≤m∧i = .int .i64 j∧s = .slice A' n' c'∧OwnI wr (b + 1) A' n' c' (pr ++ dotNums (l.take j))∧Blk wr b 47 #[.int .i64 n,.int .i64 q,.int .i64 t,.int .i64 k,.int .i64 wk,.int .i64 v,.int .i64 p0,.int .i64 p1,.int .i64 p2,.int .i64 p3,.int .i64 p4,.int .i64 p5,.int .i64 p6,.slice A m c]∧RdD wr b A m l∧Below b w wr) (fun _ i _=>m - (intOf i).toNat)
  case atStart=>exact ⟨0,A3,_,c3',by omega,rfl,rfl,by simpa [dotNums] using o3,kb3,hl3,gb3⟩
  case round =>
    clear o3 kb3 hl3 gb3 s13;obtain ⟨j,A',n',c',hj,rfl,rfl,ho,kb,hl,gb⟩:=hrel
    by_cases hlt : j < m
    · have hjl : j < l.length:=by rw [← HM.out];exact hlt
      obtain ⟨ad,rfl,q5,q0,q1⟩:=hl.2 j _ (List.getElem?_eq_getElem hjl);have hsn:=take_snoc l hjl;have hnl:=ho.1;rw [List.length_append] at hnl
      have hdl : (dotNums (l.take j)).length = 2 * j:=by rw [← List.length_map (f:=Int.toNat),dotNums_nat,dotN_len,List.length_take];omega
      have HNL:=Lib.hid (show n'≤1000 by have:=HPL.out;have:=H96.out;omega)
      generalize l[j] = d at *
      obtain ⟨x,y⟩:=d
      simp only at q0 q1
      have HSN:=Lib.hid hsn
      have hj0 : (0 : Int)≤(j : Int):=by omega
      have hjm : (j : Int) < (m : Int):=by omega
      have hsz : b + 1≤wr.heap.size:=kb.lt
      have hmd : RdI ((wr.alloc (.cells #[.int .i64 x,.int .i64 y] 42)).alloc (.cells #[.int .i64 x,.int .i64 y] 3)) (wr.heap.size + 1 + 1) (some ⟨wr.heap.size + 1,0,none⟩) 2 [x,y]:=by
        have h:=RdI.made (wr.alloc (.cells #[.int .i64 x,.int .i64 y] 42)) [x,y] #[.int .i64 x,.int .i64 y] 3 (0,0) rfl;rw [show (wr.alloc (.cells #[.int .i64 x,.int .i64 y] 42)).heap.size = wr.heap.size + 1 by simp] at h;exact h
      have HMD:=Lib.hid hmd;clear hsn hnl hdl hmd
      go_wp2_with (at_builtin;refine wpList_appI rfl (.tmp 63) (.tmp 68) rfl rfl ((ho.alloc _).alloc _) (news:=[x,y]) rfl HMD.out ?h8_1 ?h9_1 ?h10_1)
      case h8_1=>have:=HNL.out;omega
      case h9_1=>simp;omega
      intro A4 c4' w4 o4 g4 m4 b4;have bx : Below (b + 1) wr w4:=(((Below.refl _ _).alloc hsz (.cells #[.int .i64 x,.int .i64 y] 42)).alloc (by simp;omega) (.cells #[.int .i64 x,.int .i64 y] 3)).trans b4;have kb4:=kb.below bx (by omega);have hl4:=hl.below (bx.mono (by omega));have gb4:=gb.trans (bx.mono (by omega));clear g4 m4 b4 bx;go_wp2_with fail
      go_roundw
      case rel=>exact ⟨j + 1,A4,_,c4',by omega,num_succ j (by have:=H96.out;omega),rfl,by rw [HSN.out];simpa [dotNums] using o4,kb4,hl4,gb4⟩
      case measure=>exact meas_succ j m hlt (by have:=H96.out;omega)
    · have hje : l.take j = l:=List.take_of_length_le (by rw [← HM.out];omega)
      rw [hje] at ho;have HO:=Lib.hid (ho.mono (base':=b) (by omega));have hkd : decide ((j : Int) < (m : Int)) = false:=decide_eq_false (by omega);clear hje ho;go_wp2_with fail;go_ret;refine ⟨A',n',c',rfl,?_,by rw [← HB.out];exact gb⟩;rw [HF.out,← HB.out]
      have e : [n,q,t,k,wk] ++ ([] ++ [(m : Int)] ++ dotNums l) = pr ++ dotNums l:=by rw [HPR.out];simp
      rw [e];exact HO.out
end Go.Proofs.YtfpenfgmpbdakaaGreat

namespace Go.Proofs.YtfpenfgmpbdakaaGreat
set_option linter.unusedVariables false
set_option linter.unusedSimpArgs false
set_option maxRecDepth 100000
open Go.RowKit
theorem u8_ref (m : Nat) : IntKind.u8.wrap (128 + (m : Int) % 128) = ((UInt8.ofNat (m % 128 + 128)).toNat : Int):=by
  rw [IntKind.wrap_u8',Vint.toNat_ofNat];omega
set_option maxRecDepth 100000 in
theorem rput_ok (A : Option Addr) (n c : Nat) (bs : List UInt8) (x : Nat) (B : Nat) (w : World) (hb : RdB w B A n bs) (hB : B≤w.heap.size) (hl : n≤140737488355000) (hx : x≤1099511627776) :
    Calls Tryz.prog 79 #[.slice A n c,.int .i64 x] w (GiveBE w (bs ++ Vint.enc x) 0):=by
  have hd : decide ((x : Int) < 0) = false:=decide_eq_false (by omega);have hd1 : decide (1099511627776 < (x : Int)) = false:=decide_eq_false (by omega)
  go_enter Tryz.func79,Tryz.ntmps79
  go_wp2_with (at_builtin;refine wpList_appB rfl (.tmp 13) (.tmp 14) rfl rfl (OwnB.made w w.heap.size [] #[] 0 rfl rfl (Nat.le_refl _) (Nat.zero_le _)) rfl (hb.alloc hB _) (by omega) (by simp) ?_)
  intro A1 c1 w1 ho _ _ hbl0;have hbl : Below w.heap.size w w1:=((Below.refl _ _).alloc (Nat.le_refl _) _).trans hbl0;clear hd hd1 hbl0;have hn1:=ho.1
  have hl1 : bs.length≤140737488355000:=by rw [← hb.1];exact hl
  have HN1:=Lib.hid hn1;clear hn1;go_wp2_with fail
  go_loopw [1,6] (fun i v wr=>∃ (m f : Nat) (pre : List UInt8) (A' : Option Addr) (n' c' : Nat),i = .int .i64 m∧v = .slice A' n' c'∧m < 128 ^ (f + 1)∧f≤5∧m≤1099511627776∧pre.length + f≤5∧pre ++ Vint.encF f m = Vint.enc x ∧
      OwnB wr w.heap.size A' n' c' (bs ++ pre)∧Below w.heap.size w wr) (fun i _ _=>(intOf i).toNat)
  case atStart => exact ⟨x, 5, [], A1, _, c1, rfl, rfl, by have : (128 : Nat) ^ 6 = 4398046511104 := by decide
                                                           show x < 128 ^ 6;omega,by omega,hx,by simp,rfl,by simpa using ho,hbl⟩
  case round =>
    obtain ⟨m,f,pre,A',n',c',rfl,rfl,hm,hf5,hmt,hpf,hpre,hown,hbel⟩:=hrel;have hlen:=hown.1;rw [List.length_append] at hlen
    have hln : n'≤140737488355005:=by omega
    have HL:=Lib.hid hlen;have HP:=Lib.hid hpre;clear hlen hpre
    by_cases hge : 128≤m
    · have hf : 1≤f:=by
        rcases Nat.eq_zero_or_pos f with h0 | h0
        · subst h0;simp at hm;omega
        · exact h0
      obtain ⟨f,rfl⟩ : ∃ f',f = f' + 1:=⟨f - 1,by omega⟩;have a1:=u8_ref m
      go_wp2_with (at_builtin;refine wpList_appB rfl (.tmp 18) (.tmp 23) rfl rfl (hown.alloc _) rfl (RdB.made _ [UInt8.ofNat (m % 128 + 128)] _ _ _ ?hx1) ?hx0 ?hx2 ?_)
      case hx0=>show n' + 1≤_;omega
      case hx2=>have:=hbel.size;simp;omega
      intro A2 c2 w3 ho2 _ _ hbl2;have hbel3 : Below w.heap.size w w3:=(hbel.alloc hbel.size _).trans hbl2;go_wp2_with fail
      go_roundw
      case rel =>
        refine ⟨m / 128,f,pre ++ [UInt8.ofNat (m % 128 + 128)],_,_,_,rfl,rfl,?_,by omega,by omega,by simp;omega,?_,by simpa using ho2,hbel3⟩
        · rw [Nat.pow_succ] at hm;omega
        · rw [← HP.out]
          conv=>rhs;unfold Vint.encF
          rw [if_neg (by omega)];simp
      case measure=>simp [intOf];omega
    · have a1:=u8_byte m
      go_wp2_with (at_builtin;refine wpList_appB rfl (.tmp 27) (.tmp 30) rfl rfl (hown.alloc _) rfl (RdB.made _ [UInt8.ofNat m] _ _ _ ?hy1) ?hy0 ?hy2 ?_)
      case hy0=>show n' + 1≤_;omega
      case hy2=>have:=hbel.size;simp;omega
      intro A2 c2 w3 ho2 _ _ hbl2;have hbel3 : Below w.heap.size w w3:=(hbel.alloc hbel.size _).trans hbl2;go_wp2_with fail;go_ret2;refine ⟨_,_,_,rfl,?_,hbel3⟩
      have e : Vint.encF f m = [UInt8.ofNat m]:=by
        cases f with
        | zero=>rfl
        | succ f=>unfold Vint.encF;rw [if_pos (by omega)]
      rw [← HP.out,e]
      simpa using ho2
end Go.Proofs.YtfpenfgmpbdakaaGreat

namespace Go.Proofs.YtfpenfgmpbdakaaGreat
set_option linter.unusedVariables false
set_option linter.unusedSimpArgs false
set_option maxRecDepth 100000
open Go.RowKit
open Dot Evt
theorem encN_take (l : List Int) {k : Nat} (h : k < l.length) : encN ((l.take (k + 1)).map Int.toNat) = encN ((l.take k).map Int.toNat) ++ Vint.enc (l[k]).toNat:=by
  rw [take_snoc l h,List.map_append,encN_app]
  simp [encN]
set_option maxRecDepth 100000 in
set_option maxHeartbeats 2000000 in
theorem rput07_any (x : Ev) (hp : x.p.length = 7) (A : Option Addr) (m c : Nat) (w : World) (hl : RdD w w.heap.size A m x.l) (hmb : m≤10000000000000) :
    Calls Tryz.prog 87 #[.agg (ec x (.slice A m c))] w (GiveBE w (putE x).1 (putE x).2):=by
  obtain ⟨cs,hcs⟩ : ∃ cs,cs = ec x (.slice A m c):=⟨_,rfl⟩
  have hright:=fun (w' : World) (h : Below w.heap.size w w')=>eright07_any x hp A m c w' (hl.below h).size (by omega)
  have hnums:=fun (w' : World) (h : Below w.heap.size w w') (h96 : m≤96)=>rnums_any x hp A m c w' (hl.below h).size h96
  have hcz : cs.size = 14:=by rw [hcs];rfl
  rw [← hcs] at hright hnums ⊢;have HRT:=Lib.hid hright;have HNU:=Lib.hid hnums;have HCZ:=Lib.hid hcz;have HM:=Lib.hid hl.1;have HP:=Lib.hid hp;clear hright hnums hcz hcs hl hp
  go_enter Tryz.func87,Tryz.ntmps87
  go_upto_region 1 with fail
  refine nameW ?_;intro wv hwv;obtain ⟨b,hb⟩ : ∃ b,b = w.heap.size:=⟨_,rfl⟩;rw [← hb]
  have kb : Blk wv b 47 cs:=by rw [hwv,hb];exact Blk.new _ _ _
  have gb : Below w.heap.size w wv:=by rw [hwv];exact (Below.refl _ _).alloc (Nat.le_refl _) _
  have HB:=Lib.hid hb;clear hwv hb;have hr:=HRT.out wv gb
  cases hx : rightE x
  case false =>
    rw [hx] at hr
    have he : putE x = ([],2):=by unfold putE;rw [hx];rfl
    have HE:=Lib.hid he;have HR:=Lib.hid hr;clear hr hx he
    go_wp2_with first
      | ((with_reducible refine wpList_ld rowE kb HCZ.out ?_ ?_);rotate_left;(rfl))
    refine HR.out.mono ?_;rintro e w1 ⟨rfl,b1⟩;go_wp2_with fail;go_ret2;exact ⟨none,0,0,by rw [HE.out];rfl,by rw [HE.out];exact OwnB.nil _ _,gb.trans (b1.mono gb.size)⟩
  case true =>
    rw [hx] at hr
    have he : putE x = (encE x,0):=by unfold putE;rw [hx];rfl
    have HE:=Lib.hid he;have hf:=right_facts HP.out hx;have hbd:=numsE_bd HP.out hx;have hlen:=numsE_len x HP.out
    have h96 : m≤96:=by rw [HM.out];exact hf.2.2.1
    have HNL:=Lib.hid (show (numsE x).length≤205 by have:=hf.2.2.1;omega);have hEE : encE x = encN ((numsE x).map Int.toNat):=rfl;obtain ⟨L,hL⟩ : ∃ L,L = numsE x:=⟨_,rfl⟩
    have hnu:=fun w' h=>HNU.out w' h h96
    rw [← hL] at hbd HNL hnu;rw [← hL] at hEE;have HEE:=Lib.hid hEE;have HR:=Lib.hid hr;have HBD:=Lib.hid hbd;have HN2:=Lib.hid hnu;clear hr hx he hf hbd hlen h96 hEE hL HNU hnu
    go_wp2_with first
      | ((with_reducible refine wpList_ld rowE kb HCZ.out ?_ ?_);rotate_left;(rfl))
    refine HR.out.mono ?_;rintro e w1 ⟨rfl,b1⟩;have kb1:=kb.below b1 kb.lt;have gb1:=gb.trans (b1.mono gb.size);clear HR kb gb b1
    go_wp2_with first
      | ((with_reducible refine wpList_ld rowE kb1 HCZ.out ?_ ?_);rotate_left;(rfl))
    refine (HN2.out w1 gb1).mono ?_;rintro e w2 ⟨A2,n2,c2,rfl,ho,b2⟩;have gb2:=gb1.trans (b2.mono gb1.size);have hrd:=ho.rd;have HN:=Lib.hid ho.1;clear HN2 gb1 b2 ho kb1;go_wp2_with fail
    go_loopw [4,13] (fun s i wr=>∃ (j : Nat) (A' : Option Addr) (n' c' : Nat),j≤n2∧i = .int .i64 j∧s = .slice A' n' c'∧OwnB wr w.heap.size A' n' c' (encN ((L.take j).map Int.toNat))∧Below w2.heap.size w2 wr) (fun _ i _=>n2 - (intOf i).toNat)
    case atStart=>exact ⟨0,none,0,0,by omega,rfl,rfl,by simpa [encN] using OwnB.nil w2 w.heap.size,Below.refl _ _⟩
    case round =>
      obtain ⟨j,A',n',c',hj,rfl,rfl,ho,gb⟩:=hrel
      by_cases hlt : j < n2
      · have hjl : j < L.length:=by rw [← HN.out];exact hlt
        obtain ⟨ad,hA,hab,hc⟩:=(hrd.below gb).at_ hjl;have hst:=encN_take L hjl;have hz:=HBD.out _ (List.getElem_mem hjl)
        generalize L[j] = z at *
        obtain ⟨z,rfl⟩:=Int.eq_ofNat_of_zero_le hz.1;have HZ:=Lib.hid (show z≤1099511627776 by have:=hz.2;unfold top at this;omega);rw [Int.toNat_natCast] at hst;have HST:=Lib.hid hst;have hln:=encN_len ((L.take j).map Int.toNat);rw [List.length_map,List.length_take] at hln;have HLN:=Lib.hid (show n'≤140737488355000 by rw [ho.1];have:=HNL.out;omega)
        have hj0 : (0 : Int)≤(j : Int):=by omega
        have hjm : (j : Int) < (n2 : Int):=by omega
        have hc' : wr.cell? (ad.add j) = some (.int .i64 (z : Int)):=hc;subst hA;have HO:=Lib.hid ho;have HRP:=Lib.hid (rput_ok A' n' c' _ z wr.heap.size wr ho.rd (Nat.le_refl _) HLN.out HZ.out);clear hz hst hln hc ho;go_wp2_with fail;refine HRP.out.mono ?_;rintro e w3 ⟨A3,n3,c3,rfl,o3,b3⟩;have gb3:=gb.trans (b3.mono gb.size);go_wp2_with fail
        go_roundw
        case rel=>exact ⟨j + 1,A3,n3,c3,by omega,num_succ j (by have:=HN.out;have:=HNL.out;omega),rfl,by rw [HST.out];exact o3.mono (by have:=gb.size;have:=gb2.size;omega),gb3⟩
        case measure=>exact meas_succ j n2 hlt (by have:=HN.out;have:=HNL.out;omega)
      · rw [List.take_of_length_le (by rw [← HN.out];omega)] at ho
        have HO:=Lib.hid ho;have hkd : decide ((j : Int) < (n2 : Int)) = false:=decide_eq_false (by omega);clear ho;go_wp2_with fail;go_ret2;exact ⟨A',n',c',by rw [HE.out];rfl,by rw [HE.out,HEE.out];exact HO.out,gb2.trans (gb.mono gb2.size)⟩
end Go.Proofs.YtfpenfgmpbdakaaGreat

namespace Go.Proofs.YtfpenfgmpbdakaaGreat
set_option linter.unusedVariables false
set_option linter.unusedSimpArgs false
set_option maxRecDepth 100000
open Go.RowKit
open Disk
namespace Sto.Stp
open _root_.Go.Proofs.YtfpenfgmpbdakaaGreat.Log (writeM rewriteM mendM LogEnd MendEnd lwrite_any lrewrite_any lmend_any lread_any ReadL)
open _root_.Go.Proofs.YtfpenfgmpbdakaaGreat.Frame (frm frms frms_nil frms_cons frms_snoc frms_append frm_length frm_pos Parts AllF)
structure Db where
  lasts : List UInt8
  ws : List W
def Db.v (d : Db) : List UInt8:=readL d.lasts d.ws
def Db.length (d : Db) : Nat:=d.v.length
def Db.of (b : List UInt8) : Db:=⟨b,[]⟩
def Db.app (d : Db) (x : List UInt8) : Db:=⟨d.v ++ x,[]⟩
instance dbApp : HAppend Db (List UInt8) Db:=⟨Db.app⟩
def Db.ok (d : Db) : Prop:=d.lasts.length + mass d.ws≤100000∧d.ws.length≤100∧pend d.ws≤100000
theorem Db.of_ok {b : List UInt8} (h : b.length≤16384) : (Db.of b).ok:=⟨by show b.length + 0≤_;omega,Nat.zero_le _,Nat.zero_le _⟩
theorem Db.app_ok {d : Db} {x : List UInt8} (h : d.length + x.length≤16384) : (d ++ x).ok:=Db.of_ok (b:=d.v ++ x) (by rw [List.length_append];exact h)
def writeD (size : Nat) (d : Db) (x : List UInt8) : Nat × Db :=
  if 4096 < x.length then (6,d) else if d.length + (frm x).length≤size then (0,d ++ frm x) else (7,d)
def rewriteD (size : Nat) (d : Db) (ls : List (List UInt8)) : Nat × Db :=
  if ls.all (·.length≤4096) then (if (frms ls).length≤size then (0,Db.of (frms ls)) else (7,d)) else (6,d)
def mendD (d : Db) (l : List (List UInt8)) : Db:=if (frms l).length < d.length then Db.of (frms l) else d
theorem writeD_eq (size : Nat) (d : Db) (x : List UInt8) : writeM size d.lasts d.ws x = ((writeD size d x).1,(writeD size d x).2.lasts,(writeD size d x).2.ws):=by
  unfold writeM writeD
  by_cases h : 4096 < x.length
  · rw [if_pos h,if_pos h]
  · rw [if_neg h,if_neg h]
    by_cases h2 : (readL d.lasts d.ws).length + (frm x).length≤size
    · rw [if_pos h2,if_pos (show d.length + (frm x).length≤size from h2)]
      rfl
    · rw [if_neg h2,if_neg (show ¬ d.length + (frm x).length≤size from h2)]
theorem writeD_ok {size : Nat} {d : Db} (x : List UInt8) (hs : size≤16384) (h : d.ok) : (writeD size d x).2.ok:=by
  unfold writeD
  split
  · exact h
  · split
    · exact Db.app_ok (by omega)
    · exact h
theorem rewriteD_eq (size : Nat) (d : Db) (ls : List (List UInt8)) : rewriteM size d.lasts d.ws ls = ((rewriteD size d ls).1,(rewriteD size d ls).2.lasts,(rewriteD size d ls).2.ws):=by
  unfold rewriteM rewriteD
  by_cases h : ls.all (·.length≤4096) = true
  · rw [if_pos h,if_pos h]
    by_cases h2 : (frms ls).length≤size
    · rw [if_pos h2,if_pos h2];rfl
    · rw [if_neg h2,if_neg h2]
  · rw [if_neg h,if_neg h]
theorem rewriteD_ok {size : Nat} {d : Db} (ls : List (List UInt8)) (hs : size≤16384) (h : d.ok) : (rewriteD size d ls).2.ok:=by
  unfold rewriteD
  split
  · split
    · exact Db.of_ok (by omega)
    · exact h
  · exact h
theorem mendD_eq (d : Db) (l : List (List UInt8)) : mendM d.lasts d.ws l = (0,(mendD d l).lasts,(mendD d l).ws):=by
  unfold mendM mendD
  by_cases h : (frms l).length < (readL d.lasts d.ws).length
  · rw [if_pos h,if_pos (show (frms l).length < d.length from h)];rfl
  · rw [if_neg h,if_neg (show ¬ (frms l).length < d.length from h)]
theorem mend_v {d : Db} {l : List (List UInt8)} {r : List UInt8} (hp : Parts d.v l r) : (mendD d l).v = frms l:=by
  unfold mendD
  split
  · rfl
  · rename_i h
    have h1:=hp.1;have h2:=congrArg List.length h1;rw [List.length_append] at h2;have hr : r = []:=List.eq_nil_of_length_eq_zero (by have : d.length = d.v.length:=rfl;omega);rw [hr,List.append_nil] at h1;rw [h1]
theorem mendD_ok {size : Nat} {d : Db} (l : List (List UInt8)) (hs : size≤16384) (hl : d.length≤size) (h : d.ok) : (mendD d l).ok:=by
  unfold mendD
  split
  · exact Db.of_ok (by omega)
  · exact h
def DiskD (w : World) (F : Nat→Prop) (g size : Nat) (d : Db) : Prop:=DiskAt w F g size d.lasts d.ws∧d.ok
def DiskOpD (w : World) (F : Nat→Prop) (g size : Nat) (d : Db) (w' : World) : Prop:=∃ F',DiskD w' F' g size d∧Only F w w'∧Grows F F' w
section
variable {w w1 : World} {F : Nat→Prop} {g size : Nat} {d : Db}
theorem DiskD.lt (h : DiskD w F g size d) : ∀ k,F k→k < w.heap.size:=h.1.lt
theorem DiskD.keep (h : DiskD w F g size d) (hk : Keeps F w w1) : DiskD w1 F g size d:=⟨h.1.keep hk,h.2⟩
theorem DiskD.below (h : DiskD w F g size d) (hb : Below w.heap.size w w1) : DiskD w1 F g size d:=⟨h.1.below hb,h.2⟩
theorem DiskOpD.of (h : DiskOp w F g size d.lasts d.ws w1) (ok : d.ok) : DiskOpD w F g size d w1:=by
  obtain ⟨F',h1,h2,h3⟩:=h;exact ⟨F',⟨h1,ok⟩,h2,h3⟩
theorem DiskOpD.kept {b : Nat} {t : TypeId} {cs : Array Value} (h : DiskOpD w F g size d w1) (k : Blk w b t cs) (hF : ¬ F b) : Blk w1 b t cs:=by
  obtain ⟨F',_,o,_⟩:=h;exact k.only o hF
end
def DLogEnd (w : World) (F : Nat→Prop) (g size : Nat) (r : Nat × Db) (e : Ending) (w' : World) : Prop:=e = .returned (.int .i64 (r.1 : Nat))∧DiskOpD w F g size r.2 w'
theorem lwriteD_any (A : Option Addr) (n c B : Nat) (bs : List UInt8) (F : Nat→Prop) (g size : Nat) (d : Db) (w : World) (hD : DiskD w F g size d) (hs : size≤16384) (hb : RdB w B A n bs) (hB : B≤w.heap.size) (hc : n≤c) (hcm : c≤maxLen) :
    Calls Tryz.prog 76 #[.pointer (some ⟨g,0,none⟩),.slice A n c] w (DLogEnd w F g size (writeD size d bs)):=by
  have h1:=hD.2.1;have h2:=hD.2.2.1;refine (lwrite_any A n c B bs F g size d.lasts d.ws w hD.1 (by omega) (by omega) hs hb hB hc hcm).mono ?_;rintro e w' ⟨he,ho⟩;rw [writeD_eq] at he ho;exact ⟨he,DiskOpD.of ho (writeD_ok bs hs hD.2)⟩
theorem lrewriteD_any (A : Option Addr) (n c B : Nat) (ls : List (List UInt8)) (F : Nat→Prop) (g size : Nat) (d : Db) (w : World) (hD : DiskD w F g size d) (hs : size≤16384)
    (hb : RdS w B A n ls) (hB : B≤w.heap.size) (hn : n≤1000000) :
    Calls Tryz.prog 57 #[.pointer (some ⟨g,0,none⟩),.slice A n c] w (DLogEnd w F g size (rewriteD size d ls)):=by
  have h1:=hD.2.1;have h2:=hD.2.2.1;refine (lrewrite_any A n c B ls F g size d.lasts d.ws w hD.1 (by omega) (by omega) hs hb hB hn).mono ?_;rintro e w' ⟨he,ho⟩;rw [rewriteD_eq] at he ho;exact ⟨he,DiskOpD.of ho (rewriteD_ok ls hs hD.2)⟩
theorem lmendD_any (F : Nat→Prop) (g size : Nat) (d : Db) (w : World) (hD : DiskD w F g size d) (hs : size≤16384) (hfit : d.length≤size) :
    Calls Tryz.prog 39 #[.pointer (some ⟨g,0,none⟩)] w fun e w'=>∃ l r,Parts d.v l r∧e = .returned (.int .i64 0)∧DiskOpD w F g size (mendD d l) w':=by
  have h1:=hD.2.1;have h2:=hD.2.2.1;refine (lmend_any F g size d.lasts d.ws w hD.1 (by omega) (by omega) hs hfit).mono ?_;rintro e w' ⟨l,r,hp,he,ho⟩;rw [mendD_eq] at he ho;exact ⟨l,r,hp,he,DiskOpD.of ho (mendD_ok l hs hfit hD.2)⟩
theorem lreadD_any (F : Nat→Prop) (g size : Nat) (d : Db) (w : World) (hD : DiskD w F g size d) :
    Calls Tryz.prog 40 #[.pointer (some ⟨g,0,none⟩)] w (ReadL w d.v):=by
  have h1:=hD.2.1;have h2:=hD.2.2.1;exact lread_any F g size d.lasts d.ws w hD.1 (by omega) (by omega)
end Sto.Stp
end Go.Proofs.YtfpenfgmpbdakaaGreat

namespace Go.Proofs.YtfpenfgmpbdakaaGreat
set_option linter.unusedVariables false
set_option linter.unusedSimpArgs false
set_option maxRecDepth 100000
open Go.RowKit
open Disk
namespace Sto.Stp
open _root_.Go.Proofs.YtfpenfgmpbdakaaGreat.Log (writeM LogEnd lwrite_any)
open _root_.Go.Proofs.YtfpenfgmpbdakaaGreat.Frame (frm frms frms_nil frms_cons frms_snoc frms_append frm_length frm_pos Parts AllF)
structure Sd where
  b : Db
  used : Nat
  upto : Nat
  inc : Nat
def StoAt (w : World) (F : Nat→Prop) (b g size : Nat) (S : Sd) (E : Value) : Prop:=DiskD w F g size S.b∧Blk w b 88 (sc g S.used S.upto S.inc E)∧¬ F b
def StoOp (w : World) (F : Nat→Prop) (b g size : Nat) (S : Sd) (E : Value) (w' : World) : Prop:=∃ F',StoAt w' F' b g size S E∧Only (fun k=>F k∨k = b) w w'∧Grows F F' w
structure SW (w : World) (F : Nat→Prop) (b g size : Nat) (S : Sd) (E : Value) (F1 : Nat→Prop) (w1 : World) : Prop where
  disk : DiskD w1 F1 g size S.b
  blk : Blk w1 b 88 (sc g S.used S.upto S.inc E)
  only : Only (fun k=>F k∨k = b) w w1
  grows : Grows F F1 w
  nf : ¬ F b
  lt : b < w.heap.size
  fl : ∀ k,F k→k < w.heap.size
section
variable {w w0 w1 w2 : World} {F F1 : Nat→Prop} {b g size : Nat} {S : Sd} {E : Value} {l : Db}
theorem StoAt.sw (h : StoAt w F b g size S E) : SW w F b g size S E F w:=⟨h.1,h.2.1,Only.refl _ _,Grows.refl _ _,h.2.2,h.2.1.lt,h.1.lt⟩
theorem StoAt.below (h : StoAt w F b g size S E) (hb : Below w.heap.size w w1) : StoAt w1 F b g size S E:=⟨h.1.below hb,h.2.1.below hb h.2.1.lt,h.2.2⟩
theorem SW.nb (h : SW w F b g size S E F1 w1) : ¬ F1 b:=fun hk=>by
  rcases h.grows _ hk with q | q
  · exact h.nf q
  · have:=h.lt;omega
theorem SW.below (h : SW w F b g size S E F1 w1) (hb : Below w1.heap.size w1 w2) : SW w F b g size S E F1 w2 :=
  ⟨h.disk.below hb,h.blk.below hb h.blk.lt,h.only.then_below (hb.mono h.only.size),h.grows,h.nf,h.lt,h.fl⟩
theorem SW.op (h : SW w F b g size S E F1 w1) (ho : DiskOpD w1 F1 g size l w2) : ∃ F2,SW w F b g size { S with b:=l } E F2 w2:=by
  obtain ⟨F2,o1,o2,o3⟩:=ho;refine ⟨F2,o1,h.blk.only o2 h.nb,?_,?_,h.nf,h.lt,h.fl⟩
  · refine h.only.trans (o2.mono (G:=fun k=>F1 k∨k = b) fun k hk=>.inl (.inl hk)) fun k hk=>?_
    rcases hk with hk | hk
    · rcases h.grows k hk with q | q
      · exact .inl (.inl q)
      · exact .inr q
    · exact .inl (.inr hk)
  · exact h.grows.trans o3 h.only.size
theorem SW.set_ {u' v' i' : Nat} (h : SW w F b g size S E F1 w1) {i : Nat} {x : Value} (hk : Blk (w1.setCell ⟨b,i,none⟩ x) b 88 (sc g u' v' i' E)) : SW w F b g size ⟨S.b,u',v',i'⟩ E F1 (w1.setCell ⟨b,i,none⟩ x) :=
  ⟨h.disk.keep ⟨by simp [World.setCell],fun k hk=>Below.heap_setCell w1 _ _ k (fun e=>h.nb (by have e : k = b:=e;rw [← e];exact hk))⟩,hk,h.only.setCell (.inl (.inr rfl)) x,h.grows,h.nf,h.lt,h.fl⟩
theorem SW.drew (h : SW w F b g size S E F1 w1) : SW w F b g size S E F1 w1.drew:=h.below (Below.refl _ _).drew
theorem SW.drewN (h : SW w F b g size S E F1 w1) (n : Nat) : SW w F b g size S E F1 (w1.drewN n):=h.below (below_drewN (Below.refl _ _) n)
theorem SW.nk (h : SW w F b g size S E F1 w1) {k : Nat} (hk : k < w.heap.size) (hF : ¬ F k) : ¬ F1 k:=fun q=>by
  rcases h.grows _ q with x | x
  · exact hF x
  · omega
theorem SW.fin (h : SW w0 F b g size S E F1 w1) (hb : Below w.heap.size w w0) (hl : b < w.heap.size) (hf : ∀ k,F k→k < w.heap.size) : StoOp w F b g size S E w1 :=
  ⟨F1,⟨h.disk,h.blk,h.nb⟩,(Only.of_below _ hb).trans h.only (Grows.refl _ _),fun k hk=>(h.grows k hk).imp id fun q=>by have:=hb.size;omega⟩
theorem SW.err (h : SW w0 F b g size S E F1 w1) (hb : Below w.heap.size w w0) (hs : w.heap.size < w0.heap.size) (hl : b < w.heap.size) (hf : ∀ k,F k→k < w.heap.size) (i : Nat) (x : Value) : StoOp w F b g size S E (w1.setCell ⟨w.heap.size,i,none⟩ x):=by
  have hn : ¬ F1 w.heap.size:=fun hk=>by
    rcases h.grows _ hk with q | q
    · have:=hf _ q;omega
    · omega
  refine ⟨F1,⟨h.disk.keep ⟨by simp [World.setCell],fun k hk=>Below.heap_setCell w1 _ _ k (fun e=>hn (by have e : k = w.heap.size:=e;rw [← e];exact hk))⟩,h.blk.far (by show b ≠ w.heap.size;omega) x,h.nb⟩,
    ((Only.of_below _ hb).trans h.only (Grows.refl _ _)).setCell (.inr (Nat.le_refl _)) x,fun k hk=>(h.grows k hk).imp id fun q=>by have:=hb.size;omega⟩
theorem SW.keeps {t : TypeId} {cs : Array Value} (h : SW w0 F b g size S E F1 w1) {k : Nat} (kb : Blk w0 k t cs) (hk : k ≠ b) (hf : ¬ F k) : Blk w1 k t cs:=kb.only h.only (by rintro (q | q);exact hf q;exact hk q)
end
theorem write_any (A : Option Addr) (n c B : Nat) (bs : List UInt8) (F : Nat→Prop) (b g size u v i : Nat) (lasts : Db) (E : Value) (w : World) (h0 : Blk w b 88 (sc g u v i E)) (hD : DiskD w F g size lasts) (hm : lasts.length≤16384) (hs : size≤16384)
    (hb : RdB w B A n bs) (hB : B≤w.heap.size) (hc : n≤c) (hcm : c≤maxLen) :
    Calls Tryz.prog 48 #[.pointer (some ⟨b,0,none⟩),.slice A n c] w fun e w'=>(e = if (writeD size lasts bs).1 = 0 then .returned (.tuple #[]) else .panicked [{ v:=flt ((writeD size lasts bs).1 : Nat),recovered:=false }])∧DiskOpD w F g size (writeD size lasts bs).2 w':=by
  have c0 : w.cell? ⟨b,0,none⟩ = some (.pointer (some ⟨g,0,none⟩)):=h0.cell 0;have hw:=lwriteD_any A n c B bs F g size lasts w hD hs hb hB hc hcm
  unfold DLogEnd at hw
  generalize writeD size lasts bs = r at *
  obtain ⟨k,l1⟩:=r
  simp only at hw ⊢
  have HW:=Lib.hid hw;clear hw hD hb hc hm h0
  by_cases h : k = 0
  · subst h
    rw [if_pos rfl]
    go_enter Tryz.func48,Tryz.ntmps48
    go_wp2_with fail;refine HW.out.mono ?_;rintro e w1 ⟨rfl,h1⟩;have H1:=Lib.hid h1;clear h1;go_wp2_with fail;refine (must_yes (by first | with_reducible rfl | assumption | (simp;done) | (simp;omega)) _ _).mono ?_;rintro e w2 ⟨rfl,rfl⟩;go_wp2_with fail
    go_end0
    exact ⟨rfl,H1.out⟩
  · rw [if_neg h]
    have hq : ((k : Int) == 0) = false:=by rw [beq_eq_false_iff_ne];omega
    go_enter Tryz.func48,Tryz.ntmps48
    go_wp2_with fail;refine HW.out.mono ?_;rintro e w1 ⟨rfl,h1⟩;have H1:=Lib.hid h1;clear h1;go_wp2_with fail;refine (must_no (by first | with_reducible rfl | assumption | (simp;done) | (simp;omega)) _ _).mono ?_;rintro e w2 ⟨rfl,rfl⟩;go_wp2_with fail;exact ⟨rfl,rfl,H1.out⟩
theorem told_lit (kd : UInt8) (z m : Int) (n : Nat) (hz : (kd.toNat : Int) = z) (hm : m = (n : Nat)) (hn : n≤1099511627776) (w : World) :
    Calls Tryz.prog 49 #[.int .u8 z,.int .i64 m] w (GiveB w (told kd n)):=by
  subst hz hm;exact told_any kd n hn w
theorem told_write {size : Nat} {b : Db} {kd : UInt8} {n : Nat} : writeD size b (told kd n) = if b.length + (frm (told kd n)).length≤size then (0,b ++ frm (told kd n)) else (7,b):=by
  unfold writeD
  have:=told_len kd n
  rw [if_neg (by omega)]
def nextD (size : Nat) (S : Sd) : Nat × Nat × Sd :=
  if S.used < S.upto then (S.used + 1,0,⟨S.b,S.used + 1,S.upto,S.inc⟩)
  else if 96≤S.upto then (0,7,S)
  else if S.b.length + (frm (told 1 (min (S.upto + 8) 96))).length≤size then (S.used + 1,0,⟨S.b ++ frm (told 1 (min (S.upto + 8) 96)),S.used + 1,min (S.upto + 8) 96,S.inc⟩)
  else (0,7,S)
def bumpD (size : Nat) (S : Sd) : Nat × Nat × Sd :=
  if 1099511627776≤S.inc then (0,7,S)
  else if S.b.length + (frm (told 2 (S.inc + 1))).length≤size then (S.inc + 1,0,⟨S.b ++ frm (told 2 (S.inc + 1)),S.used,S.upto,S.inc + 1⟩)
  else (0,7,S)
def NumOp (w : World) (F : Nat→Prop) (b g size : Nat) (E : Value) (r : Nat × Nat × Sd) (e : Ending) (w' : World) : Prop:=e = .returned (.tuple #[.int .i64 (r.1 : Nat),.int .i64 (r.2.1 : Nat)])∧StoOp w F b g size r.2.2 E w'
theorem next_nil (w : World) :
    Calls Tryz.prog 14 #[.pointer none] w fun e w'=>e = .returned (.tuple #[.int .i64 0,.int .i64 1])∧Below w.heap.size w w':=by
  have k0:=(Blk.new w 27 #[.int .i64 0]).set_ 0 (.int .i64 1);have c0 : World.cell? _ _ = some (.int .i64 1):=k0.cell 0;have f0:=(Blk.new w 27 #[.int .i64 0]).free 0;have hbw : Below w.heap.size w (w.alloc (.cells #[.int .i64 1] 27)):=(Below.refl _ _).alloc (Nat.le_refl _) _;have HB:=Lib.hid hbw;clear hbw k0
  go_enter_defers Tryz.func14,Tryz.ntmps14
  go_wp2_with fail;refine ⟨.tuple #[.int .i64 0,.int .i64 1],by simp [results,Tryz.results14,go_sem,c0],rfl,HB.out⟩
theorem upto_any (b g used u i : Nat) (E : Value) (w : World) (h0 : Blk w b 88 (sc g used u i E)) :
    Calls Tryz.prog 32 #[.pointer (some ⟨b,0,none⟩)] w fun e w'=>e = .returned (.int .i64 (u : Nat))∧w = w':=by
  have c0:=h0.cell 2
  go_enter Tryz.func32,Tryz.ntmps32
  go_wp2_with fail;go_ret;exact ⟨rfl,rfl⟩
end Sto.Stp
end Go.Proofs.YtfpenfgmpbdakaaGreat

namespace Go.Proofs.YtfpenfgmpbdakaaGreat
set_option linter.unusedVariables false
set_option linter.unusedSimpArgs false
set_option maxRecDepth 100000
open Go.RowKit
open Disk
namespace Log
open _root_.Go.Proofs.YtfpenfgmpbdakaaGreat.Frame (frm frms frms_nil frms_cons frms_snoc frms_append frm_length frm_pos Parts AllF)
theorem LogEnd.at_ {w w' : World} {F : Nat→Prop} {g size x : Nat} {r : Res} {e : Ending} {b : List UInt8} {ws : List W} (h : LogEnd w F g size r e w') (hr : r = (x,b,ws)) : e = .returned (.int .i64 (x : Nat))∧DiskOp w F g size b ws w':=by subst hr;exact h
theorem frm1 (x : UInt8) : (frm [x]).length = 7:=by rw [frm_length];rfl
theorem frms1 (x : UInt8) : frms [[x]] = frm [x]:=by rw [frms_cons,frms_nil,List.append_nil]
theorem al1 : writeM 100 [] [] [97] = (0,frms [[97]],[]):=by
  unfold writeM
  rw [if_neg (by simp),if_pos (by rw [frm1];simp [readL,afterL]),frms1]
  rfl
theorem al2 : writeM 100 (frms [[97]]) [] [98] = (0,frms [[97],[98]],[]):=by
  unfold writeM
  have e : readL (frms [[97]]) [] = frms [[97]]:=rfl;rw [if_neg (by simp),e,frms1,if_pos (by rw [frm1,frm1];omega),frms_cons,frms1]
theorem al_len2 : (frms [[97],[98]]).length = 14:=by rw [frms_cons,frms1,List.length_append,frm1,frm1]
theorem al3 : afterL (frms [[97],[98]]) ([] ++ [(false,[1,1,99])]) 2 = frms [[97],[98]] ++ [1,1]:=by simp [afterL,units,doW]
theorem dec11 : Frame.dec [1,1] = .error 3:=Frame.dec_short (k:=1) (r:=[]) (Vint.dec_enc (n:=1) (by decide) []) (by omega) (by simp)
theorem al4 : Parts (readL (frms [[97],[98]] ++ [1,1]) []) [[97],[98]] [1,1]:=⟨rfl,by simp,3,dec11⟩
theorem al5 : mendM (frms [[97],[98]] ++ [1,1]) [] [[97],[98]] = (0,frms [[97],[98]],[]):=by
  unfold mendM
  rw [if_pos (by show _ < (frms [[97],[98]] ++ [1,1]).length;rw [List.length_append];simp)]
theorem al6 : writeM 100 (frms [[97],[98]]) [] [99] = (0,frms [[97],[98],[99]],[]):=by
  unfold writeM
  have e : readL (frms [[97],[98]]) [] = frms [[97],[98]]:=rfl;rw [if_neg (by simp),e,if_pos (by rw [frm1,al_len2];omega),show [[97],[98],[99]] = [[97],[98]] ++ [[(99 : UInt8)]] from rfl,frms_snoc]
end Log
end Go.Proofs.YtfpenfgmpbdakaaGreat

namespace Go.Proofs.YtfpenfgmpbdakaaGreat
set_option linter.unusedVariables false
set_option linter.unusedSimpArgs false
set_option maxRecDepth 100000
open Go.RowKit
namespace Vint
theorem decF_nil {i n : Nat} (hi : i < 6) : decF (6 - i) i n [] = .error 3:=by
  obtain ⟨k,hk⟩ : ∃ k,6 - i = k + 1:=⟨5 - i,by omega⟩;rw [hk];rfl
theorem decF_more {i n : Nat} (hi : i < 6) {c : UInt8} (r : List UInt8) (hc : 128≤c.toNat) : decF (6 - i) i n (c :: r) = decF (6 - (i + 1)) (i + 1) (n + (c.toNat % 128) * 128 ^ i) r:=by
  obtain ⟨k,hk⟩ : ∃ k,6 - i = k + 1:=⟨5 - i,by omega⟩;rw [hk,show 6 - (i + 1) = k by omega]
  conv=>lhs;unfold decF
  rw [if_pos hc]
theorem decF_bad {i n : Nat} (hi : i < 6) {c : UInt8} (r : List UInt8) (hc : c.toNat < 128) (h : top < n + c.toNat * 128 ^ i∨(c.toNat = 0∧0 < i)) : decF (6 - i) i n (c :: r) = .error 4:=by
  obtain ⟨k,hk⟩ : ∃ k,6 - i = k + 1:=⟨5 - i,by omega⟩;rw [hk]
  unfold decF
  rw [if_neg (by omega),if_pos h]
theorem decF_good {i n : Nat} (hi : i < 6) {c : UInt8} (r : List UInt8) (hc : c.toNat < 128) (h1 : n + c.toNat * 128 ^ i≤top) (h2 : c.toNat ≠ 0∨i = 0) : decF (6 - i) i n (c :: r) = .ok (n + c.toNat * 128 ^ i,r):=by
  obtain ⟨k,hk⟩ : ∃ k,6 - i = k + 1:=⟨5 - i,by omega⟩;rw [hk]
  unfold decF
  rw [if_neg (by omega),if_neg (by omega)]
theorem pow128 {i : Nat} (hi : i < 6) : 1≤128 ^ i∧128 ^ i≤34359738368:=by
  match i,hi with
  | 0,_=>decide
  | 1,_=>decide
  | 2,_=>decide
  | 3,_=>decide
  | 4,_=>decide
  | 5,_=>decide
end Vint
def RRd (w : World) (g : Nat) (A : Option Addr) (n c at' e : Nat) : Prop:=Blk w g 100 #[.slice A n c,.int .i64 (at' : Nat),.int .i64 (e : Nat)]
def RInt (w : World) (g : Nat) (A : Option Addr) (n c at' : Nat) (bs : List UInt8) (e : Ending) (w' : World) : Prop :=
  w.grownBy w' (some g)∧match Vint.dec (bs.drop at') with
    | .ok (m,r)=>e = .returned (.int .i64 (m : Nat))∧RRd w' g A n c (n - r.length) 0
    | .error x=>e = .returned (.int .i64 0)∧RRd w' g A n c at' x
theorem RInt.good {w w' : World} {g : Nat} {A : Option Addr} {n c at' : Nat} {bs : List UInt8} {e : Ending} {m : Nat} {r : List UInt8} (hd : Vint.dec (bs.drop at') = .ok (m,r)) (he : e = .returned (.int .i64 (m : Nat))) (hr : RRd w' g A n c (n - r.length) 0) (hg : w.grownBy w' (some g)) : RInt w g A n c at' bs e w':=by
  refine ⟨hg,?_⟩;rw [hd];exact ⟨he,hr⟩
theorem RInt.bad {w w' : World} {g : Nat} {A : Option Addr} {n c at' : Nat} {bs : List UInt8} {e : Ending} {x : Nat} (hd : Vint.dec (bs.drop at') = .error x) (he : e = .returned (.int .i64 0)) (hr : RRd w' g A n c at' x) (hg : w.grownBy w' (some g)) : RInt w g A n c at' bs e w':=by
  refine ⟨hg,?_⟩;rw [hd];exact ⟨he,hr⟩
theorem rint_fail (g : Nat) (A : Option Addr) (n c at' e : Nat) (w : World) (hR : RRd w g A n c at' e) (he : e ≠ 0) :
    Calls Tryz.prog 46 #[.pointer (some ⟨g,0,none⟩)] w fun r w'=>r = .returned (.int .i64 0)∧w = w':=by
  have c2 : w.cell? ⟨g,2,none⟩ = some (.int .i64 (e : Nat)):=hR.cell 2
  have hq : ((e : Int) != 0) = true:=by rw [bne_iff_ne];omega
  go_enter Tryz.func46,Tryz.ntmps46
  go_wp2_with fail;go_ret;exact ⟨rfl,rfl⟩
set_option maxRecDepth 100000 in
set_option maxHeartbeats 1000000 in
theorem rint_any (g : Nat) (A : Option Addr) (n c at' : Nat) (bs : List UInt8) (B : Nat) (w : World) (hR : RRd w g A n c at' 0) (hb : RdB w B A n bs) (ha : at'≤n) (hn : n≤1000000000000) :
    Calls Tryz.prog 46 #[.pointer (some ⟨g,0,none⟩)] w (RInt w g A n c at' bs):=by
  have c0 : w.cell? ⟨g,0,none⟩ = some (.slice A n c):=hR.cell 0;have c1 : w.cell? ⟨g,1,none⟩ = some (.int .i64 (at' : Nat)):=hR.cell 1;have c2 : w.cell? ⟨g,2,none⟩ = some (.int .i64 0):=hR.cell 2;have f1:=hR.free 1;have f2:=hR.free 2;obtain rfl:=hb.1
  go_enter Tryz.func46,Tryz.ntmps46
  go_wp2_with fail
  go_loopw [3,4,5,6] (fun v p s j wr=>∃ (i m nn P : Nat),i≤6∧j = .int .i64 i∧v = .int .i64 nn∧p = .int .i64 P∧s = .int .i64 0∧P = 128 ^ i∧nn < P∧at' + i≤bs.length∧Vint.dec (bs.drop at') = Vint.decF (6 - i) i nn (bs.drop (at' + i))∧wr = w.drewN m) (fun _ _ _ j _=>6 - (intOf j).toNat)
  case atStart=>exact ⟨0,0,0,1,by omega,rfl,rfl,rfl,rfl,rfl,by omega,ha,rfl,rfl⟩
  case round =>
    obtain ⟨i,m,nn,P,hi,rfl,rfl,rfl,rfl,hP,hnn,hai,hdec,rfl⟩:=hrel;have HP:=Lib.hid hP;have HD:=Lib.hid hdec;clear hP hdec;obtain ⟨q,hq⟩ : ∃ q,at' + i = q:=⟨_,rfl⟩
    by_cases h6 : i < 6
    · have hPb:=Vint.pow128 h6
      rw [← HP.out] at hPb;have hP1:=hPb.1;have hP2:=hPb.2;clear hPb
      have ew : IntKind.i64.wrap ((at' : Int) + (i : Int)) = (q : Int):=by rw [IntWalk.i64_in _ (by omega)];omega
      by_cases hql : q < bs.length
      · obtain ⟨a,rfl,_,hcell⟩:=hb.at_ hql
        obtain ⟨x,hx⟩ : ∃ x,x = bs[q]:=⟨_,rfl⟩;rw [← hx] at hcell
        have hdr : bs.drop q = x :: bs.drop (q + 1):=by rw [hx];exact List.drop_eq_getElem_cons hql
        have HDR:=Lib.hid hdr;have HQ:=Lib.hid hq;clear hx hdr hq;have hxb:=x.toNat_lt;have hd6 : decide ((i : Int) < 6) = true:=decide_eq_true (by omega);have hdq : decide (bs.length≤q) = false:=decide_eq_false (by omega);obtain ⟨V,hV⟩ : ∃ V,V = x.toNat % 128 * P:=⟨_,rfl⟩
        have hVb : V≤127 * P:=by rw [hV];exact Nat.mul_le_mul_right _ (by omega)
        have em : IntKind.i64.wrap ((x.toNat : Int) % 128 * (P : Int)) = (V : Int):=by
          have e : (x.toNat : Int) % 128 * (P : Int) = (V : Int):=by rw [hV];push_cast;rfl
          rw [e,IntWalk.i64_in _ (by omega)]
        have HV:=Lib.hid hV;clear hV
        by_cases hc : 128≤x.toNat
        · have hd : decide ((x.toNat : Int) < 128) = false:=decide_eq_false (by omega)
          go_wp2_with fail
          go_quiet (fail)
          go_wp2_with fail
          go_quiet (fail)
          go_wp2_with fail
          go_roundw
          case rel =>
            refine ⟨i + 1,_,nn + V,P * 128,by omega,by go_num,by go_num,by go_num,rfl,by rw [HP.out,Nat.pow_succ],by omega,by have:=HQ.out;omega,?_,rfl⟩;rw [HD.out,show at' + (i + 1) = q + 1 by have:=HQ.out;omega,HQ.out,HDR.out,Vint.decF_more h6 _ hc,← HP.out,← HV.out]
          case measure=>simp [intOf];omega
        have hd : decide ((x.toNat : Int) < 128) = true:=decide_eq_true (by omega)
        have hVx : V = x.toNat * P:=by rw [HV.out,Nat.mod_eq_of_lt (by omega)]
        have HVX:=Lib.hid hVx;clear hVx;obtain ⟨N,hN⟩ : ∃ N,N = nn + V:=⟨_,rfl⟩
        have eN : IntKind.i64.wrap ((nn : Int) + (V : Int)) = (N : Int):=by rw [IntWalk.i64_in _ (by omega)];omega
        have HN:=Lib.hid hN;clear hN
        have hs0 : ((i : Int) + 1 == 0) = false:=by rw [beq_eq_false_iff_ne];omega
        by_cases hbig : Vint.top < N
        · have hdt : decide ((1099511627776 : Int) < (N : Int)) = true:=decide_eq_true (by unfold Vint.top at hbig;omega)
          have hdec : Vint.dec (bs.drop at') = .error 4:=by
            rw [HD.out,HQ.out,HDR.out];exact Vint.decF_bad h6 _ (by omega) (.inl (by rw [← HP.out,← HVX.out,← HN.out];exact hbig))
          have HDD:=Lib.hid hdec;clear hdec hbig;go_wp2_with fail
          go_quiet (fail)
          go_wp2_with fail
          go_quiet (fail)
          go_wp2_with fail
          go_quiet (fail)
          go_wp2_with fail;go_ret;exact RInt.bad HDD.out rfl (hR.set_ 2 (.int .i64 4)) (only_set (only_drewN (World.grownBy.refl _ _) _) _)
        have hdt : decide ((1099511627776 : Int) < (N : Int)) = false:=decide_eq_false (by unfold Vint.top at hbig;omega);obtain ⟨q1,hq1⟩ : ∃ q1,q1 = q + 1:=⟨_,rfl⟩
        have e1 : IntKind.i64.wrap ((at' : Int) + ((i : Int) + 1)) = (q1 : Int):=by rw [IntWalk.i64_in _ (by omega)];have:=HQ.out;omega
        have e2 : IntKind.i64.wrap ((q1 : Int) - 1) = (q : Int):=by rw [IntWalk.i64_in _ (by omega)];omega
        have hfin : bs.length - (bs.drop (q + 1)).length = q1:=by rw [List.length_drop];omega
        have HF:=Lib.hid hfin;have HQ1:=Lib.hid hq1;clear hfin hq1
        by_cases hgood : x.toNat ≠ 0∨i = 0
        · have hdec : Vint.dec (bs.drop at') = .ok (N,bs.drop (q + 1)):=by
            rw [HD.out,HQ.out,HDR.out,HN.out,HVX.out,HP.out];exact Vint.decF_good h6 _ (by omega) (by rw [← HP.out,← HVX.out,← HN.out];omega) hgood
          have HDD:=Lib.hid hdec;clear hdec hbig
          by_cases hi0 : i = 0
          · subst hi0
            clear hgood
            have hqa : at' = q:=by have:=HQ.out;omega
            subst hqa
            have e1' : IntKind.i64.wrap ((at' : Int) + 1) = (q1 : Int):=by rw [IntWalk.i64_in _ (by omega)];have:=HQ1.out;omega
            go_wp2_with fail
            go_quiet (fail)
            go_wp2_with fail
            go_quiet (fail)
            go_wp2_with fail
            go_quiet (fail)
            go_wp2_with fail;go_ret;have hs:=hR.set_ 1 (.int .i64 (q1 : Nat));refine RInt.good HDD.out rfl ?_ (only_set (only_drewN (World.grownBy.refl _ _) _) _);rw [HF.out];exact hs
          · have hx0 : x.toNat ≠ 0:=by omega
            have hi1 : 0 < i:=by omega
            have hi2 : decide ((1 : Int) < (i : Int) + 1) = true:=decide_eq_true (by omega);have hi3 : decide (0 < (i : Int)) = true:=decide_eq_true (by omega);have hi4 : decide (0 < i) = true:=decide_eq_true (by omega)
            have hxq : ((x.toNat : Int) == 0) = false:=by rw [beq_eq_false_iff_ne];omega
            clear hgood;go_wp2_with fail
            go_quiet (fail)
            go_wp2_with fail
            go_quiet (fail)
            go_wp2_with fail
            go_quiet (fail)
            go_wp2_with fail;go_ret;have hs:=hR.set_ 1 (.int .i64 (q1 : Nat));refine RInt.good HDD.out rfl ?_ (only_set (only_drewN (World.grownBy.refl _ _) _) _);rw [HF.out];exact hs
        · have hx0 : x.toNat = 0:=by omega
          have hi1 : 0 < i:=by omega
          have hi2 : decide ((1 : Int) < (i : Int) + 1) = true:=decide_eq_true (by omega);have hi3 : decide (0 < (i : Int)) = true:=decide_eq_true (by omega);have hi4 : decide (0 < i) = true:=decide_eq_true (by omega)
          have hdec : Vint.dec (bs.drop at') = .error 4:=by
            rw [HD.out,HQ.out,HDR.out];exact Vint.decF_bad h6 _ (by omega) (.inr ⟨hx0,hi1⟩)
          have HDD:=Lib.hid hdec
          have hxq : ((x.toNat : Int) == 0) = true:=by rw [beq_iff_eq];omega
          clear hdec hbig hgood hx0;go_wp2_with fail
          go_quiet (fail)
          go_wp2_with fail
          go_quiet (fail)
          go_wp2_with fail
          go_quiet (fail)
          go_wp2_with fail;go_ret;exact RInt.bad HDD.out rfl (hR.set_ 2 (.int .i64 4)) (only_set (only_drewN (World.grownBy.refl _ _) _) _)
      · have hqe : bs.length≤q:=by omega
        have hdec : Vint.dec (bs.drop at') = .error 3:=by
          rw [HD.out,List.drop_eq_nil_of_le (by omega),Vint.decF_nil h6]
        have HDD:=Lib.hid hdec;clear hdec hq;have hd6 : decide ((i : Int) < 6) = true:=decide_eq_true (by omega);have hdq : decide (bs.length≤q) = true:=decide_eq_true (by omega);go_wp2_with fail
        go_quiet (fail)
        go_wp2_with fail;go_ret;exact RInt.bad HDD.out rfl (hR.set_ 2 (.int .i64 3)) (only_set (only_drewN (World.grownBy.refl _ _) _) _)
    · obtain rfl : i = 6:=by omega
      have hdec : Vint.dec (bs.drop at') = .error 4:=HD.out;have HDD:=Lib.hid hdec;clear hdec hq;go_wp2_with fail
      go_quiet (fail)
      go_wp2_with fail;go_ret;exact RInt.bad HDD.out rfl (hR.set_ 2 (.int .i64 4)) (only_set (only_drewN (World.grownBy.refl _ _) _) _)
end Go.Proofs.YtfpenfgmpbdakaaGreat

namespace Go.Proofs.YtfpenfgmpbdakaaGreat
set_option linter.unusedVariables false
set_option linter.unusedSimpArgs false
set_option maxRecDepth 100000
open Go.RowKit
namespace Frame
def RGetF (w : World) (bs : List UInt8) (e : Ending) (w' : World) : Prop :=
  Below w.heap.size w w'∧match dec bs with
    | .ok (x,r)=>∃ A1 c1 A2 c2,e = .returned (.tuple #[.slice A1 x.length c1,.slice A2 r.length c2,.int .i64 0])∧OwnB w' w.heap.size A1 x.length c1 x∧OwnB w' w.heap.size A2 r.length c2 r
    | .error y=>e = .returned (.tuple #[.slice none 0 0,.slice none 0 0,.int .i64 (y : Nat)])
theorem RGetF.bad {w w' : World} {bs : List UInt8} {e : Ending} {y : Nat} (h : dec bs = .error y) (he : e = .returned (.tuple #[.slice none 0 0,.slice none 0 0,.int .i64 (y : Nat)])) (hb : Below w.heap.size w w') : RGetF w bs e w':=by
  unfold RGetF
  rw [h];exact ⟨hb,he⟩
theorem RGetF.good {w w' : World} {bs x r : List UInt8} {e : Ending} {A5 A6 : Option Addr} {n5 n6 c5 c6 base : Nat} (hd : dec bs = .ok (x,r)) (hbase : w.heap.size≤base) (h5 : OwnB w' base A5 n5 c5 x) (h6 : OwnB w' base A6 n6 c6 r) (he : e = .returned (.tuple #[.slice A5 n5 c5,.slice A6 n6 c6,.int .i64 0])) (hb : Below w.heap.size w w') : RGetF w bs e w':=by
  unfold RGetF
  rw [hd];obtain rfl:=h5.1;obtain rfl:=h6.1;exact ⟨hb,A5,c5,A6,c6,he,h5.mono hbase,h6.mono hbase⟩
theorem apart_last {w : World} {base n c s : Nat} {A : Option Addr} {bs : List UInt8} (h : OwnB w base A n c bs) (hs : w.heap.size = s) : A.map (·.block) = none∨A.map (·.block) ≠ some s:=.inr fun e=>by have:=(h.lt _ e).2;omega
theorem apart_moved {A : Option Addr} {b s g : Nat} (h : Moved A (some b) s) (h1 : b ≠ g) (h2 : s ≠ g) : A.map (·.block) = none∨A.map (·.block) ≠ some g:=.inr fun e=>by
  rcases h with h | h
  · rw [h] at e;injection e with e;exact h1 e
  · rw [h] at e;injection e with e;exact h2 e
theorem addNZ (a : Addr) (n : Nat) (hn : n ≠ 0) : a.add n = ⟨a.block,a.off + n,none⟩:=by unfold Addr.add;rw [if_neg hn]
theorem blk_at {w : World} {g : Nat} {t : TypeId} {cs : Array Value} (h : w.heap.size = g) : Blk (w.alloc (.cells cs t)) g t cs:=h ▸ Blk.new w t cs
theorem bnext {a w : World} (h : Below a.heap.size a w) (o : Obj) : Below a.heap.size a (w.alloc o):=h.alloc h.size o
theorem own_emp {w : World} {g base : Nat} (h : Blk w g 5 #[]) (hb : base≤g) : OwnB w base (some ⟨g,0,none⟩) 0 0 [] :=
  ⟨rfl,rfl,.inr ⟨g,0,#[],rfl,hb,h,Nat.le_refl _,Nat.zero_le _,rfl,rfl⟩⟩
theorem four {l : List UInt8} {E : Nat} {z0 z1 z2 z3 : UInt8} (h0 : l[E]? = some z0) (h1 : l[E + 1]? = some z1) (h2 : l[E + 2]? = some z2) (h3 : l[E + 3]? = some z3) : (l.drop E).take 4 = [z0,z1,z2,z3]:=by
  apply List.ext_getElem?
  intro i;rw [List.getElem?_take]
  match i with
  | 0=>simpa using h0
  | 1=>simpa using h1
  | 2=>simpa using h2
  | 3=>simpa using h3
  | i + 4 =>
    rw [if_neg (by omega)]
    rfl
theorem be_four {S : Nat} {z0 z1 z2 z3 : UInt8} (hS : S < 4294967296) : ([z0,z1,z2,z3] = be S)↔((z0.toNat : Int) = (S : Int) / 16777216∧(z1.toNat : Int) = (S : Int) / 65536 % 256∧(z2.toNat : Int) = (S : Int) / 256 % 256∧(z3.toNat : Int) = (S : Int) % 256):=by
  unfold be
  simp only [List.cons.injEq,and_true,← UInt8.toNat_inj,Vint.toNat_ofNat]
  constructor
  · rintro ⟨a,b,c,d⟩;omega
  · rintro ⟨a,b,c,d⟩;omega
set_option maxRecDepth 100000 in
set_option maxHeartbeats 1000000 in
theorem rget_any (A : Option Addr) (n c : Nat) (bs : List UInt8) (B : Nat) (w : World) (hb : RdB w B A n bs) (hB : B≤w.heap.size) (hl : n≤1000000000000) (hc : n≤c) (hm : c≤maxLen) :
    Calls Tryz.prog 97 #[.slice A n c] w (RGetF w bs):=by
  obtain rfl:=hb.1
  unfold maxLen at hm
  rcases bs with _ | ⟨v,t⟩
  · go_enter Tryz.func97,Tryz.ntmps97
    go_wp2_with fail;go_ret3;exact RGetF.bad dec_nil rfl (Below.refl _ _)
  have hd0 : (((v :: t).length : Int) == 0) = false:=by rw [beq_eq_false_iff_ne];simp;omega
  obtain ⟨a,rfl,hab,hv0⟩:=hb.at_ (k:=0) (by simp)
  have hv1 : w.cell? a = some (bv v):=by simpa [go_sem] using hv0
  clear hv0;obtain ⟨L,hL⟩ : ∃ L,L = (v :: t).length:=⟨_,rfl⟩;rw [← hL] at hb hl hc hd0 ⊢
  have hLt : t.length + 1 = L:=by rw [hL];simp
  have hd1 : 0 < L:=by omega
  clear hL
  by_cases hv : v ≠ 1
  · have hq : ((v.toNat : Int) != 1) = true:=by
      rw [bne_iff_ne];intro e;exact hv (UInt8.toNat_inj.1 (by show v.toNat = 1;omega))
    go_enter Tryz.func97,Tryz.ntmps97
    go_wp2_with fail;go_ret3;exact RGetF.bad (dec_form hv) rfl (Below.refl _ _)
  have hv:=Decidable.not_not.1 hv
  have hq : ((v.toNat : Int) != 1) = false:=by rw [hv];rfl
  have HV:=Lib.hid hv;clear hv
  go_enter Tryz.func97,Tryz.ntmps97
  go_wp2_with fail;refine (rint_any _ _ _ _ 1 (v :: t) B _ (Blk.new _ _ _) (hb.alloc hB _) (by omega) (by omega)).mono ?_;rintro e w2 ⟨hg2,hm2⟩;have hb2 : Below w.heap.size w w2:=((Below.refl _ _).alloc (Nat.le_refl _) _).trans (only_Below hg2 (Nat.le_refl _) (by simp));rw [show (v :: t).drop 1 = t from rfl] at hm2;clear hg2
  rcases hdt : Vint.dec t with x | ⟨k,r⟩
  · rw [hdt] at hm2
    simp only at hm2
    obtain ⟨rfl,hR2⟩:=hm2
    have hx : x ≠ 0:=by have:=Vint.dec_err hdt;omega
    have hq0 : ((x : Int) != 0) = true:=by rw [bne_iff_ne];omega
    have c2 : w2.cell? ⟨w.heap.size,2,none⟩ = some (.int .i64 (x : Nat)):=hR2.cell 2;have HD:=Lib.hid hdt;clear hdt;go_wp2_with fail
    go_quiet (fail)
    go_wp2_with fail;go_ret3;refine RGetF.bad (y:=x) ?_ rfl (below_drewN hb2 _);rw [HV.out];exact dec_int HD.out
  rw [hdt] at hm2
  simp only at hm2
  obtain ⟨rfl,hR2⟩:=hm2;have hkt:=(Vint.dec_ok hdt).2;have hrl:=(Vint.dec_ok_lt hdt).1
  unfold Vint.top at hkt
  obtain ⟨q,hq9⟩ : ∃ q,q = r.length:=⟨_,rfl⟩;rw [← hq9] at hR2 hrl;have HQ:=Lib.hid hq9;have HD:=Lib.hid hdt;clear hdt hq9;obtain ⟨H,hH⟩ : ∃ H,H = L - q:=⟨_,rfl⟩;rw [← hH] at hR2
  have hHq : H + q = L:=by omega
  have HH:=Lib.hid hHq
  have hHL : H≤L:=by omega
  have c1 : w2.cell? ⟨w.heap.size,1,none⟩ = some (.int .i64 (H : Nat)):=hR2.cell 1;have c2 : w2.cell? ⟨w.heap.size,2,none⟩ = some (.int .i64 0):=hR2.cell 2;clear hH hHq
  by_cases hk : 4096 < k
  · have hdk : decide ((4096 : Int) < (k : Int)) = true:=decide_eq_true (by omega)
    go_wp2_with fail;go_ret3;refine RGetF.bad (y:=6) ?_ rfl hb2;rw [HV.out];exact dec_size HD.out hk
  have hdk : decide ((4096 : Int) < (k : Int)) = false:=decide_eq_false (by omega);obtain ⟨E,hE⟩ : ∃ E,H + k = E:=⟨_,rfl⟩
  have eE : IntKind.i64.wrap ((H : Int) + (k : Int)) = (E : Int):=by rw [IntWalk.i64_in _ (by omega)];omega
  have HE:=Lib.hid hE
  have hEb : E≤1000000005000:=by omega
  clear hE
  by_cases hs : L < E + 4
  · have hdk : decide ((L : Int) < (E : Int) + 4) = true:=decide_eq_true (by omega)
    go_wp2_with fail;go_ret3;refine RGetF.bad (y:=3) ?_ rfl hb2;rw [HV.out];exact dec_short HD.out (by omega) (by rw [← HQ.out];have:=HE.out;have:=HH.out;omega)
  have hdk : decide ((L : Int) < (E : Int) + 4) = false:=decide_eq_false (by omega)
  have hEL : E + 4≤L:=by omega
  have hcE : E≤c:=by omega
  have hbw : RdB w2 B (some a) L (v :: t):=hb.below (hb2.mono hB);have rdP : RdB w2 B (some a) E ((v :: t).take E):=hbw.take (by omega);go_wp2_with fail;refine (Crc.rsum_any _ _ _ _ _ _ rdP (by unfold maxLen;omega)).mono ?_;rintro e w3 ⟨rfl,rfl⟩;have hsl:=Crc.sum_lt ((v :: t).take E);obtain ⟨S,hS⟩ : ∃ S,S = Crc.sum ((v :: t).take E):=⟨_,rfl⟩;rw [← hS] at hsl ⊢;have HS:=Lib.hid hS;clear hS
  have hcell : ∀ i,i < 4→∃ z,(v :: t)[E + i]? = some z∧w2.cell? (a.add (E + i)) = some (bv z):=by
    intro i hi;obtain ⟨a',e,_,hc⟩:=hbw.at_ (k:=E + i) (by have:=hbw.1;omega)
    injection e with e
    subst e;exact ⟨_,List.getElem?_eq_getElem (by have:=hbw.1;omega),hc⟩
  obtain ⟨z0,p0,q0⟩:=hcell 0 (by omega);obtain ⟨z1,p1,q1⟩:=hcell 1 (by omega);obtain ⟨z2,p2,q2⟩:=hcell 2 (by omega);obtain ⟨z3,p3,q3⟩:=hcell 3 (by omega);rw [Nat.add_zero] at p0 q0;rw [addNZ a _ (by omega)] at q1 q2 q3;have HP0:=Lib.hid p0;have HP1:=Lib.hid p1;have HP2:=Lib.hid p2;have HP3:=Lib.hid p3;clear p0 p1 p2 p3 hcell
  have hdrop : ((v :: t).drop E).take 4 = (r.drop k).take 4:=by
    have e1:=(Vint.dec_ok HD.out).1;have l1:=congrArg List.length e1;rw [List.length_append,← HQ.out] at l1;rw [← HE.out,← List.drop_drop]
    congr 2
    have e2 : v :: t = (v :: Vint.enc k) ++ r:=by rw [e1];rfl
    have:=HH.out
    rw [e2,show H = (v :: Vint.enc k).length by rw [List.length_cons];omega,List.drop_left]
  have hsum : (v :: t).length - r.length + k = E:=by
    rw [← HQ.out,List.length_cons,hLt]
    have:=HH.out
    have:=HE.out
    omega
  have hbad : ¬ [z0,z1,z2,z3] = be S→dec (v :: t) = .error 5:=by
    intro h;rw [HV.out];refine dec_sum HD.out (by omega) (by rw [← HQ.out];have:=HH.out;have:=HE.out;omega) ?_;rw [← hdrop,four HP0.out HP1.out HP2.out HP3.out,← HV.out,hsum,← HS.out];exact h
  have hgood : [z0,z1,z2,z3] = be S→dec (v :: t) = .ok (r.take k,r.drop (k + 4)):=by
    intro h;rw [HV.out];refine dec_good HD.out (by omega) (by rw [← HQ.out];have:=HH.out;have:=HE.out;omega) ?_;rw [← hdrop,four HP0.out HP1.out HP2.out HP3.out,← HV.out,hsum,← HS.out];exact h
  rw [be_four hsl] at hbad hgood;have HB:=Lib.hid hbad;have HG:=Lib.hid hgood;clear hdrop hsum hbad hgood
  go_upto_region 15 with fail
  by_cases e0 : (z0.toNat : Int) = (S : Int) / 16777216
  case neg =>
    have t0 : ((z0.toNat : Int) != (S : Int) / 16777216) = true:=by rw [bne_iff_ne];exact e0
    have HZ:=Lib.hid e0;clear e0;go_wp2_with fail;go_ret3;exact RGetF.bad (HB.out fun h=>HZ.out h.1) rfl hb2
  have t0 : ((z0.toNat : Int) != (S : Int) / 16777216) = false:=by rw [bne_eq_false_iff_eq];exact e0
  have H0:=Lib.hid e0;clear e0
  by_cases e1 : (z1.toNat : Int) = (S : Int) / 65536 % 256
  case neg =>
    have t1 : ((z1.toNat : Int) != (S : Int) / 65536 % 256) = true:=by rw [bne_iff_ne];exact e1
    have HZ:=Lib.hid e1;clear e1;go_wp2_with fail;go_ret3;exact RGetF.bad (HB.out fun h=>HZ.out h.2.1) rfl hb2
  have t1 : ((z1.toNat : Int) != (S : Int) / 65536 % 256) = false:=by rw [bne_eq_false_iff_eq];exact e1
  have H1:=Lib.hid e1;clear e1
  by_cases e2 : (z2.toNat : Int) = (S : Int) / 256 % 256
  case neg =>
    have t2 : ((z2.toNat : Int) != (S : Int) / 256 % 256) = true:=by rw [bne_iff_ne];exact e2
    have HZ:=Lib.hid e2;clear e2;go_wp2_with fail;go_ret3;exact RGetF.bad (HB.out fun h=>HZ.out h.2.2.1) rfl hb2
  have t2 : ((z2.toNat : Int) != (S : Int) / 256 % 256) = false:=by rw [bne_eq_false_iff_eq];exact e2
  have H2:=Lib.hid e2;clear e2
  by_cases e3 : (z3.toNat : Int) = (S : Int) % 256
  case neg =>
    have t3 : ((z3.toNat : Int) != (S : Int) % 256) = true:=by rw [bne_iff_ne];exact e3
    have HZ:=Lib.hid e3;clear e3;go_wp2_with fail;go_ret3;exact RGetF.bad (HB.out fun h=>HZ.out h.2.2.2) rfl hb2
  have t3 : ((z3.toNat : Int) != (S : Int) % 256) = false:=by rw [bne_eq_false_iff_eq];exact e3
  have hdec:=HG.out ⟨H0.out,H1.out,H2.out,e3⟩;have HDE:=Lib.hid hdec;clear e3 hdec;go_wp2_with fail;obtain ⟨E4,hE4⟩ : ∃ E4,E4 = E + 4:=⟨_,rfl⟩;obtain ⟨m,hm⟩ : ∃ m,m = L - E4:=⟨_,rfl⟩;obtain ⟨A2,hA2⟩ : ∃ A2,A2 = (if c = E4 then some a else some (a.add E4)):=⟨_,rfl⟩;have hA3:=hA2.symm
  have rdX : ∀ w',Below w2.heap.size w2 w'→RdB w' B (some (a.add H)) k (r.take k):=fun w' hb'=>by
    have e1:=(Vint.dec_ok HD.out).1;have l1:=congrArg List.length e1;rw [List.length_append,← HQ.out] at l1
    have e2 : (v :: t).drop H = r:=by
      have e2 : v :: t = (v :: Vint.enc k) ++ r:=by rw [e1];rfl
      have:=HH.out
      rw [e2,show H = (v :: Vint.enc k).length by rw [List.length_cons];omega,List.drop_left]
    have:=((hbw.below (hb'.mono (Nat.le_trans hB hb2.size))).drop H).take (k:=k) (by have:=HH.out;have:=HE.out;omega)
    rw [e2] at this;exact this
  have rdY : ∀ w',Below w2.heap.size w2 w'→RdB w' B A2 m (r.drop (k + 4)):=fun w' hb'=>by
    have e1:=(Vint.dec_ok HD.out).1;have l1:=congrArg List.length e1;rw [List.length_append,← HQ.out] at l1
    have e2 : (v :: t).drop E4 = r.drop (k + 4):=by
      have e2 : v :: t = (v :: Vint.enc k) ++ r:=by rw [e1];rfl
      have:=HH.out
      have:=HE.out
      rw [e2,show E4 = (v :: Vint.enc k).length + (k + 4) by rw [List.length_cons];omega,← List.drop_drop,List.drop_left]
    have:=(hbw.below (hb'.mono (Nat.le_trans hB hb2.size))).drop E4
    rw [e2,← hm] at this;rw [hA2]
    split
    · have h0 : m = 0:=by omega
      rw [h0] at this ⊢;have : r.drop (k + 4) = []:=List.eq_nil_of_length_eq_zero this.1.symm;rw [this];exact RdB.nil _ _ _
    · exact this
  have RX:=Lib.hid rdX;have RY:=Lib.hid rdY
  have eE5 : (E : Int) + 4 = (E4 : Int):=by omega
  have ew5 : IntKind.i64.wrap (E4 : Int) = (E4 : Int):=IntWalk.i64_in _ (by omega)
  have le1 : E4≤c:=by omega
  have le2 : E4≤L:=by omega
  have le3 : L - E4 = m:=hm.symm
  have le4 : H≤E:=by have:=HE.out;omega
  have le5 : E≤c:=by omega
  have le6 : E - H = k:=by have:=HE.out;omega
  have le7 : ¬ c = H:=by have:=HE.out;omega
  have hml : m≤1000000000000:=by omega
  have hB2 : w.heap.size < w2.heap.size:=by have:=hR2.lt;exact this
  clear rdX rdY hm hA2 hE4
  go_region_held3 (fun w'=>w'.cell? ⟨w.heap.size,1,none⟩ = some (.int .i64 (H : Nat)))
    (first
      | go_keep
      | (rw [below5.cell (p:=⟨w.heap.size,1,none⟩) hB2];go_keep)
      | (rw [below6.cell (p:=⟨w.heap.size,1,none⟩) hB2];go_keep)
      | (rw [below5.cell (p:=⟨w.heap.size,1,none⟩) hB2];assumption)
      | (rw [below6.cell (p:=⟨w.heap.size,1,none⟩) hB2];assumption))
    (first
      | ((refine step_appB rfl (.tmp 87) (.tmp 94) rfl (by rfl) (own_emp (base:=w2.heap.size) (by first | exact Blk.new _ _ _ | exact (Blk.new _ _ _).drew | exact ((Blk.new _ _ _).alloc _).drew | exact (blk_at (by simp)).drew | exact blk_at (by simp) | exact (((Blk.new _ _ _).alloc _).drew).grown grown6 (by simp) | exact ((blk_at (by simp)).drew).grown grown6 (by simp) | exact ((Blk.new _ _ _).drew).grown grown6 (by simp)) (by first | exact Nat.le_refl _ | (simp;done) | (simp;omega) | (have:=below6.size;simp at this ⊢;omega))) (by rfl) (RX.out _ (by first | exact (bnext (Below.refl _ _) _).drew | exact (bnext (bnext (Below.refl _ _) _) _).drew | exact bnext (((bnext (Below.refl _ _) _).drew).trans below6) _ | exact ((bnext (bnext (Below.refl _ _) _) _).drew).trans below6)) (by omega) (by first | exact Nat.le_refl _ | (simp;done) | (simp;omega) | (have:=below6.size;simp at this ⊢;omega)) ?_;intro A5 c5 w5 own5 grown5 moved5 below5;rw [Nat.zero_add,List.nil_append] at own5))
      | ((refine step_appB rfl (.tmp 96) (.tmp 100) rfl (by rfl) (own_emp (base:=w2.heap.size) (by first | exact Blk.new _ _ _ | exact (Blk.new _ _ _).drew | exact ((Blk.new _ _ _).alloc _).drew | exact (blk_at (by simp)).drew | exact blk_at (by simp) | exact (((Blk.new _ _ _).alloc _).drew).grown grown5 (by simp) | exact ((blk_at (by simp)).drew).grown grown5 (by simp) | exact ((Blk.new _ _ _).drew).grown grown5 (by simp)) (by first | exact Nat.le_refl _ | (simp;done) | (simp;omega) | (have:=below5.size;simp at this ⊢;omega))) (by rfl) (RY.out _ (by first | exact (bnext (Below.refl _ _) _).drew | exact (bnext (bnext (Below.refl _ _) _) _).drew | exact bnext (((bnext (Below.refl _ _) _).drew).trans below5) _ | exact ((bnext (bnext (Below.refl _ _) _) _).drew).trans below5)) (by omega) (by first | exact Nat.le_refl _ | (simp;done) | (simp;omega) | (have:=below5.size;simp at this ⊢;omega)) ?_;intro A6 c6 w6 own6 grown6 moved6 below6;rw [Nat.zero_add,List.nil_append] at own6)))
  all_goals
    go_wp2_with fail;go_ret3
    refine RGetF.good HDE.out (Nat.le_of_lt hB2) (base:=w2.heap.size) (by first
      | exact own5
      | exact own5.grown grown6 (apart_moved moved5 (by simp <;> omega) (by simp <;> omega))
      | exact (own5.alloc _).grown grown6 (apart_last own5 (by simp))) (by first
      | exact own6
      | exact own6.grown grown5 (apart_moved moved6 (by simp <;> omega) (by simp <;> omega))
      | exact (own6.alloc _).grown grown5 (apart_last own6 (by simp))) rfl ?_
    refine hb2.trans (Below.mono ?_ (Nat.le_of_lt hB2))
    first
      | exact (bnext (((bnext (Below.refl _ _) _).drew).trans below5) _).trans below6
      | exact (bnext (((bnext (Below.refl _ _) _).drew).trans below6) _).trans below5
      | exact (((bnext (bnext (Below.refl _ _) _) _).drew).trans below5).trans below6
      | exact (((bnext (bnext (Below.refl _ _) _) _).drew).trans below6).trans below5
end Frame
end Go.Proofs.YtfpenfgmpbdakaaGreat

namespace Go.Proofs.YtfpenfgmpbdakaaGreat
set_option linter.unusedVariables false
set_option linter.unusedSimpArgs false
set_option maxRecDepth 100000
open Go.RowKit
namespace Frame
set_option maxRecDepth 100000 in
set_option maxHeartbeats 400000 in
theorem rall_any (A : Option Addr) (n c : Nat) (bs : List UInt8) (B : Nat) (w : World) (hb : RdB w B A n bs) (hB : B≤w.heap.size) (hl : n≤1000000000000) (hc : n≤c) (hm : c≤maxLen) :
    Calls Tryz.prog 72 #[.slice A n c] w (AllF w bs):=by
  obtain rfl:=hb.1
  go_enter Tryz.func72,Tryz.ntmps72
  go_wp2_with fail
  go_loopw [4,5] (fun v q wr=>∃ (l : List (List UInt8)) (r : List UInt8) (A' : Option Addr) (c' : Nat) (D : Option Addr) (d : Nat),bs = frms l ++ r∧(∀ x ∈ l,x.length≤4096)∧v = .slice A' l.length c'∧q = .slice D r.length d∧Bods wr w.heap.size A' l.length c' l∧RdB wr wr.heap.size D r.length r∧r.length≤d∧d≤maxLen∧Below w.heap.size w wr) (fun _ q _=>match q with | .slice _ k _=>k | _=>0)
  case atStart=>exact ⟨[],bs,none,0,A,c,rfl,by simp,rfl,rfl,Bods.nil _ _,hb.size,hc,hm,Below.refl _ _⟩
  case round =>
    obtain ⟨l,r,A',c',D,d,hbs,hxl,rfl,rfl,hbo,hrd,hrc,hdm,hbel⟩:=hrel
    have hlen : (frms l).length + r.length = bs.length:=by rw [hbs,List.length_append]
    obtain ⟨m,hmm⟩ : ∃ m,m = (frms l).length:=⟨_,rfl⟩;rw [← hmm] at hlen;have HM:=Lib.hid hmm;have HBS:=Lib.hid hbs
    have hlw : l.length≤bs.length:=by
      have : l.length≤(frms l).length:=by
        clear hlen hxl hbo HM HBS hbs hmm
        induction l with
        | nil=>simp
        | cons x l ih=>rw [frms_cons,List.length_append,List.length_cons];have:=frm_pos x;omega
      omega
    clear hmm hbs;obtain ⟨R,hR⟩ : ∃ R,R = r.length:=⟨_,rfl⟩;rw [← hR] at hlen hrd hrc ⊢;have HR:=Lib.hid hR;clear hR
    rcases hd : dec r with y | ⟨x,z⟩
    · have hy:=dec_err hd
      have hy0 : ((y : Int) != 0) = true:=by rw [bne_iff_ne];omega
      have HD:=Lib.hid hd;clear hd hy
      have hw : IntKind.i64.wrap ((bs.length : Int) - (R : Int)) = (m : Int):=by rw [IntWalk.i64_in _ (by omega)];omega
      go_wp2_with fail;refine (rget_any _ _ _ r _ _ hrd (Nat.le_refl _) (by omega) hrc hdm).mono ?_;rintro e w1 ⟨hb1,he⟩;rw [HD.out] at he
      simp only at he
      subst he;have hbo1:=hbo.below hb1 (Nat.le_refl _);have hbel1:=hbel.trans (hb1.mono hbel.size);go_wp2_with fail;go_ret2;exact ⟨l,r,A',c',⟨HBS.out,hxl,y,HD.out⟩,by (show Ending.returned (.tuple #[.slice A' l.length c',.int .i64 (m : Nat)]) = _);rw [HM.out],hbo1,hbel1⟩
    · have HD:=Lib.hid hd
      obtain ⟨hfx,hx4⟩:=dec_ok hd
      have hfl : (frm x).length + z.length = r.length:=by rw [hfx,List.length_append]
      have hpos:=frm_pos x;rw [← HR.out] at hfl;have HF:=Lib.hid hfx;clear hd hfx;go_wp2_with fail;refine (rget_any _ _ _ r _ _ hrd (Nat.le_refl _) (by omega) hrc hdm).mono ?_;rintro e w1 ⟨hb1,he⟩;rw [HD.out] at he
      simp only at he
      obtain ⟨A1,c1,A2,c2,rfl,ho1,ho2⟩:=he;have hbo1:=hbo.below hb1 (Nat.le_refl _);have hbel1:=hbel.trans (hb1.mono hbel.size);have hs1:=hbel1.size
      go_wp2_with (at_builtin;refine wpList_appS2 rfl (.tmp 24) (.tmp 26) rfl rfl (hbo1.below ((Below.refl _ _).alloc (Nat.le_refl _) _) (Nat.le_refl _)) (e:=(A1,x.length,c1)) rfl (Rd.made _ _ _ _) ((ho1.alloc _).mono hbel.size) (by omega) ?hz1 ?_)
      case hz1=>simp;omega
      intro A5 c5 w3 hbo5 hb5 hkeep;have ho3:=hkeep _ _ _ _ _ (ho2.alloc _);have hle:=ownsRow_le ho3.2;have hbel5:=(hbel1.alloc hs1 _).trans hb5;go_wp2_with fail
      go_roundw
      case rel =>
        refine ⟨l ++ [x],z,A5,c5,A2,c2,?_,?_,?_,rfl,?_,ho3.rd,hle.1,hle.2,hbel5⟩
        · rw [frms_snoc,List.append_assoc,← HF.out]
          exact HBS.out
        · intro y hy
          rw [List.mem_append,List.mem_singleton] at hy
          rcases hy with hy | rfl
          · exact hxl y hy
          · exact hx4
        · simp
        · simpa using hbo5
      case measure=>simp;omega
end Frame
end Go.Proofs.YtfpenfgmpbdakaaGreat

namespace Go.Proofs.YtfpenfgmpbdakaaGreat
set_option linter.unusedVariables false
set_option linter.unusedSimpArgs false
set_option maxRecDepth 100000
open Go.RowKit
namespace Frame
theorem rput_long (A : Option Addr) (n c : Nat) (w : World) (hl : 4096 < n) :
    Calls Tryz.prog 78 #[.slice A n c] w fun e w'=>e = .returned (.tuple #[.slice none 0 0,.int .i64 6])∧w = w':=by
  have hd : decide ((4096 : Int) < (n : Int)) = true:=decide_eq_true (by omega)
  go_enter Tryz.func78,Tryz.ntmps78
  go_wp2_with fail;go_ret2;exact ⟨rfl,rfl⟩
theorem rput_ok (A : Option Addr) (n c : Nat) (bs : List UInt8) (B : Nat) (w : World) (hb : RdB w B A n bs) (hB : B≤w.heap.size) (hl : n≤4096) :
    Calls Tryz.prog 78 #[.slice A n c] w (GiveBE w (frm bs) 0):=by
  obtain rfl:=hb.1;have hd : decide ((4096 : Int) < (bs.length : Int)) = false:=decide_eq_false (by omega);have hel:=Vint.enc_length bs.length
  go_enter Tryz.func78,Tryz.ntmps78
  go_wp2_with fail;refine (Go.Proofs.YtfpenfgmpbdakaaGreat.rput_ok _ _ _ [1] bs.length _ _ (RdB.made _ [1] _ _ _ ?hx1) (by simp) (by simp) (by omega)).mono ?_
  case hx1=>rfl
  rintro e w1 ⟨A1,n1,c1,rfl,ho1,hb1⟩;have hbl1 : Below w.heap.size w w1:=((Below.refl _ _).alloc (Nat.le_refl _) _).trans (hb1.mono (by simp));have hr1:=(hb.more hB).below hbl1;have ho1':=ho1.mono (base':=w.heap.size) (by simp);have hn1:=ho1.1;rw [List.length_append] at hn1
  simp only [List.length_cons,List.length_nil] at hn1
  have hn7 : n1≤7:=by omega
  clear ho1 hel hn1
  go_wp2_with (at_builtin;refine wpList_appB rfl (.tmp 17) (.tmp 18) rfl rfl ho1' rfl hr1 ?hy0 hbl1.size ?_)
  case hy0=>omega
  intro A2 c2 w2 ho2 _ _ hbl2;have hb2:=hbl1.trans hbl2;have hd2 : OwnB w2 w.heap.size A2 (n1 + bs.length) c2 (head bs):=ho2;clear ho2;go_wp2_with fail;refine (Crc.rsum_any _ _ _ _ _ _ hd2.rd (by unfold maxLen;omega)).mono ?_;rintro e w3 ⟨rfl,rfl⟩;have hs:=Crc.sum_lt (head bs);obtain ⟨s,hs0⟩ : ∃ s,s = Crc.sum (head bs):=⟨_,rfl⟩;rw [← hs0] at hs ⊢;have HS0:=Lib.hid hs0;clear hs0
  go_wp2_with (at_builtin;refine wpList_appB rfl (.tmp 22) (.tmp 34) rfl rfl (hd2.alloc _) rfl (RdB.made _ (be s) _ _ _ ?hz1) ?hz0 ?hz2 ?_)
  case hz1=>simp [be,bv,Vint.toNat_ofNat];omega
  case hz0=>show n1 + bs.length + 4≤_;omega
  case hz2=>have:=hb2.size;simp;omega
  intro A4 c4 w4 ho4 _ _ hbl4;have hb4:=(hb2.alloc hb2.size _).trans hbl4;go_wp2_with fail;go_ret2;refine ⟨_,_,_,rfl,?_,hb4⟩;rw [HS0.out] at ho4;exact ho4
end Frame
end Go.Proofs.YtfpenfgmpbdakaaGreat

namespace Go.Proofs.YtfpenfgmpbdakaaGreat.Disk
set_option linter.unusedVariables false
set_option linter.unusedSimpArgs false
set_option maxRecDepth 100000
inductive U where
  | byte (c : UInt8)
  | swap (b : List UInt8)
def doU (out : List UInt8) : U→List UInt8
  | .byte c=>out ++ [c]
  | .swap b=>b
def afterU (b : List UInt8) (us : List U) : List UInt8:=us.foldl doU b
def exp : List W→List U
  | []=>[]
  | (true,b) :: r=>.swap b :: exp r
  | (false,b) :: r=>b.map .byte ++ exp r
def massU : List U→Nat
  | []=>0
  | .byte _ :: r=>1 + massU r
  | .swap b :: r=>b.length + massU r
theorem massU_append (a b : List U) : massU (a ++ b) = massU a + massU b:=by
  induction a with
  | nil=>simp [massU]
  | cons x r ih=>cases x <;> simp [massU,ih] <;> omega
theorem massU_bytes (b : List UInt8) : massU (b.map .byte) = b.length:=by
  induction b with
  | nil=>rfl
  | cons c r ih=>simp [massU,ih];omega
theorem exp_append (a b : List W) : exp (a ++ b) = exp a ++ exp b:=by
  induction a with
  | nil=>rfl
  | cons x r ih =>
    obtain ⟨s,y⟩:=x
    cases s <;> simp [exp,ih]
theorem exp_length (ws : List W) : (exp ws).length = pend ws:=by
  induction ws with
  | nil=>rfl
  | cons x r ih =>
    obtain ⟨s,y⟩:=x
    cases s <;> simp [exp,pend,units,ih] <;> omega
theorem exp_mass (ws : List W) : massU (exp ws) = mass ws:=by
  induction ws with
  | nil=>rfl
  | cons x r ih =>
    obtain ⟨s,y⟩:=x
    cases s
    · simp only [exp,mass,massU_append,massU_bytes,ih]
    · simp only [exp,mass,massU,ih]
theorem afterU_append (b : List UInt8) (a c : List U) : afterU b (a ++ c) = afterU (afterU b a) c:=List.foldl_append ..
theorem afterU_bytes (b x : List UInt8) : afterU b (x.map .byte) = b ++ x:=by
  induction x generalizing b with
  | nil=>simp [afterU]
  | cons c r ih =>
    have:=ih (b ++ [c])
    simp only [afterU,List.map_cons,List.foldl_cons,doU] at this ⊢
    rw [this];simp
theorem after_exp (b : List UInt8) (ws : List W) (n : Nat) : afterU b ((exp ws).take n) = afterL b ws n:=by
  induction ws generalizing b n with
  | nil=>simp [exp,afterU,afterL]
  | cons x r ih =>
    obtain ⟨s,y⟩:=x
    cases s
    · simp only [exp,afterL,units,doW]
      rw [List.take_append,afterU_append,← List.map_take,afterU_bytes,ih]
      simp
      have e1 : n - min n y.length = n - y.length:=by omega
      rw [e1,← List.take_take,List.take_length]
      by_cases h : 0 < min n y.length
      · rw [if_pos h]
      · rw [if_neg h]
        have : y.take n = []:=by
          rw [List.take_eq_nil_iff]
          by_cases h2 : n = 0
          · exact .inl h2
          · exact .inr (List.length_eq_zero_iff.1 (by omega))
        rw [this,List.append_nil]
    · simp only [exp,afterL,units,doW]
      cases n with
      | zero=>simp [afterU,after_zero]
      | succ n =>
        have e1 : min (n + 1) 1 = 1:=by omega
        simp only [if_true,e1]
        simp
        exact ih y n
theorem afterU_len (b : List UInt8) (us : List U) : (afterU b us).length≤b.length + massU us:=by
  induction us generalizing b with
  | nil=>simp [afterU,massU]
  | cons x r ih =>
    have:=ih (doU b x)
    cases x with
    | byte c=>simp [afterU,massU,doU] at *;omega
    | swap y=>simp [afterU,massU,doU] at *;omega
theorem massU_take (us : List U) (k : Nat) : massU (us.take k)≤massU us:=by
  conv=>rhs;rw [← List.take_append_drop k us,massU_append]
  omega
end Go.Proofs.YtfpenfgmpbdakaaGreat.Disk

namespace Go.Proofs.YtfpenfgmpbdakaaGreat
set_option linter.unusedVariables false
set_option linter.unusedSimpArgs false
set_option maxRecDepth 100000
open Go.RowKit
open Disk
def ucell : U × (Option Addr × Nat)→List Value
  | (.byte c,_)=>[.int .u8 (c.toNat : Int),.bool false,.slice none 0 0]
  | (.swap b,(A,c))=>[.int .u8 0,.bool true,.slice A b.length c]
def ucells (es : List (U × (Option Addr × Nat))) : List Value:=es.flatMap ucell
theorem ucell_len (e : U × (Option Addr × Nat)) : (ucell e).length = 3:=by
  obtain ⟨x,A,c⟩:=e
  cases x <;> rfl
theorem ucells_append (a b : List (U × (Option Addr × Nat))) : ucells (a ++ b) = ucells a ++ ucells b:=by simp [ucells]
theorem ucells_at (es : List (U × (Option Addr × Nat))) (i : Nat) (e : U × (Option Addr × Nat)) (h : es[i]? = some e) (j : Nat) (hj : j < 3) : (ucells es)[i * 3 + j]? = (ucell e)[j]?:=by
  induction es generalizing i with
  | nil=>simp at h
  | cons e0 r ih =>
    have hl:=ucell_len e0
    cases i with
    | zero =>
      simp at h;subst h
      simp only [ucells,List.flatMap_cons]
      rw [List.getElem?_append_left (by omega)]
      simp
    | succ i =>
      have:=ih i (by simpa using h)
      simp only [ucells,List.flatMap_cons] at this ⊢
      rw [List.getElem?_append_right (by omega),hl,show (i + 1) * 3 + j - 3 = i * 3 + j by omega];exact this
def UAt (w : World) (F : Nat→Prop) : U × (Option Addr × Nat)→Prop
  | (.byte _,_)=>True
  | (.swap b,(A,c))=>FB w F A b.length c b
structure RefE (w : World) (F : Nat→Prop) (g size : Nat) (lasts : List UInt8) (es : List (U × (Option Addr × Nat))) (AL : Option Addr) (cL : Nat) (AW : Option Addr) (cW : Nat) : Prop where
  mine : F g
  blk : Blk w g 78 #[.int .i64 (size : Nat),.slice AL lasts.length cL,.slice AW es.length cW]
  lasts : FB w F AL lasts.length cL lasts
  row : w.ownsRow 0 83 3 (.slice AW es.length cW) es.length (ucells es)
  rowF : ∀ k,AW.map (·.block) = some k→F k
  ents : ∀ e ∈ es,UAt w F e
  lt : ∀ k,F k→k < w.heap.size
def RefAt (w : World) (F : Nat→Prop) (g size : Nat) (lasts : List UInt8) (us : List U) : Prop:=∃ es AL cL AW cW,es.map (·.1) = us∧RefE w F g size lasts es AL cL AW cW
section
variable {w w' : World} {F F' : Nat→Prop} {g size n c cL cW : Nat} {A AL AW : Option Addr} {lasts bs : List UInt8} {es : List (U × (Option Addr × Nat))} {us : List U}
theorem UAt.keep {e : U × (Option Addr × Nat)} (h : UAt w F e) (hk : Keeps F w w') : UAt w' F e:=by
  obtain ⟨x,A,c⟩:=e
  cases x with
  | byte c=>trivial
  | swap b=>exact FB.keep h hk
theorem UAt.mono {e : U × (Option Addr × Nat)} (h : UAt w F e) (hF : ∀ k,F k→F' k) : UAt w F' e:=by
  obtain ⟨x,A,c⟩:=e
  cases x with
  | byte c=>trivial
  | swap b=>exact FB.mono h hF
theorem RefE.keep (h : RefE w F g size lasts es AL cL AW cW) (hk : Keeps F w w') : RefE w' F g size lasts es AL cL AW cW :=
  ⟨h.mine,(hk.block _ h.mine).trans h.blk,h.lasts.keep hk,ownsRow_keep h.row fun k hA=>hk.block k (h.rowF k hA),h.rowF,fun e he=>(h.ents e he).keep hk,fun k hF=>Nat.lt_of_lt_of_le (h.lt k hF) hk.size⟩
theorem RefAt.keep (h : RefAt w F g size lasts us) (hk : Keeps F w w') : RefAt w' F g size lasts us:=by
  obtain ⟨es,AL,cL,AW,cW,h1,h2⟩:=h;exact ⟨es,AL,cL,AW,cW,h1,h2.keep hk⟩
theorem RefAt.lt (h : RefAt w F g size lasts us) : ∀ k,F k→k < w.heap.size:=by
  obtain ⟨es,AL,cL,AW,cW,h1,h2⟩:=h;exact h2.lt
theorem RefAt.below (h : RefAt w F g size lasts us) (hb : Below w.heap.size w w') : RefAt w' F g size lasts us:=h.keep (Keeps.of_below hb h.lt)
theorem RefE.cell (h : RefE w F g size lasts es AL cL AW cW) {i : Nat} {e : U × (Option Addr × Nat)} (hi : es[i]? = some e) :
    ∃ q,AW = some ⟨q,0,none⟩∧q < w.heap.size∧w.cell? ⟨q,i * 3,none⟩ = (ucell e)[0]?∧w.cell? ⟨q,i * 3 + 1,none⟩ = (ucell e)[1]?∧w.cell? ⟨q,i * 3 + 2,none⟩ = (ucell e)[2]?:=by
  have hlt : i < es.length:=by
    false_or_by_contra
    rw [List.getElem?_eq_none (by omega)] at hi;cases hi
  rcases h.row.2 with ⟨hv,h0⟩ | ⟨q,cap,cur,hv,hb,hh,_⟩
  · omega
  · injection hv with hA
    subst hA;refine ⟨q,rfl,lt_of_block hh,?_,?_,?_⟩
    · have hl:=ucell_len e
      have c:=ucells_at es i e hi 0 (by omega);rw [List.getElem?_eq_getElem (by omega : 0 < (ucell e).length)] at c ⊢;have r:=h.row.cells (g:=q) rfl _ _ c;rw [add_mk,Nat.zero_add] at r;exact r
    · have hl:=ucell_len e
      have c:=ucells_at es i e hi 1 (by omega);rw [List.getElem?_eq_getElem (by omega : 1 < (ucell e).length)] at c ⊢;have r:=h.row.cells (g:=q) rfl _ _ c;rw [add_mk,Nat.zero_add] at r;exact r
    · have hl:=ucell_len e
      have c:=ucells_at es i e hi 2 (by omega);rw [List.getElem?_eq_getElem (by omega : 2 < (ucell e).length)] at c ⊢;have r:=h.row.cells (g:=q) rfl _ _ c;rw [add_mk,Nat.zero_add] at r;exact r
end
theorem RdB.made_at (w : World) (bs : List UInt8) (cs : Array Value) (t : TypeId) (H n : Nat) (h : cs.toList = bs.map bv) (hH : w.heap.size = H) (hn : n = bs.length) : RdB (w.alloc (.cells cs t)) (H + 1) (some ⟨H,0,none⟩) n bs:=by
  subst hH hn;exact RdB.made w bs cs t (0,0) h
theorem OwnB.made_at (w : World) (base : Nat) (cs : Array Value) (H : Nat) (h : cs = #[]) (hH : w.heap.size = H) (hb : base≤w.heap.size) : OwnB (w.alloc (.cells cs 5)) base (some ⟨H,0,none⟩) 0 0 []:=by
  subst hH h;exact OwnB.made w base [] #[] 0 rfl rfl hb (by decide)
def RefNew (w : World) (size : Nat) (e : Ending) (w' : World) : Prop:=∃ g F,e = .returned (.tuple #[.pointer (some ⟨g,0,none⟩),.int .i64 0])∧RefAt w' F g size [] []∧(∀ k,F k→w.heap.size≤k)∧Below w.heap.size w w'
theorem rnew_any (size : Nat) (w : World) (h1 : 1≤size) (h2 : size≤16384) :
    Calls Tryz.prog 9 #[.int .i64 size] w (RefNew w size):=by
  have d1 : decide ((size : Int) < 1) = false:=decide_eq_false (by omega);have d2 : decide ((16384 : Int) < (size : Int)) = false:=decide_eq_false (by omega)
  go_enter Tryz.func9,Tryz.ntmps9
  go_wp2_with fail;go_ret2;refine ⟨w.heap.size,fun k=>k = w.heap.size,rfl,⟨[],none,0,none,0,rfl,⟨rfl,Blk.new w _ _,⟨OwnB.nil _ _,(fun k hk=>by cases hk)⟩,World.ownsRow_nil _ _ _ _,(fun k hk=>by cases hk),fun e he=>absurd he (by simp),fun k hk=>by subst hk;simp⟩⟩,fun k hk=>by omega,(Below.refl _ _).alloc (Nat.le_refl _) _⟩
theorem rnew_bad (size : Int) (w : World) (h : size < 1∨16384 < size) :
    Calls Tryz.prog 9 #[.int .i64 size] w fun e w'=>e = .returned (.tuple #[.pointer none,.int .i64 2])∧w = w':=by
  rcases h with h | h
  · have d1 : decide (size < 1) = true:=decide_eq_true (by omega)
    go_enter Tryz.func9,Tryz.ntmps9
    go_wp2_with fail;go_ret2;exact ⟨rfl,rfl⟩
  · have d1 : decide (size < 1) = false:=decide_eq_false (by omega)
    have d2 : decide ((16384 : Int) < size) = true:=decide_eq_true (by omega)
    go_enter Tryz.func9,Tryz.ntmps9
    go_wp2_with fail;go_ret2;exact ⟨rfl,rfl⟩
set_option maxRecDepth 100000 in
set_option maxHeartbeats 1000000 in
theorem rafter_any (n : Nat) (F : Nat→Prop) (g size : Nat) (lasts : List UInt8) (us : List U) (w : World) (hD : RefAt w F g size lasts us) (hn : n≤us.length) (hm : lasts.length + massU us≤1099511627776) :
    Calls Tryz.prog 61 #[.pointer (some ⟨g,0,none⟩),.int .i64 n] w (GiveB w (afterU lasts (us.take n))):=by
  obtain ⟨es,AL,cL,AW,cW,rfl,hE⟩:=hD;have c1:=hE.blk.cell 1;have c2:=hE.blk.cell 2;have hlt:=hE.blk.lt;have hcw:=ownsRow_le hE.row;rw [List.length_map] at hn
  have hncw : n≤cW:=by omega
  unfold maxLen at hcw
  go_enter Tryz.func61,Tryz.ntmps61
  go_wp2_with (at_builtin;refine wpList_appB rfl (.tmp 8) (.tmp 12) rfl (by rfl) (OwnB.made w w.heap.size [] #[] 0 rfl rfl (Nat.le_refl _) (by decide)) (by rfl) (hE.lasts.1.rd.alloc (Nat.le_refl _) _) (by omega) (by simp) ?_)
  intro A1 c1' w1 ho1 _ _ h1;have hE1:=hE.keep (Keeps.of_below (((Below.refl w.heap.size w).alloc (Nat.le_refl _) _).trans h1) hE.lt);have c2':=hE1.blk.cell 2;have h1':=((Below.refl w.heap.size w).alloc (Nat.le_refl _) (.cells #[] 5)).trans h1;clear h1;go_wp2_with fail
  go_loopw [5,21] (fun b i wr=>∃ (k : Nat) (A : Option Addr) (nb cb : Nat),k≤n∧i = .int .i64 k∧b = .slice A nb cb∧OwnB wr w.heap.size A nb cb (afterU lasts ((es.map (·.1)).take k))∧Below w.heap.size w wr) (fun _ i _=>n - (intOf i).toNat)
  case atStart=>exact ⟨0,A1,_,c1',by omega,rfl,rfl,ho1,h1'⟩
  case round =>
    obtain ⟨k,A,nb,cb,hk,rfl,rfl,hO,hbel⟩:=hrel
    by_cases hlt2 : k < n
    · have hEr:=hE.keep (Keeps.of_below hbel hE.lt)
      obtain ⟨x,hx⟩ : ∃ x,es[k] = x:=⟨_,rfl⟩
      have hxe : es[k]? = some x:=by rw [List.getElem?_eq_getElem (by omega),hx]
      obtain ⟨a,rfl,hab,q0,q1,q2⟩:=hEr.cell hxe;have hu:=hEr.ents _ (List.mem_of_getElem? hxe)
      have hwx : (es.map (·.1))[k]? = some x.1:=by rw [List.getElem?_map,hxe];rfl
      have htk : afterU lasts ((es.map (·.1)).take (k + 1)) = doU (afterU lasts ((es.map (·.1)).take k)) x.1:=by
        rw [take_snoc _ (by simp;omega),afterU_append];rw [List.getElem?_eq_getElem (by simp;omega)] at hwx
        injection hwx with hwx
        rw [hwx];rfl
      have hml:=afterU_len lasts ((es.map (·.1)).take k);have hml2:=massU_take (es.map (·.1)) k;have hml3:=massU_take (es.map (·.1)) (k + 1)
      have hml4 : massU ((es.map (·.1)).take (k + 1)) = massU ((es.map (·.1)).take k) + massU [x.1]:=by
        rw [take_snoc _ (by simp;omega),massU_append];rw [List.getElem?_eq_getElem (by simp;omega)] at hwx
        injection hwx with hwx
        rw [hwx]
      have HT:=Lib.hid htk
      have hnb : nb≤1099511627776:=by rw [hO.1];omega
      clear htk hwx;obtain ⟨x,Ax,cx⟩:=x
      cases x with
      | byte c =>
        simp only [ucell] at q0 q1 q2
        have hm1 : massU [U.byte c] = 1:=rfl
        have hs0 : (wr.alloc (.cells #[.int .u8 (c.toNat : Int),.bool false,.slice none 0 0] 83)).heap.size = wr.heap.size + 1:=by simp
        have hrd:=RdB.made_at (wr.alloc (.cells #[.int .u8 (c.toNat : Int),.bool false,.slice none 0 0] 83)) [c] #[.int .u8 (c.toNat : Int)] 5 _ 1 rfl hs0 rfl;have hO2:=(hO.alloc (.cells #[.int .u8 (c.toNat : Int),.bool false,.slice none 0 0] 83)).alloc (.cells #[.int .u8 (c.toNat : Int)] 5);have hbel2:=(hbel.alloc hbel.size (.cells #[.int .u8 (c.toNat : Int),.bool false,.slice none 0 0] 83)).alloc (by have:=hbel.size;simp;omega) (.cells #[.int .u8 (c.toNat : Int)] 5)
        go_wp2_with (at_builtin;refine wpList_appB rfl (.tmp 31) (.tmp 34) rfl (by rfl) hO2 (by rfl) hrd (by omega) hbel2.size ?_)
        intro A3 c3 w3 ho3 _ _ h3;go_wp2_with fail
        go_roundw
        case rel=>exact ⟨k + 1,A3,_,c3,by omega,by go_num,rfl,by rw [HT.out];exact ho3,hbel2.trans h3⟩
        case measure=>simp [intOf];omega
      | swap b =>
        simp only [ucell] at q0 q1 q2
        have hm1 : massU [U.swap b] = b.length:=by simp [massU]
        have hs0 : (wr.alloc (.cells #[.int .u8 0,.bool true,.slice Ax b.length cx] 83)).heap.size = wr.heap.size + 1:=by simp
        have hown:=OwnB.made_at (wr.alloc (.cells #[.int .u8 0,.bool true,.slice Ax b.length cx] 83)) w.heap.size #[] _ rfl hs0 (by have:=hbel.size;omega);have hrd:=(hu.1.rd.alloc (Nat.le_refl _) (.cells #[.int .u8 0,.bool true,.slice Ax b.length cx] 83)).alloc (by simp) (.cells #[] 5);have hbel2:=(hbel.alloc hbel.size (.cells #[.int .u8 0,.bool true,.slice Ax b.length cx] 83)).alloc (by have:=hbel.size;simp;omega) (.cells #[] 5)
        have hbb : 0 + b.length≤140737488355328:=by simp only [massU] at hml4;omega
        go_wp2_with (at_builtin;refine wpList_appB rfl (.tmp 27) (.tmp 29) rfl (by rfl) hown (by rfl) hrd hbb hbel2.size ?_)
        intro A3 c3 w3 ho3 _ _ h3;go_wp2_with fail
        go_roundw
        case rel=>exact ⟨k + 1,A3,_,c3,by omega,by go_num,rfl,by rw [HT.out];exact ho3,hbel2.trans h3⟩
        case measure=>simp [intOf];omega
    · go_wp2_with fail
      go_ret
      obtain rfl : k = n:=by omega
      exact ⟨_,_,_,rfl,hO,hbel⟩
end Go.Proofs.YtfpenfgmpbdakaaGreat

namespace Go.Proofs.YtfpenfgmpbdakaaGreat
set_option linter.unusedVariables false
set_option linter.unusedSimpArgs false
set_option maxRecDepth 100000
open Go.RowKit
open Disk
theorem rread_any (F : Nat→Prop) (g size : Nat) (lasts : List UInt8) (us : List U) (w : World) (hD : RefAt w F g size lasts us) (hm : lasts.length + massU us≤1099511627776) :
    Calls Tryz.prog 28 #[.pointer (some ⟨g,0,none⟩)] w (GiveB w (afterU lasts us)):=by
  have hD0:=hD;obtain ⟨es,AL,cL,AW,cW,he,hE⟩:=hD0;have c2:=hE.blk.cell 2
  have hel : es.length = us.length:=by rw [← he];simp
  have HE:=Lib.hid hel;clear hel he
  go_enter Tryz.func28,Tryz.ntmps28
  go_wp2_with fail;refine (rafter_any es.length F g size lasts us w hD (by rw [HE.out];omega) hm).mono ?_;rw [HE.out,List.take_length];rintro e w1 ⟨A,n,c,rfl,h2,h3⟩;go_wp2_with fail;go_ret;exact ⟨_,_,_,rfl,h2,h3⟩
def RefOp (w : World) (F : Nat→Prop) (g size : Nat) (lasts : List UInt8) (us : List U) (w' : World) : Prop :=
  ∃ F',RefAt w' F' g size lasts us∧Only F w w'∧Grows F F' w
theorem RefOp.of_below {w w1 w' : World} {F : Nat→Prop} {g size : Nat} {lasts : List UInt8} {us : List U} (hb : Below w.heap.size w w1) (h : RefOp w1 F g size lasts us w') : RefOp w F g size lasts us w':=by
  obtain ⟨F',h1,h2,h3⟩:=h;exact ⟨F',h1,(Only.of_below F hb).trans h2 (Grows.refl _ _),fun k hk=>by rcases h3 k hk with h | h;exact .inl h;right;have:=hb.size;omega⟩
theorem RefOp.refl {w w' : World} {F : Nat→Prop} {g size : Nat} {lasts : List UInt8} {us : List U} (h : RefAt w F g size lasts us) (hb : Below w.heap.size w w') : RefOp w F g size lasts us w':=⟨F,h.below hb,Only.of_below F hb,Grows.refl _ _⟩
theorem RefOp.trans {w w1 w2 : World} {F F1 : Nat→Prop} {g size : Nat} {l2 : List UInt8} {us2 : List U} (h1 : Only F w w1) (hg : Grows F F1 w) (h : RefOp w1 F1 g size l2 us2 w2) : RefOp w F g size l2 us2 w2:=by
  obtain ⟨F',k1,k2,k3⟩:=h;exact ⟨F',k1,h1.trans k2 hg,hg.trans k3 h1.size⟩
theorem infoU : (Tryz.prog.info? 83).map (fun i=>(i.zero,i.size,i.bytes)) = some (some (.agg #[.int .u8 0,.bool false,.slice none 0 0]),3,32):=by kernel_rfl
theorem FB.safe2 {w w' : World} {F : Nat→Prop} {A : Option Addr} {n c : Nat} {bs : List UInt8} (h : FB w F A n c bs) (hall : ∀ k cur t,k < w.heap.size→w.heap[k]? = some (.cells cur t (0,0))→t ≠ 78→t ≠ 83→w'.heap[k]? = w.heap[k]?) : FB w' F A n c bs :=
  ⟨⟨h.1.1,ownsRow_keep h.1.2 fun k hA=>by
    obtain ⟨cur,hc⟩:=ownsRow_type h.1.2 hA
    exact hall k cur _ (lt_of_block hc) hc (by decide) (by decide)⟩,h.2⟩
theorem UAt.safe {w w' : World} {F : Nat→Prop} {e : U × (Option Addr × Nat)} (h : UAt w F e) (hall : ∀ k cur t,k < w.heap.size→w.heap[k]? = some (.cells cur t (0,0))→t ≠ 78→t ≠ 83→w'.heap[k]? = w.heap[k]?) : UAt w' F e:=by
  obtain ⟨x,A,c⟩:=e
  cases x with
  | byte c=>trivial
  | swap b=>exact FB.safe2 h hall
theorem RefE.add {w w3 : World} {F G : Nat→Prop} {g size : Nat} {lasts : List UInt8} {es : List (U × (Option Addr × Nat))} {AL AW : Option Addr} {cL cW : Nat} (hE : RefE w F g size lasts es AL cL AW cW) {e : U × (Option Addr × Nat)} {A' : Option Addr} {c' : Nat}
    (hG : ∀ k,G k→k < w.heap.size) (hu : UAt w (fun k=>F k∨G k) e) (hsz : w.heap.size≤w3.heap.size)
    (hall : ∀ k,k < w.heap.size→k ≠ g→AW.map (·.block) ≠ some k→w3.heap[k]? = w.heap[k]?)
    (hblk : Blk w3 g 78 #[.int .i64 (size : Nat),.slice AL lasts.length cL,.slice A' (es ++ [e]).length c'])
    (hrow : w3.ownsRow 0 83 3 (.slice A' (es ++ [e]).length c') (es ++ [e]).length (ucells (es ++ [e])))
    (hmv : ∀ k,A'.map (·.block) = some k→AW.map (·.block) = some k∨w.heap.size≤k) :
    RefE w3 (fun k=>F k∨(w.heap.size≤k∧A'.map (·.block) = some k)∨G k) g size lasts (es ++ [e]) AL cL A' c':=by
  have hs : ∀ k cur t,k < w.heap.size→w.heap[k]? = some (.cells cur t (0,0))→t ≠ 78→t ≠ 83→w3.heap[k]? = w.heap[k]?:=by
    intro k cur t hk hc h1 h2;refine hall k hk (fun e=>?_) (fun e=>?_)
    · have h4:=hE.blk
      unfold Blk at h4
      rw [← e,hc] at h4
      injection h4 with h4
      injection h4 with _ h5
      exact h1 h5
    · obtain ⟨cur2,h4⟩:=ownsRow_type hE.row e
      rw [hc] at h4
      injection h4 with h4
      injection h4 with _ h5
      exact h2 h5
  refine ⟨.inl hE.mine,hblk,(hE.lasts.safe2 hs).mono fun k hk=>.inl hk,hrow,fun k hk=>?_,fun e' he=>?_,fun k hk=>?_⟩
  · rcases hmv k hk with h1 | h1
    · exact .inl (hE.rowF k h1)
    · exact .inr (.inl ⟨h1,hk⟩)
  · rcases List.mem_append.1 he with h1 | h1
    · exact ((hE.ents e' h1).safe hs).mono fun k hk=>.inl hk
    · simp at h1
      subst h1
      exact (hu.safe hs).mono fun k hk=>by
        rcases hk with h | h
        · exact .inl h
        · exact .inr (.inr h)
  · rcases hk with h1 | ⟨_,h1⟩ | h1
    · exact Nat.lt_of_lt_of_le (hE.lt k h1) hsz
    · exact ownsRow_lt hrow h1
    · exact Nat.lt_of_lt_of_le (hG k h1) hsz
theorem RefE.push {w w1 w2 : World} {F G : Nat→Prop} {g size : Nat} {lasts : List UInt8} {es : List (U × (Option Addr × Nat))} {AL AW : Option Addr} {cL cW : Nat} (hE : RefE w F g size lasts es AL cL AW cW) {e : U × (Option Addr × Nat)} {A' : Option Addr} {c' : Nat}
    (hG : ∀ k,G k→k < w.heap.size) (hu : UAt w (fun k=>F k∨G k) e) (h0 : Below w.heap.size w w1) (hs1 : w.heap.size < w1.heap.size)
    (h1 : w2.ownsRow 0 83 3 (.slice A' (es.length + 1) c') (es.length + 1) (ucells es ++ ucell e)) (h2 : w1.grownBy w2 (Value.slice AW es.length cW).ownBlock) (h3 : Moved A' (Value.slice AW es.length cW).ownBlock w1.heap.size) :
    RefE (w2.setCell ⟨g,2,none⟩ (.slice A' (es.length + 1) c')) (fun k=>F k∨(w.heap.size≤k∧A'.map (·.block) = some k)∨G k) g size lasts (es ++ [e]) AL cL A' c'∧Only F w (w2.setCell ⟨g,2,none⟩ (.slice A' (es.length + 1) c')) ∧
      w2.cell? ⟨g,2,none⟩ = some (.slice AW es.length cW)∧w2.frozen? ⟨g,2,none⟩ = false:=by
  have hlt:=hE.blk.lt
  have hrow : (Value.slice AW es.length cW).ownBlock = AW.map (·.block):=by cases AW <;> rfl
  rw [hrow] at h2 h3
  have hk : ∀ k,k < w.heap.size→AW.map (·.block) ≠ some k→w2.heap[k]? = w.heap[k]?:=fun k hk hne=>(h2.block k (by omega) (fun e=>hne e.symm)).trans (h0.block k hk)
  have hgw : AW.map (·.block) ≠ some g:=fun e=>by
    obtain ⟨cur,h4⟩:=ownsRow_type hE.row e;have h5:=hE.blk
    unfold Blk at h5
    rw [h4] at h5
    injection h5 with h5
    injection h5 with _ h5
    exact absurd h5 (by decide)
  have hb2 : Blk w2 g 78 #[.int .i64 (size : Nat),.slice AL lasts.length cL,.slice AW es.length cW]:=(hk g hlt hgw).trans hE.blk;have b3:=hb2.set_ 2 (.slice A' (es.length + 1) c')
  have hgw' : A'.map (·.block) ≠ some g:=fun e=>by
    rcases h3 with h3 | h3
    · rw [h3] at e;exact hgw e
    · rw [h3] at e;injection e;omega
  refine ⟨hE.add hG hu ?_ ?_ ?_ ?_ ?_,?_,hb2.cell 2,hb2.free 2⟩
  · have:=h2.size;simp [World.setCell];omega
  · intro k h4 h5 h6
    exact (Below.heap_setCell w2 _ _ k h5).trans (hk k h4 h6)
  · rw [List.length_append];exact b3
  · rw [List.length_append,ucells_append]
    refine ownsRow_setCell_other ?_ ?_ _
    · have e1 : ucells [e] = ucell e:=by simp [ucells]
      rw [e1];exact h1
    · rcases A' with _ | a'
      · simp [Value.ownBlock]
      · simpa [Value.ownBlock] using hgw'
  · intro k h4
    rcases h3 with h3 | h3
    · rw [h3] at h4;exact .inl h4
    · rw [h3] at h4;injection h4 with h4;right;omega
  · exact Only.setCell ⟨h2.os.trans h0.os,h2.tape.trans h0.tape,h2.output.trans h0.output,Nat.le_trans h0.size h2.size,fun k h4 h5=>hk k h4 (fun e=>h5 (hE.rowF k e))⟩ (.inl hE.mine) _
def RefEnd (w : World) (F : Nat→Prop) (g size : Nat) (lasts : List UInt8) (us : List U) (x : Nat) (e : Ending) (w' : World) : Prop:=e = .returned (.int .i64 (x : Nat))∧RefOp w F g size lasts us w'
theorem RefAt.blk0 {w : World} {F : Nat→Prop} {g size : Nat} {lasts : List UInt8} {us : List U} (hD : RefAt w F g size lasts us) : w.cell? ⟨g,0,none⟩ = some (.int .i64 (size : Nat))∧g < w.heap.size:=by
  obtain ⟨es,AL,cL,AW,cW,rfl,hE⟩:=hD;exact ⟨hE.blk.cell 0,hE.blk.lt⟩
end Go.Proofs.YtfpenfgmpbdakaaGreat

namespace Go.Proofs.YtfpenfgmpbdakaaGreat
set_option linter.unusedVariables false
set_option linter.unusedSimpArgs false
set_option maxRecDepth 100000
open Go.RowKit
open Disk
theorem rappend_full (A : Option Addr) (n c : Nat) (F : Nat→Prop) (g size : Nat) (lasts : List UInt8) (us : List U) (w : World) (hD : RefAt w F g size lasts us) (hm : lasts.length + massU us≤1099511627776) (hn2 : n≤140737488355328)
    (hn : size < (afterU lasts us).length + n) :
    Calls Tryz.prog 11 #[.pointer (some ⟨g,0,none⟩),.slice A n c] w fun e w'=>e = .returned (.int .i64 7)∧Below w.heap.size w w':=by
  have hD' : RefAt w.drew F g size lasts us:=hD.below (Below.refl _ _).drew;have c0:=hD.blk0.1;have hlt:=hD.blk0.2;have hul:=Nat.le_trans (afterU_len lasts us) hm;have ew : IntKind.i64.wrap (((afterU lasts us).length : Int) + (n : Int)) = ((afterU lasts us).length : Int) + (n : Int):=IntWalk.i64_in _ (by omega);have hd : decide ((size : Int) < ((afterU lasts us).length : Int) + (n : Int)) = true:=decide_eq_true (by omega)
  go_enter Tryz.func11,Tryz.ntmps11
  go_wp2_with fail
  go_region_with (go_at_call 28;refine (rread_any F g size lasts us _ hD' hm).mono ?_;rintro e w1 ⟨A1,n1,c1,rfl,h2,h3⟩;have hn1:=h2.1;subst hn1;have q0:=(h3.cell (p:=⟨g,0,none⟩) hlt).trans c0)
  all_goals
    go_wp2_with fail;go_ret;exact ⟨rfl,(Below.refl _ _).drew.trans h3⟩
set_option maxRecDepth 100000 in
set_option maxHeartbeats 1000000 in
theorem rappend_gen (A : Option Addr) (n c : Nat) (bs : List UInt8) (F : Nat→Prop) (g size : Nat) (lasts : List UInt8) (us : List U) (w : World) (hD : RefAt w F g size lasts us) (hm : lasts.length + massU us≤1099511627776) (hul : us.length≤1099511627776)
    (hbw : ∀ w',Only F w w'→∃ B,RdB w' B A n bs) (hs : size≤16384) (hn : (afterU lasts us).length + n≤size) :
    Calls Tryz.prog 11 #[.pointer (some ⟨g,0,none⟩),.slice A n c] w (RefEnd w F g size lasts (us ++ bs.map .byte) 0):=by
  have hD' : RefAt w.drew F g size lasts us:=hD.below (Below.refl _ _).drew;have c0:=hD.blk0.1;have hlt:=hD.blk0.2;have hbn:=Lib.hid (hbw w (Only.refl F w)).choose_spec.1;obtain ⟨i0,hi,hz0,hz1,hz2⟩:=info_parts infoU;have ew : IntKind.i64.wrap (((afterU lasts us).length : Int) + (n : Int)) = ((afterU lasts us).length : Int) + (n : Int):=IntWalk.i64_in _ (by omega);have hd : decide ((size : Int) < ((afterU lasts us).length : Int) + (n : Int)) = false:=decide_eq_false (by omega)
  go_enter Tryz.func11,Tryz.ntmps11
  go_wp2_with fail
  go_region_with (go_at_call 28;refine (rread_any F g size lasts us _ hD' hm).mono ?_;rintro e w1 ⟨A1,n1,c1,rfl,h2,h3⟩;have hn1:=h2.1;subst hn1;have q0:=(h3.cell (p:=⟨g,0,none⟩) hlt).trans c0)
  all_goals
    have h1:=(Below.refl w.heap.size w).drew.trans h3;go_wp2_with fail
    go_loopw [20] (fun i wr=>∃ (k : Nat) (F1 : Nat→Prop),k≤n∧i = .int .i64 k∧RefAt wr F1 g size lasts (us ++ (bs.take k).map .byte)∧Only F w wr∧Grows F F1 w) (fun i _=>n - (intOf i).toNat)
    case atStart=>exact ⟨0,F,by omega,rfl,by simpa using hD.below h1,Only.of_below F h1,Grows.refl _ _⟩
    case round =>
      obtain ⟨k,F1,hk,rfl,hR,hO,hG⟩:=hrel
      by_cases hlt2 : k < n
      · have hkb : k < bs.length:=by rw [← hbn.out];exact hlt2
        obtain ⟨B,hbr⟩:=hbw wr hO;obtain ⟨ad,rfl,_,hc⟩:=hbr.at_ hkb
        have htk : us ++ (bs.take (k + 1)).map U.byte = (us ++ (bs.take k).map U.byte) ++ [U.byte bs[k]]:=by
          rw [take_snoc _ hkb,List.map_append,← List.append_assoc];rfl
        have HT:=Lib.hid htk;clear htk
        generalize bs[k] = x at hc HT
        obtain ⟨es,AL,cL,AW,cW,he,hE⟩:=hR;have HE:=Lib.hid he
        have hel : es.length≤1099511627776 + 16384:=by
          have : es.length = us.length + min k bs.length:=by rw [← List.length_map (f:=(·.1)),he];simp
          omega
        clear he;have c2:=hE.blk.cell 2;have h0 : Below wr.heap.size wr (wr.alloc (.cells #[.int .u8 (x.toNat : Int),.bool false,.slice none 0 0] 83)):=(Below.refl _ _).alloc (Nat.le_refl _) _
        have hs1 : wr.heap.size < (wr.alloc (.cells #[.int .u8 (x.toNat : Int),.bool false,.slice none 0 0] 83)).heap.size:=by simp
        have hs0 : (wr.alloc (.cells #[.int .u8 (x.toNat : Int),.bool false,.slice none 0 0] 83)).heap.size = wr.heap.size + 1:=by simp
        have hw1 : ∀ u ∈ [Value.int .u8 (x.toNat : Int),.bool false,.slice none 0 0],u.oneCell' = true:=by
          intro u hu
          simp at hu
          rcases hu with rfl | rfl | rfl <;> rfl
        have HW1:=Lib.hid hw1;clear hw1
        go_wp2_with (at_builtin;refine wpList_app _ rfl (.tmp 28) (.tmp 31) 76 rfl 0 83 i0 (.agg #[.int .u8 0,.bool false,.slice none 0 0]) 3 32 Tryz.underlying76 hi hz0 hz1 hz2 rfl (by decide) _ _ _ rfl (hE.row.alloc _) _ _ 1 1 _ rfl (Rd.made _ _ _ _) rfl HW1.out ?h63 ?hby (Nat.zero_le _) ?_)
        case h63=>unfold maxLen;omega
        case hby=>omega
        intro A' c' w2 k1 k2 k3;obtain ⟨p1,p2,p3,p4⟩:=hE.push (e:=(U.byte x,(none,0))) (G:=fun _=>False) (fun _ h=>h.elim) trivial h0 hs1 k1 k2 (by rw [hs0];exact k3)
        have hR2 : RefAt (w2.setCell ⟨g,2,none⟩ (.slice A' (es.length + 1) c')) (fun k=>F1 k∨(wr.heap.size≤k∧A'.map (·.block) = some k)∨False) g size lasts ((us ++ (bs.take k).map U.byte) ++ [U.byte x]) :=
          ⟨es ++ [(U.byte x,(none,0))],AL,cL,A',c',by rw [List.map_append,HE.out];rfl,by rw [show es.length + 1 = (es ++ [(U.byte x,((none : Option Addr),0))]).length by simp] at p1 ⊢;exact p1⟩
        rw [← HT.out] at hR2;have HR:=Lib.hid hR2;have hO2:=Lib.hid (hO.trans p2 hG)
        have hG1 : Grows F (fun k=>F1 k∨(wr.heap.size≤k∧A'.map (·.block) = some k)∨False) w:=fun k hk=>by
          rcases hk with h | ⟨h,_⟩ | h
          · exact hG k h
          · right;have:=hO.size;omega
          · exact h.elim
        have hG2:=Lib.hid hG1;clear hR2 hG1 p1 p2 k1 k2 k3 hE hbr hO hG h0 hs1 hs0;go_wp2_with fail
        go_roundw
        case rel=>exact ⟨k + 1,_,by omega,by go_num,HR.out,hO2.out,hG2.out⟩
        case measure=>simp [intOf];omega
      · obtain rfl : k = n:=by omega
        have htk : bs.take k = bs:=List.take_of_length_le (by rw [← hbn.out];omega);rw [htk] at hR;have HR:=Lib.hid hR;clear hR htk;go_wp2_with fail;go_ret;exact ⟨rfl,F1,HR.out,hO,hG⟩
theorem rappend_any (A : Option Addr) (n c B : Nat) (bs : List UInt8) (F : Nat→Prop) (g size : Nat) (lasts : List UInt8) (us : List U) (w : World) (hD : RefAt w F g size lasts us) (hm : lasts.length + massU us≤1099511627776) (hul : us.length≤1099511627776)
    (hb : RdB w B A n bs) (hB : B≤w.heap.size) (hFB : ∀ k,F k→B≤k) (hs : size≤16384) (hn : (afterU lasts us).length + n≤size) :
    Calls Tryz.prog 11 #[.pointer (some ⟨g,0,none⟩),.slice A n c] w (RefEnd w F g size lasts (us ++ bs.map .byte) 0) :=
  rappend_gen A n c bs F g size lasts us w hD hm hul (fun _ ho=>⟨B,hb.below (ho.to_below hFB hB)⟩) hs hn
end Go.Proofs.YtfpenfgmpbdakaaGreat

namespace Go.Proofs.YtfpenfgmpbdakaaGreat
set_option linter.unusedVariables false
set_option linter.unusedSimpArgs false
set_option maxRecDepth 100000
open Go.RowKit
open Disk
theorem rswap_full (A : Option Addr) (n c : Nat) (F : Nat→Prop) (g size : Nat) (lasts : List UInt8) (us : List U) (w : World) (hD : RefAt w F g size lasts us) (hn : size < n) :
    Calls Tryz.prog 73 #[.pointer (some ⟨g,0,none⟩),.slice A n c] w fun e w'=>e = .returned (.int .i64 7)∧w = w':=by
  have c0:=hD.blk0.1;have hd : decide (size < n) = true:=decide_eq_true hn
  go_enter Tryz.func73,Tryz.ntmps73
  go_wp2_with fail;go_ret;exact ⟨rfl,rfl⟩
theorem one3 (A : Option Addr) (n c : Nat) : ∀ u ∈ [Value.int .u8 0,.bool true,.slice A n c],u.oneCell' = true:=by
  intro u hu
  simp at hu
  rcases hu with rfl | rfl | rfl <;> rfl
theorem uat_own {w : World} {F : Nat→Prop} {base n c : Nat} {A : Option Addr} {bs : List UInt8} (h : OwnB w base A n c bs) : UAt w (fun k=>F k∨A.map (·.block) = some k) (U.swap bs,(A,c)) :=
  ⟨⟨rfl,by have:=ownsRow_base h.2 (Nat.zero_le _);rwa [h.1] at this⟩,fun k hk=>.inr hk⟩
set_option maxRecDepth 100000 in
set_option maxHeartbeats 2000000 in
theorem rswap_any (A : Option Addr) (n c B : Nat) (bs : List UInt8) (F : Nat→Prop) (g size : Nat) (lasts : List UInt8) (us : List U) (w : World) (hD : RefAt w F g size lasts us) (hul : us.length≤1099511627776)
    (hb : RdB w B A n bs) (hn : n≤size) (hs : size≤16384) :
    Calls Tryz.prog 73 #[.pointer (some ⟨g,0,none⟩),.slice A n c] w (RefEnd w F g size lasts (us ++ [.swap bs]) 0):=by
  have c0:=hD.blk0.1;have hlt:=hD.blk0.2;have hd : decide (size < n) = false:=decide_eq_false (by omega);obtain ⟨i0,hi,hz0,hz1,hz2⟩:=info_parts infoU;obtain rfl:=hb.1;obtain ⟨es,AL,cL,AW,cW,he,hE⟩:=hD
  have hel : es.length≤1099511627776:=by rw [← he,List.length_map] at hul;exact hul
  have HE:=Lib.hid he;clear he;have c2:=hE.blk.cell 2
  have h63 : es.length + 1≤maxLen:=by unfold maxLen;omega
  have hby : (es.length + 1) * 32≤140737488355328:=by omega
  have O0:=(OwnB.made w w.heap.size [] #[] 0 rfl rfl (Nat.le_refl _) (by decide)).drew;have B0:=((Below.refl w.heap.size w).alloc (Nat.le_refl _) (.cells #[] 5)).drew
  go_enter Tryz.func73,Tryz.ntmps73
  go_wp2_with fail
  go_region_law (first
    | (refine step_appB rfl (.tmp 17) (.tmp 18) rfl (by rfl) O0 (by rfl) (hb.size.below B0) (by omega) (by simp) ?_;intro A1 c1 w1 own _ _ below;have B1:=B0.trans below;have q2:=(B1.cell (p:=⟨g,2,none⟩) hlt).trans c2;rw [Nat.zero_add,List.nil_append] at own;have hE1:=hE.keep (Keeps.of_below B1 hE.lt);have q3:=(hE1.blk.alloc (.cells #[.int .u8 0,.bool true,.slice A1 bs.length c1] 83)).cell 2)
    | (refine step_app rfl (.tmp 16) (.tmp 21) 76 rfl 0 83 i0 (.agg #[.int .u8 0,.bool false,.slice none 0 0]) 3 32 Tryz.underlying76 hi hz0 hz1 hz2 rfl (by decide) _ _ _ (by rfl) (hE1.row.alloc _) _ _ 1 1 _ (by rfl) (Rd.made _ _ _ _) rfl (one3 _ _ _) h63 hby (Nat.zero_le _) ?_;intro A' c' w2 k1 k2 k3;obtain ⟨p1,p2,p3,p4⟩:=hE1.push (e:=(U.swap bs,(A1,c1))) (G:=fun k=>A1.map (·.block) = some k) (fun k hk=>(own.lt k hk).2) (uat_own own) ((Below.refl _ _).alloc (Nat.le_refl _) (.cells #[.int .u8 0,.bool true,.slice A1 bs.length c1] 83)) (by simp) k1 k2 k3))
  all_goals
    have hfin : RefOp w F g size lasts (us ++ [U.swap bs]) (w2.setCell ⟨g,2,none⟩ (.slice A' (es.length + 1) c')):=by
      refine ⟨_,⟨es ++ [(U.swap bs,(A1,c1))],AL,cL,A',c',by rw [List.map_append,HE.out];rfl,p1⟩,(Only.of_below F B1).trans p2 (Grows.refl _ _),fun k hk=>?_⟩
      rcases hk with h | ⟨h,_⟩ | h
      · exact .inl h
      · right;have:=B1.size;omega
      · right;exact (own.lt k h).1
    have HF:=Lib.hid hfin;clear hfin p1 p2 k1 k2 k3;go_wp2_with fail;go_ret;exact ⟨rfl,HF.out⟩
set_option maxRecDepth 100000 in
theorem rcrash_nat (m : Nat) (F : Nat→Prop) (g size : Nat) (lasts : List UInt8) (us : List U) (w : World) (hD : RefAt w F g size lasts us) (hm : lasts.length + massU us≤1099511627776) (hul : us.length≤1099511627776) (z : Int) (hz : z.toNat = m) (hz1 : -9223372036854775808≤z) (hz2 : z≤9223372036854775807) :
    Calls Tryz.prog 25 #[.pointer (some ⟨g,0,none⟩),.int .i64 z] w fun e w'=>e = .returned (.tuple #[])∧RefOp w F g size (afterU lasts (us.take m)) [] w':=by
  have hD0:=hD;obtain ⟨es,AL,cL,AW,cW,he,hE⟩:=hD0;have c2:=hE.blk.cell 2
  have hel : es.length = us.length:=by rw [← he];simp
  obtain ⟨j,hj⟩ : ∃ j,j = min m us.length:=⟨_,rfl⟩
  have htk : us.take m = us.take j:=by rw [hj,← List.take_take,List.take_length]
  rw [htk]
  have hjl : j≤us.length:=by omega
  obtain ⟨q,e1⟩ : ∃ q : Int,(if (es.length : Int) < z then (es.length : Int) else z) = q:=⟨_,rfl⟩
  have e2 : (if 0 < q then q else 0) = (j : Int):=by rw [← e1];split <;> split <;> omega
  have HH:=Lib.hid (show es.length≤1099511627776 by omega);have hra:=rafter_any j F g size lasts us w hD hjl hm
  generalize afterU lasts (us.take j) = X at hra ⊢
  clear htk hj hel he
  go_enter Tryz.func25,Tryz.ntmps25
  go_wp2_with fail;refine hra.mono ?_;rintro e w1 ⟨A1,n1,c1,rfl,ho,h1⟩;have hn1:=ho.1;subst hn1;have hb1:=hE.blk.below h1 hE.blk.lt;have q1:=hb1.cell 1;have q1':=hb1.free 1;have hb2:=hb1.set_ 1 (.slice A1 X.length c1);have q2:=hb2.cell 2;have q2':=hb2.free 2;have hb3:=hb2.set_ 2 (.slice none 0 0);have hon : Only F w ((w1.setCell ⟨g,1,none⟩ (.slice A1 X.length c1)).setCell ⟨g,2,none⟩ (.slice none 0 0)):=((Only.of_below F h1).setCell (.inl hE.mine) _).setCell (.inl hE.mine) _
  have hgA : A1.map (·.block) ≠ some g:=fun e=>by have:=(ho.lt g e).1;have:=hE.blk.lt;omega
  have ho3:=(ho.setFar (p:=⟨g,1,none⟩) hgA (.slice A1 X.length c1)).setFar (p:=⟨g,2,none⟩) hgA (.slice none 0 0)
  have hEc : RefE ((w1.setCell ⟨g,1,none⟩ (.slice A1 X.length c1)).setCell ⟨g,2,none⟩ (.slice none 0 0)) (fun k=>F k∨(w.heap.size≤k∧A1.map (·.block) = some k)) g size X [] A1 c1 none 0 :=
    ⟨.inl hE.mine,hb3,⟨⟨rfl,ownsRow_base ho3.2 (Nat.zero_le _)⟩,fun k hk=>.inr ⟨(ho.lt k hk).1,hk⟩⟩,World.ownsRow_nil _ _ _ _,(fun k hk=>by cases hk),fun e he=>absurd he (by simp),fun k hk=>Or.elim hk (fun h=>Nat.lt_of_lt_of_le (hE.lt k h) (by have:=h1.size;simp [World.setCell];omega)) (fun h=>(ho3.lt k h.2).2)⟩
  have HP:=Lib.hid (show RefOp w F g size X [] _ from ⟨_,⟨[],_,_,_,_,rfl,hEc⟩,hon,fun k hk=>by rcases hk with h | ⟨h,_⟩;exact .inl h;exact .inr h⟩);clear hEc hon ho3 hb3 hb2 hb1;go_wp2_with fail
  go_end0
  exact ⟨rfl,HP.out⟩
end Go.Proofs.YtfpenfgmpbdakaaGreat

namespace Go.Proofs.YtfpenfgmpbdakaaGreat
set_option linter.unusedVariables false
set_option linter.unusedSimpArgs false
set_option maxRecDepth 100000
open Go.RowKit
open Disk
theorem rsync_any (F : Nat→Prop) (g size : Nat) (lasts : List UInt8) (us : List U) (w : World) (hD : RefAt w F g size lasts us) (hm : lasts.length + massU us≤1099511627776) (hul : us.length≤1099511627776) :
    Calls Tryz.prog 74 #[.pointer (some ⟨g,0,none⟩)] w fun e w'=>e = .returned (.tuple #[])∧RefOp w F g size (afterU lasts us) [] w':=by
  have hD0:=hD;obtain ⟨es,AL,cL,AW,cW,he,hE⟩:=hD0;have c2:=hE.blk.cell 2
  have hel : es.length = us.length:=by rw [← he];simp
  have hc:=rcrash_nat us.length F g size lasts us w hD hm hul (es.length : Int) (by omega) (by omega) (by omega);rw [List.take_length] at hc;clear hel he
  go_enter Tryz.func74,Tryz.ntmps74
  go_wp2_with fail;refine hc.mono ?_;rintro e w1 ⟨rfl,h⟩;have HP:=Lib.hid h;clear h;go_wp2_with fail
  go_end0
  exact ⟨rfl,HP.out⟩
section
variable {w w1 w2 : World} {F G E : Nat→Prop} {g r size : Nat} {lasts l2 l3 : List UInt8} {ws ws3 : List W} {us us3 : List U}
end
theorem after_all (lasts : List UInt8) (ws : List W) : afterU lasts (exp ws) = readL lasts ws:=by
  have:=after_exp lasts ws (pend ws)
  rw [← exp_length,List.take_length,exp_length] at this;exact this
theorem exp_app (ws : List W) (bs : List UInt8) : exp (ws ++ [(false,bs)]) = exp ws ++ bs.map U.byte:=by rw [exp_append];simp [exp]
theorem exp_swap (ws : List W) (bs : List UInt8) : exp (ws ++ [(true,bs)]) = exp ws ++ [U.swap bs]:=by rw [exp_append];simp [exp]
end Go.Proofs.YtfpenfgmpbdakaaGreat

namespace Go.Proofs.YtfpenfgmpbdakaaGreat
set_option linter.unusedVariables false
set_option linter.unusedSimpArgs false
set_option maxRecDepth 100000
open Go.RowKit
open Disk
namespace Log
open _root_.Go.Proofs.YtfpenfgmpbdakaaGreat.Frame (frm frms frms_nil frms_cons frms_snoc frms_append frm_length frm_pos Parts AllF)
def RLogEnd (w : World) (F : Nat→Prop) (g size : Nat) (r : Res) (e : Ending) (w' : World) : Prop:=e = .returned (.int .i64 (r.1 : Nat))∧RefOp w F g size r.2.1 (exp r.2.2) w'
theorem rlread_any (F : Nat→Prop) (g size : Nat) (lasts : List UInt8) (ws : List W) (w : World) (hD : RefAt w F g size lasts (exp ws)) (hm : lasts.length + mass ws≤500000000000) :
    Calls Tryz.prog 43 #[.pointer (some ⟨g,0,none⟩)] w (ReadL w (readL lasts ws)):=by
  have hrl : (readL lasts ws).length≤500000000000:=Nat.le_trans (after_len _ _ _) hm
  go_enter Tryz.func43,Tryz.ntmps43
  go_wp2_with fail;refine (rread_any F g size lasts (exp ws) w hD (by rw [exp_mass];omega)).mono ?_;rintro e w1 ⟨A,n,c,rfl,o1,h1⟩;rw [after_all] at o1;have hle:=ownsRow_le o1.2;have hrd:=o1.rd;have hn:=o1.1;obtain ⟨b,hb⟩ : ∃ b,b = readL lasts ws:=⟨_,rfl⟩;rw [← hb] at hn hrl hrd;have HBQ:=Lib.hid hb;have HN:=Lib.hid hn
  have hnl : n≤500000000000:=by omega
  clear hb o1 hn;go_wp2_with fail;refine (Frame.rall_any A n c b _ w1 hrd (Nat.le_refl _) (by omega) hle.1 hle.2).mono ?_;rintro e w2 ⟨l,r,A2,c2,hp,rfl,hbo,h2⟩;obtain ⟨M,hM⟩ : ∃ M,M = (frms l).length:=⟨_,rfl⟩;rw [← hM];have HM:=Lib.hid hM;have HP:=Lib.hid hp;clear hM hp;go_wp2_with fail;go_ret2;rw [← HBQ.out];refine ⟨l,r,A2,c2,HP.out,?_,hbo.mono h1.size,h1.trans (h2.mono h1.size)⟩;rw [← HM.out,← HN.out]
  first | rfl | (simp;done)
set_option maxRecDepth 100000 in
theorem rlwrite_any (A : Option Addr) (n c B : Nat) (bs : List UInt8) (F : Nat→Prop) (g size : Nat) (lasts : List UInt8) (ws : List W) (w : World) (hD : RefAt w F g size lasts (exp ws)) (hm : lasts.length + mass ws≤500000000000) (hp : pend ws≤500000000000) (hs : size≤16384)
    (hb : RdB w B A n bs) (hB : B≤w.heap.size) :
    Calls Tryz.prog 50 #[.pointer (some ⟨g,0,none⟩),.slice A n c] w (RLogEnd w F g size (writeM size lasts ws bs)):=by
  obtain rfl:=hb.1
  by_cases h4 : bs.length≤4096
  · go_enter Tryz.func50,Tryz.ntmps50
    go_wp2_with fail;refine (Frame.rput_ok _ _ _ bs _ _ hb hB h4).mono ?_;rintro e w1 ⟨A1,n1,c1,rfl,o1,h1⟩;obtain rfl:=o1.1;have hD1:=hD.below h1;have hF1 : ∀ k,F k→k < w.heap.size:=hD.lt
    by_cases hroom : (readL lasts ws).length + (frm bs).length≤size
    · have hw : writeM size lasts ws bs = (0,readL lasts ws ++ frm bs,[]):=by
        unfold writeM
        rw [if_neg (by omega),if_pos hroom]
      have HW:=Lib.hid hw;clear hw
      have hbw : ∀ w',Only F w1 w'→∃ B,RdB w' B A1 (frm bs).length (frm bs):=fun w' ho=>⟨_,(o1.only ho hF1).rd⟩
      have HBW:=Lib.hid hbw;clear hbw;go_wp2_with fail;refine (rappend_gen _ _ _ (frm bs) F g size lasts (exp ws) _ hD1 (by rw [exp_mass];omega) (by rw [exp_length];omega) HBW.out hs (by rw [after_all];exact hroom)).mono ?_;rintro e w2 ⟨rfl,F2,d1,d2,d3⟩;rw [← exp_app] at d1;go_wp2_with fail;refine (rsync_any F2 g size _ _ _ d1 (by rw [exp_mass,mass_append];simp [mass];omega) (by rw [exp_length,pend_append];simp [pend,units];omega)).mono ?_;rintro e w3 ⟨rfl,d4⟩;rw [after_all,read_app] at d4;have d5:=RefOp.of_below h1 (RefOp.trans d2 d3 d4);have HD:=Lib.hid d5;clear d5 d4 d3 d2 d1;go_wp2_with fail;go_ret;rw [HW.out];exact ⟨rfl,HD.out⟩
    · have hw : writeM size lasts ws bs = (7,lasts,ws):=by
        unfold writeM
        rw [if_neg (by omega),if_neg hroom]
      have HW:=Lib.hid hw;have hfl:=frm_length bs;have hve:=Vint.enc_length bs.length;clear hw;go_wp2_with fail;refine (rappend_full _ _ _ F g size lasts (exp ws) _ hD1 (by rw [exp_mass];omega) (by omega) (by rw [after_all];omega)).mono ?_;rintro e w2 ⟨rfl,h2⟩;have h12:=h1.trans (h2.mono h1.size);clear hfl hve;go_wp2_with fail;go_ret;rw [HW.out];exact ⟨rfl,RefOp.refl hD h12⟩
  · have hw : writeM size lasts ws bs = (6,lasts,ws):=by
      unfold writeM
      rw [if_pos (by omega)]
    have HW:=Lib.hid hw;clear hw
    go_enter Tryz.func50,Tryz.ntmps50
    go_wp2_with fail;refine (Frame.rput_long _ _ _ _ (by omega)).mono ?_;rintro e w1 ⟨rfl,rfl⟩;go_wp2_with fail;go_ret;rw [HW.out];exact ⟨rfl,RefOp.refl hD (Below.refl _ _)⟩
def RMendEnd (w : World) (F : Nat→Prop) (g size : Nat) (b : List UInt8) (ws : List W) (e : Ending) (w' : World) : Prop :=
  ∃ l r,Parts (readL b ws) l r∧e = .returned (.tuple #[])∧RefOp w F g size (mendM b ws l).2.1 (exp (mendM b ws l).2.2) w'
set_option maxRecDepth 100000 in
theorem rlmend_any (F : Nat→Prop) (g size : Nat) (lasts : List UInt8) (ws : List W) (w : World) (hD : RefAt w F g size lasts (exp ws)) (hm : lasts.length + mass ws≤500000000000) (hp : pend ws≤500000000000) (hs : size≤16384) (hfit : (readL lasts ws).length≤size) :
    Calls Tryz.prog 42 #[.pointer (some ⟨g,0,none⟩)] w (RMendEnd w F g size lasts ws):=by
  go_enter Tryz.func42,Tryz.ntmps42
  go_wp2_with fail;refine (rread_any F g size lasts (exp ws) w hD (by rw [exp_mass];omega)).mono ?_;rintro e w1 ⟨A,n,c,rfl,o1,h1⟩;rw [after_all] at o1;have hle:=ownsRow_le o1.2;have hrd:=o1.rd;have hn:=o1.1;have HN:=Lib.hid hn
  have hnl : n≤size:=by omega
  clear hn;go_wp2_with fail;refine (Frame.rall_any A n c (readL lasts ws) _ w1 hrd (Nat.le_refl _) (by omega) hle.1 hle.2).mono ?_;rintro e w2 ⟨l,r,A2,c2,hp',rfl,hbo,h2⟩;have h12:=h1.trans (h2.mono h1.size)
  have hlen : (frms l).length≤n:=by rw [HN.out,hp'.1,List.length_append];omega
  have htake : (readL lasts ws).take (frms l).length = frms l:=by rw [hp'.1,List.take_left]
  have hD2:=hD.below h12;have hr2:=((o1.below h2 (Nat.le_refl _)).rd).take (k:=(frms l).length) hlen;rw [htake] at hr2;have HP:=Lib.hid hp';obtain ⟨M,hM⟩ : ∃ M,M = (frms l).length:=⟨_,rfl⟩;rw [← hM] at hlen hr2 ⊢;have HM:=Lib.hid hM
  have hMc : M≤c:=by omega
  clear hM hp' htake o1 hrd
  by_cases htorn : M < n
  · have hw : mendM lasts ws l = (0,frms l,[]):=by unfold mendM;rw [if_pos (by rw [← HM.out,← HN.out];exact htorn)]
    have HW:=Lib.hid hw;have hdt : decide (M < n) = true:=decide_eq_true htorn;clear hw;go_wp2_with fail;refine (rswap_any _ _ _ _ (frms l) F g size lasts (exp ws) _ hD2 (by rw [exp_length];omega) hr2 (by omega) hs).mono ?_;rintro e w3 ⟨rfl,F2,d1,d2,d3⟩;rw [← exp_swap] at d1
    have hfm : (frms l).length≤16384:=by rw [← HM.out];omega
    go_wp2_with fail;refine (rsync_any F2 g size _ _ _ d1 (by rw [exp_mass,mass_append];simp [mass];omega) (by rw [exp_length,pend_append];simp [pend,units];omega)).mono ?_;rintro e w4 ⟨rfl,d4⟩;rw [after_all,read_swap] at d4;have d5:=RefOp.of_below h12 (RefOp.trans d2 d3 d4);have HD:=Lib.hid d5;clear d5 d4 d3 d2 d1;go_wp2_with fail
    go_end0
    refine ⟨l,r,HP.out,rfl,?_⟩;rw [HW.out];exact HD.out
  · have hw : mendM lasts ws l = (0,lasts,ws):=by unfold mendM;rw [if_neg (by rw [← HM.out,← HN.out];exact htorn)]
    have HW:=Lib.hid hw;have hdt : decide (M < n) = false:=decide_eq_false htorn;clear hw;go_wp2_with fail
    go_end0
    refine ⟨l,r,HP.out,rfl,?_⟩;rw [HW.out];exact RefOp.refl hD h12
set_option maxRecDepth 100000 in
set_option maxHeartbeats 400000 in
theorem rlrewrite_any (A : Option Addr) (n c B : Nat) (ls : List (List UInt8)) (F : Nat→Prop) (g size : Nat) (lasts : List UInt8) (ws : List W) (w : World) (hD : RefAt w F g size lasts (exp ws)) (hm : lasts.length + mass ws≤500000000000) (hp : pend ws≤500000000000) (hs : size≤16384)
    (hb : RdS w B A n ls) (hB : B≤w.heap.size) (hn : n≤1000000) :
    Calls Tryz.prog 59 #[.pointer (some ⟨g,0,none⟩),.slice A n c] w (RLogEnd w F g size (rewriteM size lasts ws ls)):=by
  obtain rfl:=hb.len
  go_enter Tryz.func59,Tryz.ntmps59
  go_wp2_with fail
  go_loopw [5,13] (fun v i wr=>∃ (k : Nat) (A' : Option Addr) (n' c' : Nat),k≤ls.length∧i = .int .i64 k∧v = .slice A' n' c'∧OwnB wr w.heap.size A' n' c' (frms (ls.take k))∧(∀ x ∈ ls.take k,x.length≤4096)∧Below w.heap.size w wr) (fun _ i _=>ls.length - (intOf i).toNat)
  case atStart=>exact ⟨0,none,0,0,by omega,rfl,rfl,OwnB.nil _ _,by simp,Below.refl _ _⟩
  case round =>
    obtain ⟨k,A',n',c',hk,rfl,rfl,ho,hsm,hbel⟩:=hrel;have hbd:=frms_bound _ hsm;have hnn:=ho.1
    have htk : (ls.take k).length≤1000000:=by rw [List.length_take];omega
    have hn7 : n'≤5000000000:=by omega
    clear hbd hnn htk;have HS:=Lib.hid hsm;clear hsm
    by_cases hlt : k < ls.length
    · obtain ⟨a,D,m,d,rfl,hab,hcell,hrd,hmc,hcm⟩:=(hb.below (hbel.mono hB)).at_ hlt
      have hml:=hrd.1;obtain ⟨x,hx⟩ : ∃ x,x = ls[k]:=⟨_,rfl⟩;rw [← hx] at hrd hml;have HX:=Lib.hid hx;have HML:=Lib.hid hml;clear hx hml
      by_cases h3 : 4096 < m
      · have hno : ls.all (·.length≤4096) = false:=by
          rw [List.all_eq_false];exact ⟨ls[k],List.getElem_mem _,by rw [← HX.out];simp;have:=HML.out;omega⟩
        have hw : rewriteM size lasts ws ls = (6,lasts,ws):=by
          unfold rewriteM
          rw [if_neg (by rw [hno];simp)]
        have HW:=Lib.hid hw;clear hno hw;go_wp2_with fail;refine (Frame.rput_long _ _ _ _ h3).mono ?_;rintro e w2 ⟨rfl,rfl⟩;go_wp2_with fail;go_ret;rw [HW.out];exact ⟨rfl,RefOp.refl hD hbel⟩
      · go_wp2_with fail
        refine (Frame.rput_ok _ _ _ x _ _ hrd (Nat.le_trans hB hbel.size) (by omega)).mono ?_;rintro e w2 ⟨A2,n2,c2,rfl,ho2,h2⟩;have hb2:=hbel.trans (h2.mono hbel.size);have hob2:=ho.below h2 (Nat.le_refl _)
        have hn2 : n2≤5000:=by
          have:=ho2.1
          have:=frm_length x
          have:=Vint.enc_length x.length
          have:=HML.out
          omega
        go_wp2_with (at_builtin;refine wpList_appB rfl (.tmp 25) (.tmp 26) rfl rfl hob2 rfl ho2.rd ?hx0 hb2.size ?_)
        case hx0=>omega
        intro A3 c3 w3 ho3 hg3 _ hbl3;have hb3:=hb2.trans hbl3;go_wp2_with fail
        go_roundw
        case rel =>
          refine ⟨k + 1,A3,n' + n2,c3,by omega,by go_num,rfl,?_,?_,hb3⟩
          · rw [take_snoc ls hlt,frms_snoc,← HX.out]
            exact ho3
          · intro y hy
            rw [take_snoc ls hlt,List.mem_append,List.mem_singleton] at hy
            rcases hy with hy | rfl
            · exact HS.out y hy
            · rw [← HX.out,← HML.out];omega
        case measure=>simp [intOf];omega
    · obtain rfl : k = ls.length:=by omega
      rw [List.take_length] at ho
      have hyes : ls.all (·.length≤4096) = true:=by
        rw [List.all_eq_true];intro x hx
        have:=HS.out x (by rw [List.take_length];exact hx)
        simpa using this
      have hD1:=hD.below hbel;obtain rfl:=ho.1
      by_cases hroom : (frms ls).length≤size
      · have hw : rewriteM size lasts ws ls = (0,frms ls,[]):=by
          unfold rewriteM
          rw [if_pos hyes,if_pos hroom]
        have HW:=Lib.hid hw;clear hw hyes;go_wp2_with fail;refine (rswap_any _ _ _ _ (frms ls) F g size lasts (exp ws) _ hD1 (by rw [exp_length];omega) ho.rd hroom hs).mono ?_;rintro e w3 ⟨rfl,F2,d1,d2,d3⟩;rw [← exp_swap] at d1;go_wp2_with fail;refine (rsync_any F2 g size _ _ _ d1 (by rw [exp_mass,mass_append];simp [mass];omega) (by rw [exp_length,pend_append];simp [pend,units];omega)).mono ?_;rintro e w4 ⟨rfl,d4⟩;rw [after_all,read_swap] at d4;have d5:=RefOp.of_below hbel (RefOp.trans d2 d3 d4);have HD:=Lib.hid d5;clear d5 d4 d3 d2 d1;go_wp2_with fail;go_ret;rw [HW.out];exact ⟨rfl,HD.out⟩
      · have hw : rewriteM size lasts ws ls = (7,lasts,ws):=by
          unfold rewriteM
          rw [if_pos hyes,if_neg hroom]
        have HW:=Lib.hid hw;clear hw hyes;go_wp2_with fail;refine (rswap_full _ _ _ F g size lasts (exp ws) _ hD1 (by omega)).mono ?_;rintro e w3 ⟨rfl,rfl⟩;go_wp2_with fail;go_ret;rw [HW.out];exact ⟨rfl,RefOp.refl hD hbel⟩
end Log
end Go.Proofs.YtfpenfgmpbdakaaGreat
