/- StoreKeeps: behind any crashes and openings what Keep was OK for is there, unless it was compacted away; no number that Next told comes again; incarnations only rise: the whole statement, without a condition (printed by wip/gen/storekeeps.py). -/
import Derived.Test.YtfpenfgmpbdakaaGreatMem
import Derived.Test.YtfpenfgmpbdakaaGreatChecked
import Derived.Test.YtfpenfgmpbdakaaGreatStoRead
import Derived.Test.YtfpenfgmpbdakaaGreatStoWalks
import Derived.Test.YtfpenfgmpbdakaaGreatDiskWords
import Derived.Test.YtfpenfgmpbdakaaGreatLogOps
import Derived.Test.YtfpenfgmpbdakaaGreatStpDb
import Derived.Test.YtfpenfgmpbdakaaGreatEvMem
import Derived.Test.YtfpenfgmpbdakaaGreatVintWalks
import Derived.Test.YtfpenfgmpbdakaaGreatBytes
import Derived.Test.YtfpenfgmpbdakaaGreatVintRead
import Derived.Laws.CopyOwn
import Derived.Deep.DeepCutAuto
import Derived.Deep.RegionHeld
import Derived.Test.YtfpenfgmpbdakaaGreatDotMem
import Derived.Test.YtfpenfgmpbdakaaGreatFoot
import Derived.Test.YtfpenfgmpbdakaaGreatShell
import Derived.Maps.OwnSet
import Derived.Maps.RangeWalk
import Derived.Maps.OwnOps
import Derived.DeepKeys5
import Derived.Test.YtfpenfgmpbdakaaGreatOpen
import Derived.SizedLaws
import Derived.Test.YtfpenfgmpbdakaaGreatFactsD
import Derived.Deep.CutBlock
namespace Go.Proofs.YtfpenfgmpbdakaaGreat
set_option linter.unusedVariables false
set_option linter.unusedSimpArgs false
set_option maxRecDepth 100000
open Go.RowKit
abbrev iv (z : Int) : Value:=.int .i64 z
section
variable {w w' : World} {B B' n : Nat} {A : Option Addr} {bs : List Int}
end
section
variable {w w' : World} {base n c : Nat} {A : Option Addr} {bs : List Int}
end
end Go.Proofs.YtfpenfgmpbdakaaGreat

namespace Go.Proofs.YtfpenfgmpbdakaaGreat
set_option linter.unusedVariables false
set_option linter.unusedSimpArgs false
set_option maxRecDepth 100000
open Go.RowKit
open Dot Evt
open Disk
namespace Sto.Stp
def HapG (w : World) (F : Nat→Prop) (b g used u i base : Nat) (A : Option Addr) (evs : List Ev) (x : Ev) (w' : World) : Prop :=
  ∃ A' n' c' xs',Blk w' b 88 (sc g used u i (.slice A' n' c'))∧EvsAt w' F b base A' n' c' xs'∧xs'.map (·.e) = addE evs x∧(∀ k,A'.map (·.block) = some k→A.map (·.block) = some k∨w.heap.size≤k)
section
variable {w w0 w1 w' : World} {F : Nat→Prop} {b g used u i base : Nat} {A : Option Addr} {evs : List Ev} {x : Ev} {y : Nat} {e : Ending}
theorem HapE.from_ (h : HapE w1 F b g used u i base A evs x y e w') (hb : Below w0.heap.size w0 w1) : HapE w0 F b g used u i base A evs x y e w':=by
  obtain ⟨h1,h2⟩:=h;refine ⟨(Only.of_below (fun k=>k = b∨A.map (·.block) = some k) hb).trans h1 (Grows.refl _ _),?_⟩
  by_cases hy : y = 0
  · rw [if_pos hy] at h2 ⊢
    obtain ⟨A',n',c',xs',q1,q2,q3,q4,q5⟩:=h2;exact ⟨A',n',c',xs',q1,q2,q3,q4,fun k hk=>(q5 k hk).imp id fun q=>Nat.le_trans hb.size q⟩
  · rw [if_neg hy] at h2 ⊢
    exact h2
theorem HapE.split (h : HapE w F b g used u i base A evs x y e w') : (y ≠ 0∧Only (fun k=>k = b∨A.map (·.block) = some k) w w'∧e = .panicked [{ v:=flt 4,recovered:=false }])∨(y = 0∧Only (fun k=>k = b∨A.map (·.block) = some k) w w'∧e = .returned (.tuple #[])∧HapG w F b g used u i base A evs x w'):=by
  obtain ⟨h1,h2⟩:=h
  by_cases hy : y = 0
  · rw [if_pos hy] at h2
    obtain ⟨A',n',c',xs',q1,q2⟩:=h2;exact .inr ⟨hy,h1,q1,A',n',c',xs',q2⟩
  · rw [if_neg hy] at h2
    exact .inl ⟨hy,h1,h2⟩
theorem HapE.bad (hy : y ≠ 0) (h1 : Only (fun k=>k = b∨A.map (·.block) = some k) w w') : HapE w F b g used u i base A evs x y (.panicked [{ v:=flt 4,recovered:=false }]) w':=⟨h1,by rw [if_neg hy]⟩
theorem HapE.good (hy : y = 0) (h1 : Only (fun k=>k = b∨A.map (·.block) = some k) w w') (h2 : HapG w F b g used u i base A evs x w') : HapE w F b g used u i base A evs x y (.returned (.tuple #[])) w':=⟨h1,by
  obtain ⟨A',n',c',xs',q⟩:=h2
  rw [if_pos hy];exact ⟨A',n',c',xs',rfl,q⟩⟩
end
set_option maxHeartbeats 1000000 in
theorem read3_any (F : Nat→Prop) (b g used u i base : Nat) (Ae : Option Addr) (ne qe : Nat) (xs : List EvV) (ad : Addr) (n c : Nat) (t : List UInt8) (B : Nat) (w0 : World) (h0 : Blk w0 b 88 (sc g used u i (.slice Ae ne qe))) (he : EvsAt w0 F b base Ae ne qe xs) (hF : ∀ k,F k→k < w0.heap.size) (hba : base≤w0.heap.size) (hn : ne≤100000) (hb : RdB w0 B (some ad) n (3 :: t)) (hB : B≤w0.heap.size) (hl : n≤1000000000) (hc : n≤c) (hm : c≤maxLen) :
    Calls Tryz.prog 41 #[.pointer (some ⟨b,0,none⟩),.slice (some ad) n c] w0 (HapEnd w0 F b g used u i base Ae (xs.map (·.e)) t):=by
  have n1 : 1≤n:=by have:=hb.1;simp at this;omega
  have hlt:=h0.lt;obtain ⟨a',hA,hab,hv0⟩:=hb.at_ (k:=0) (by simp)
  obtain rfl : ad = a':=by injection hA
  have hv2 : w0.cell? ad = some (bv 3):=by simpa [go_sem] using hv0
  have hv1 : w0.cell? ad = some (.int .u8 3):=hv2;have hbt:=hb.drop 1;rw [List.drop_one,List.tail_cons] at hbt;have hd0 : decide ((0 : Int) < (n : Int)) = true:=decide_eq_true (by omega);have hd1 : decide (0 < n) = true:=decide_eq_true (by omega)
  have hn0 : (0 : Int) < (n : Int):=by omega
  have hnl : n = t.length + 1:=by have:=hb.1;simpa using this
  unfold maxLen at hm
  have hnp : 0 < n:=n1
  have hnz : (1 : Int)≤(n : Int):=by omega
  clear hv0 hv2 hA hb hd0 hd1
  by_cases hc1 : c = 1
  · obtain rfl : n = 1:=by omega
    subst hc1;obtain rfl : t = []:=List.eq_nil_of_length_eq_zero (by omega)
    have HC0:=Lib.hid fun (w' : World) (h : Below w0.heap.size w0 w')=>happens_any F b g used u i base Ae ne qe xs (some ad) 0 0 [] w' (h0.below h hlt) (he.below h) (fun k hk=>Nat.lt_of_lt_of_le (hF k hk) h.size) (Nat.le_trans hba h.size) hn (RdB.nil _ _ _) (by omega)
    unfold HapEnd at HC0 ⊢
    generalize (getEv []).1 = x at *
    generalize (getEv []).2 = y at *
    generalize xs.map (·.e) = evs at *
    clear hbt h0 hnl he hF hba hn
    go_enter Tryz.func41,Tryz.ntmps41
    go_upto_region 1 with fail
    refine nameW ?_;intro W hW;obtain ⟨G,hG⟩ : ∃ G,G = w0.heap.size:=⟨_,rfl⟩;rw [← hG]
    have hbW : Below w0.heap.size w0 W:=by rw [hW];exact (Below.refl _ _).alloc (Nat.le_refl _) _
    have cG : W.cell? ⟨G,3,none⟩ = some (.func (.func 71) #[] #[]):=by rw [hW,hG];exact (Blk.new w0 _ #[.nilFunc,.func (.func 69) #[] #[],.func (.func 70) #[] #[],.func (.func 71) #[] #[]]).cell 3
    have hGW : G < W.heap.size:=by rw [hW,hG];simp
    have hvW : W.cell? ad = some (.int .u8 3):=(hbW.cell (Nat.lt_of_lt_of_le hab hB)).trans hv1
    have habW : ad.block < W.heap.size:=by have:=hbW.size;omega
    have HC:=Lib.hid fun (w' : World) (h : Below W.heap.size W w')=>HC0.out w' (hbW.trans (h.mono hbW.size))
    clear hW hG hv1;go_wp2_with fail;refine (must_ok _ _).mono ?_;rintro e w2 ⟨rfl,rfl⟩
    go_upto_region 2 with fail
    refine wp_region_tailF 6 8 (fun L v w=>v 0 = .pointer (some ⟨b,0,none⟩)∧v 1 = .slice (some ad) 1 1∧v 4 = .pointer (some ⟨G,0,none⟩)∧Below W.heap.size W w∧(L 0 = true→v 22 = .slice (some ad) 1 1)∧(L 1 = true→v 23 = .pointer (some ad))∧(L 2 = true→v 24 = .int .u8 3)∧(L 3 = true→v 25 = .pointer (some ⟨G,3,none⟩))∧(L 4 = true→v 26 = .func (.func 71) #[] #[])∧(L 5 = true→v 27 = .pointer (some ⟨b,0,none⟩))∧(L 6 = true→v 28 = .slice (some ad) 1 1)∧(L 7 = true→v 29 = .slice (some ad) 0 0)) [22,23,24,25,26,27,28,29] (by kernel_rfl) (by kernel_rfl) (by kernel_rfl) (by kernel_rfl) (by kernel_rfl) (by kernel_rfl) ?h0 ?hst ?hend
    case h0 =>
      intro L h0;have h0 : ∀ i,i < 8→L i = false:=h0;exact ⟨rfl,rfl,rfl,(Below.refl _ _).drew,offF h0 (i:=0) (by decide),offF h0 (i:=1) (by decide),offF h0 (i:=2) (by decide),offF h0 (i:=3) (by decide),offF h0 (i:=4) (by decide),offF h0 (i:=5) (by decide),offF h0 (i:=6) (by decide),offF h0 (i:=7) (by decide)⟩
    case hst =>
      show FactSteps _ _ _ _ [0,1,2,3,4,5,6,7]
      refine @FactSteps.cons _ _ _ _ 0 _ [] _ rfl (by kernel_rfl) ?s0 ?_;rotate_left;refine @FactSteps.cons _ _ _ _ 1 _ [0] _ rfl (by kernel_rfl) ?s1 ?_;rotate_left;refine @FactSteps.cons _ _ _ _ 2 _ [1] _ rfl (by kernel_rfl) ?s2 ?_;rotate_left;refine @FactSteps.cons _ _ _ _ 3 _ [2] _ rfl (by kernel_rfl) ?s3 ?_;rotate_left;refine @FactSteps.cons _ _ _ _ 4 _ [3] _ rfl (by kernel_rfl) ?s4 ?_;rotate_left;refine @FactSteps.cons _ _ _ _ 5 _ [] _ rfl (by kernel_rfl) ?s5 ?_;rotate_left;refine @FactSteps.cons _ _ _ _ 6 _ [] _ rfl (by kernel_rfl) ?s6 ?_;rotate_left;refine @FactSteps.cons _ _ _ _ 7 _ [6] _ rfl (by kernel_rfl) ?s7 ?_;rotate_left;exact FactSteps.nil
      case s0 =>
        rintro L a v w hv hg hL hd hcl ⟨e0,e1,e4,hb,f0,f1,f2,f3,f4,f5,f6,f7⟩ K hK;refine step_do rfl ?_;clear hv;go_simp;exact hK.out _ _ ⟨e0,e1,e4,hb,fun _=>rfl,f1,f2,f3,f4,f5,f6,f7⟩
      case s1 =>
        rintro L a v w hv hg hL hd hcl ⟨e0,e1,e4,hb,f0,f1,f2,f3,f4,f5,f6,f7⟩ K hK;have g0:=f0 (hd 0 (by decide));refine step_do rfl ?_;clear hv;go_simp;exact hK.out _ _ ⟨e0,e1,e4,hb,f0,fun _=>rfl,f2,f3,f4,f5,f6,f7⟩
      case s2 =>
        rintro L a v w hv hg hL hd hcl ⟨e0,e1,e4,hb,f0,f1,f2,f3,f4,f5,f6,f7⟩ K hK;have g1:=f1 (hd 1 (by decide));have hc2:=(hb.cell habW).trans hvW;refine step_do rfl ?_;clear hv;go_simp;exact hK.out _ _ ⟨e0,e1,e4,hb,f0,f1,fun _=>rfl,f3,f4,f5,f6,f7⟩
      case s3 =>
        rintro L a v w hv hg hL hd hcl ⟨e0,e1,e4,hb,f0,f1,f2,f3,f4,f5,f6,f7⟩ K hK;have g2:=f2 (hd 2 (by decide));refine step_do rfl ?_;clear hv;go_simp;exact hK.out _ _ ⟨e0,e1,e4,hb,f0,f1,f2,fun _=>rfl,f4,f5,f6,f7⟩
      case s4 =>
        rintro L a v w hv hg hL hd hcl ⟨e0,e1,e4,hb,f0,f1,f2,f3,f4,f5,f6,f7⟩ K hK;have g3:=f3 (hd 3 (by decide));have hc4:=(hb.cell (p:=⟨G,3,none⟩) hGW).trans cG;refine step_do rfl ?_;clear hv;go_simp;exact hK.out _ _ ⟨e0,e1,e4,hb,f0,f1,f2,f3,fun _=>rfl,f5,f6,f7⟩
      case s5 =>
        rintro L a v w hv hg hL hd hcl ⟨e0,e1,e4,hb,f0,f1,f2,f3,f4,f5,f6,f7⟩ K hK;refine step_do rfl ?_;clear hv;go_simp;exact hK.out _ _ ⟨e0,e1,e4,hb,f0,f1,f2,f3,f4,fun _=>rfl,f6,f7⟩
      case s6 =>
        rintro L a v w hv hg hL hd hcl ⟨e0,e1,e4,hb,f0,f1,f2,f3,f4,f5,f6,f7⟩ K hK;refine step_do rfl ?_;clear hv;go_simp;exact hK.out _ _ ⟨e0,e1,e4,hb,f0,f1,f2,f3,f4,f5,fun _=>rfl,f7⟩
      case s7 =>
        rintro L a v w hv hg hL hd hcl ⟨e0,e1,e4,hb,f0,f1,f2,f3,f4,f5,f6,f7⟩ K hK;have g6:=f6 (hd 6 (by decide));refine step_do rfl ?_;clear hv;go_simp;exact hK.out _ _ ⟨e0,e1,e4,hb,f0,f1,f2,f3,f4,f5,f6,fun _=>rfl⟩
    case hend =>
    rintro L v wx hall ⟨e0,e1,e4,hb,f0,f1,f2,f3,f4,f5,f6,f7⟩;have hL : ∀ i,i < 8→L i = true:=hall;have f0:=f0 (hL 0 (by decide));have f1:=f1 (hL 1 (by decide));have f2:=f2 (hL 2 (by decide));have f3:=f3 (hL 3 (by decide));have f4:=f4 (hL 4 (by decide));have f5:=f5 (hL 5 (by decide));have f6:=f6 (hL 6 (by decide));have f7:=f7 (hL 7 (by decide))
    simp only [finA,List.foldl_cons,List.foldl_nil,Act.put,List.setIfInBounds_toArray,List.set_cons_succ,List.set_cons_zero,f0,f1,f2,f3,f4,f5,f6,f7]
    clear e0 e1 e4 f0 f1 f2 f3 f4 f5 f6 f7 hL hall
    show wpList _ _ _ [_] _ _
    go_wp2_with fail;refine (HC.out wx hb).mono ?_;rintro e w3 h;have h:=h.from_ (hbW.trans (hb.mono hbW.size))
    rcases h.split with ⟨h1,h2,rfl⟩ | ⟨h1,h2,h3⟩
    · exact ⟨rfl,HapE.bad h1 h2⟩
    · obtain ⟨rfl,h4⟩:=h3
      have H4:=Lib.hid (HapE.good h1 h2 h4);clear h1 h2 h4 h;go_wp2_with fail
      go_end0
      exact H4.out
  · have HC0:=Lib.hid fun (w' : World) (h : Below w0.heap.size w0 w')=>happens_any F b g used u i base Ae ne qe xs (some ⟨ad.block,ad.off + 1,none⟩) (n - 1) (c - 1) t w' (h0.below h hlt) (he.below h) (fun k hk=>Nat.lt_of_lt_of_le (hF k hk) h.size) (Nat.le_trans hba h.size) hn ((hbt.below (h.mono hB)).more (Nat.le_trans hB h.size)) (by omega)
    unfold HapEnd at HC0 ⊢
    generalize (getEv t).1 = x at *
    generalize (getEv t).2 = y at *
    generalize xs.map (·.e) = evs at *
    have hc2' : 1≤c:=by omega
    clear hbt h0 hnl he hF hba hn
    go_enter Tryz.func41,Tryz.ntmps41
    go_upto_region 1 with fail
    refine nameW ?_;intro W hW;obtain ⟨G,hG⟩ : ∃ G,G = w0.heap.size:=⟨_,rfl⟩;rw [← hG]
    have hbW : Below w0.heap.size w0 W:=by rw [hW];exact (Below.refl _ _).alloc (Nat.le_refl _) _
    have cG : W.cell? ⟨G,3,none⟩ = some (.func (.func 71) #[] #[]):=by rw [hW,hG];exact (Blk.new w0 _ #[.nilFunc,.func (.func 69) #[] #[],.func (.func 70) #[] #[],.func (.func 71) #[] #[]]).cell 3
    have hGW : G < W.heap.size:=by rw [hW,hG];simp
    have hvW : W.cell? ad = some (.int .u8 3):=(hbW.cell (Nat.lt_of_lt_of_le hab hB)).trans hv1
    have habW : ad.block < W.heap.size:=by have:=hbW.size;omega
    have HC:=Lib.hid fun (w' : World) (h : Below W.heap.size W w')=>HC0.out w' (hbW.trans (h.mono hbW.size))
    clear hW hG hv1;go_wp2_with fail;refine (must_ok _ _).mono ?_;rintro e w2 ⟨rfl,rfl⟩
    go_upto_region 2 with fail
    refine wp_region_tailF 6 8 (fun L v w=>v 0 = .pointer (some ⟨b,0,none⟩)∧v 1 = .slice (some ad) n c∧v 4 = .pointer (some ⟨G,0,none⟩)∧Below W.heap.size W w∧(L 0 = true→v 22 = .slice (some ad) n c)∧(L 1 = true→v 23 = .pointer (some ad))∧(L 2 = true→v 24 = .int .u8 3)∧(L 3 = true→v 25 = .pointer (some ⟨G,3,none⟩))∧(L 4 = true→v 26 = .func (.func 71) #[] #[])∧(L 5 = true→v 27 = .pointer (some ⟨b,0,none⟩))∧(L 6 = true→v 28 = .slice (some ad) n c)∧(L 7 = true→v 29 = .slice (some ⟨ad.block,ad.off + 1,none⟩) (n - 1) (c - 1))) [22,23,24,25,26,27,28,29] (by kernel_rfl) (by kernel_rfl) (by kernel_rfl) (by kernel_rfl) (by kernel_rfl) (by kernel_rfl) ?h0 ?hst ?hend
    case h0 =>
      intro L h0;have h0 : ∀ i,i < 8→L i = false:=h0;exact ⟨rfl,rfl,rfl,(Below.refl _ _).drew,offF h0 (i:=0) (by decide),offF h0 (i:=1) (by decide),offF h0 (i:=2) (by decide),offF h0 (i:=3) (by decide),offF h0 (i:=4) (by decide),offF h0 (i:=5) (by decide),offF h0 (i:=6) (by decide),offF h0 (i:=7) (by decide)⟩
    case hst =>
      show FactSteps _ _ _ _ [0,1,2,3,4,5,6,7]
      refine @FactSteps.cons _ _ _ _ 0 _ [] _ rfl (by kernel_rfl) ?s0 ?_;rotate_left;refine @FactSteps.cons _ _ _ _ 1 _ [0] _ rfl (by kernel_rfl) ?s1 ?_;rotate_left;refine @FactSteps.cons _ _ _ _ 2 _ [1] _ rfl (by kernel_rfl) ?s2 ?_;rotate_left;refine @FactSteps.cons _ _ _ _ 3 _ [2] _ rfl (by kernel_rfl) ?s3 ?_;rotate_left;refine @FactSteps.cons _ _ _ _ 4 _ [3] _ rfl (by kernel_rfl) ?s4 ?_;rotate_left;refine @FactSteps.cons _ _ _ _ 5 _ [] _ rfl (by kernel_rfl) ?s5 ?_;rotate_left;refine @FactSteps.cons _ _ _ _ 6 _ [] _ rfl (by kernel_rfl) ?s6 ?_;rotate_left;refine @FactSteps.cons _ _ _ _ 7 _ [6] _ rfl (by kernel_rfl) ?s7 ?_;rotate_left;exact FactSteps.nil
      case s0 =>
        rintro L a v w hv hg hL hd hcl ⟨e0,e1,e4,hb,f0,f1,f2,f3,f4,f5,f6,f7⟩ K hK;refine step_do rfl ?_;clear hv;go_simp;exact hK.out _ _ ⟨e0,e1,e4,hb,fun _=>rfl,f1,f2,f3,f4,f5,f6,f7⟩
      case s1 =>
        rintro L a v w hv hg hL hd hcl ⟨e0,e1,e4,hb,f0,f1,f2,f3,f4,f5,f6,f7⟩ K hK;have g0:=f0 (hd 0 (by decide));refine step_do rfl ?_;clear hv;go_simp;exact hK.out _ _ ⟨e0,e1,e4,hb,f0,fun _=>rfl,f2,f3,f4,f5,f6,f7⟩
      case s2 =>
        rintro L a v w hv hg hL hd hcl ⟨e0,e1,e4,hb,f0,f1,f2,f3,f4,f5,f6,f7⟩ K hK;have g1:=f1 (hd 1 (by decide));have hc2:=(hb.cell habW).trans hvW;refine step_do rfl ?_;clear hv;go_simp;exact hK.out _ _ ⟨e0,e1,e4,hb,f0,f1,fun _=>rfl,f3,f4,f5,f6,f7⟩
      case s3 =>
        rintro L a v w hv hg hL hd hcl ⟨e0,e1,e4,hb,f0,f1,f2,f3,f4,f5,f6,f7⟩ K hK;have g2:=f2 (hd 2 (by decide));refine step_do rfl ?_;clear hv;go_simp;exact hK.out _ _ ⟨e0,e1,e4,hb,f0,f1,f2,fun _=>rfl,f4,f5,f6,f7⟩
      case s4 =>
        rintro L a v w hv hg hL hd hcl ⟨e0,e1,e4,hb,f0,f1,f2,f3,f4,f5,f6,f7⟩ K hK;have g3:=f3 (hd 3 (by decide));have hc4:=(hb.cell (p:=⟨G,3,none⟩) hGW).trans cG;refine step_do rfl ?_;clear hv;go_simp;exact hK.out _ _ ⟨e0,e1,e4,hb,f0,f1,f2,f3,fun _=>rfl,f5,f6,f7⟩
      case s5 =>
        rintro L a v w hv hg hL hd hcl ⟨e0,e1,e4,hb,f0,f1,f2,f3,f4,f5,f6,f7⟩ K hK;refine step_do rfl ?_;clear hv;go_simp;exact hK.out _ _ ⟨e0,e1,e4,hb,f0,f1,f2,f3,f4,fun _=>rfl,f6,f7⟩
      case s6 =>
        rintro L a v w hv hg hL hd hcl ⟨e0,e1,e4,hb,f0,f1,f2,f3,f4,f5,f6,f7⟩ K hK;refine step_do rfl ?_;clear hv;go_simp;exact hK.out _ _ ⟨e0,e1,e4,hb,f0,f1,f2,f3,f4,f5,fun _=>rfl,f7⟩
      case s7 =>
        rintro L a v w hv hg hL hd hcl ⟨e0,e1,e4,hb,f0,f1,f2,f3,f4,f5,f6,f7⟩ K hK;have g6:=f6 (hd 6 (by decide));refine step_do rfl ?_;clear hv;go_simp;exact hK.out _ _ ⟨e0,e1,e4,hb,f0,f1,f2,f3,f4,f5,f6,fun _=>rfl⟩
    case hend =>
    rintro L v wx hall ⟨e0,e1,e4,hb,f0,f1,f2,f3,f4,f5,f6,f7⟩;have hL : ∀ i,i < 8→L i = true:=hall;have f0:=f0 (hL 0 (by decide));have f1:=f1 (hL 1 (by decide));have f2:=f2 (hL 2 (by decide));have f3:=f3 (hL 3 (by decide));have f4:=f4 (hL 4 (by decide));have f5:=f5 (hL 5 (by decide));have f6:=f6 (hL 6 (by decide));have f7:=f7 (hL 7 (by decide))
    simp only [finA,List.foldl_cons,List.foldl_nil,Act.put,List.setIfInBounds_toArray,List.set_cons_succ,List.set_cons_zero,f0,f1,f2,f3,f4,f5,f6,f7]
    clear e0 e1 e4 f0 f1 f2 f3 f4 f5 f6 f7 hL hall
    show wpList _ _ _ [_] _ _
    go_wp2_with fail;refine (HC.out wx hb).mono ?_;rintro e w3 h;have h:=h.from_ (hbW.trans (hb.mono hbW.size))
    rcases h.split with ⟨h1,h2,rfl⟩ | ⟨h1,h2,h3⟩
    · exact ⟨rfl,HapE.bad h1 h2⟩
    · obtain ⟨rfl,h4⟩:=h3
      have H4:=Lib.hid (HapE.good h1 h2 h4);clear h1 h2 h4 h;go_wp2_with fail
      go_end0
      exact H4.out
end Sto.Stp
end Go.Proofs.YtfpenfgmpbdakaaGreat

namespace Go.Proofs.YtfpenfgmpbdakaaGreat
set_option linter.unusedVariables false
set_option linter.unusedSimpArgs false
set_option maxRecDepth 100000
open Go.RowKit
open Disk
namespace Sto
open _root_.Go.Proofs.YtfpenfgmpbdakaaGreat.Log (writeM LogEnd lwrite_any)
open _root_.Go.Proofs.YtfpenfgmpbdakaaGreat.Frame (frm frms frms_nil frms_cons frms_snoc frms_append frm_length frm_pos Parts AllF)
structure Sd where
  b : List UInt8
  used : Nat
  upto : Nat
  inc : Nat
def StoAt (w : World) (F : Nat→Prop) (b g size : Nat) (S : Sd) (E : Value) : Prop:=DiskAt w F g size S.b []∧Blk w b 88 (sc g S.used S.upto S.inc E)∧¬ F b
def StoOp (w : World) (F : Nat→Prop) (b g size : Nat) (S : Sd) (E : Value) (w' : World) : Prop:=∃ F',StoAt w' F' b g size S E∧Only (fun k=>F k∨k = b) w w'∧Grows F F' w
structure SW (w : World) (F : Nat→Prop) (b g size : Nat) (S : Sd) (E : Value) (F1 : Nat→Prop) (w1 : World) : Prop where
  disk : DiskAt w1 F1 g size S.b []
  blk : Blk w1 b 88 (sc g S.used S.upto S.inc E)
  only : Only (fun k=>F k∨k = b) w w1
  grows : Grows F F1 w
  nf : ¬ F b
  lt : b < w.heap.size
  fl : ∀ k,F k→k < w.heap.size
section
variable {w w0 w1 w2 : World} {F F1 : Nat→Prop} {b g size : Nat} {S : Sd} {E : Value} {l : List UInt8}
theorem StoAt.sw (h : StoAt w F b g size S E) : SW w F b g size S E F w:=⟨h.1,h.2.1,Only.refl _ _,Grows.refl _ _,h.2.2,h.2.1.lt,h.1.lt⟩
theorem StoAt.below (h : StoAt w F b g size S E) (hb : Below w.heap.size w w1) : StoAt w1 F b g size S E:=⟨h.1.below hb,h.2.1.below hb h.2.1.lt,h.2.2⟩
theorem SW.nb (h : SW w F b g size S E F1 w1) : ¬ F1 b:=fun hk=>by
  rcases h.grows _ hk with q | q
  · exact h.nf q
  · have:=h.lt;omega
theorem SW.below (h : SW w F b g size S E F1 w1) (hb : Below w1.heap.size w1 w2) : SW w F b g size S E F1 w2 :=
  ⟨h.disk.below hb,h.blk.below hb h.blk.lt,h.only.then_below (hb.mono h.only.size),h.grows,h.nf,h.lt,h.fl⟩
theorem SW.op (h : SW w F b g size S E F1 w1) (ho : DiskOp w1 F1 g size l [] w2) : ∃ F2,SW w F b g size { S with b:=l } E F2 w2:=by
  obtain ⟨F2,o1,o2,o3⟩:=ho;refine ⟨F2,o1,h.blk.only o2 h.nb,?_,?_,h.nf,h.lt,h.fl⟩
  · refine h.only.trans (o2.mono (G:=fun k=>F1 k∨k = b) fun k hk=>.inl (.inl hk)) fun k hk=>?_
    rcases hk with hk | hk
    · rcases h.grows k hk with q | q
      · exact .inl (.inl q)
      · exact .inr q
    · exact .inl (.inr hk)
  · exact h.grows.trans o3 h.only.size
theorem SW.set_ {u' v' i' : Nat} (h : SW w F b g size S E F1 w1) {i : Nat} {x : Value} (hk : Blk (w1.setCell ⟨b,i,none⟩ x) b 88 (sc g u' v' i' E)) : SW w F b g size ⟨S.b,u',v',i'⟩ E F1 (w1.setCell ⟨b,i,none⟩ x) :=
  ⟨h.disk.keep ⟨by simp [World.setCell],fun k hk=>Below.heap_setCell w1 _ _ k (fun e=>h.nb (by have e : k = b:=e;rw [← e];exact hk))⟩,hk,h.only.setCell (.inl (.inr rfl)) x,h.grows,h.nf,h.lt,h.fl⟩
theorem SW.drew (h : SW w F b g size S E F1 w1) : SW w F b g size S E F1 w1.drew:=h.below (Below.refl _ _).drew
theorem SW.drewN (h : SW w F b g size S E F1 w1) (n : Nat) : SW w F b g size S E F1 (w1.drewN n):=h.below (below_drewN (Below.refl _ _) n)
theorem SW.nk (h : SW w F b g size S E F1 w1) {k : Nat} (hk : k < w.heap.size) (hF : ¬ F k) : ¬ F1 k:=fun q=>by
  rcases h.grows _ q with x | x
  · exact hF x
  · omega
theorem SW.err (h : SW w0 F b g size S E F1 w1) (hb : Below w.heap.size w w0) (hs : w.heap.size < w0.heap.size) (hl : b < w.heap.size) (hf : ∀ k,F k→k < w.heap.size) (i : Nat) (x : Value) : StoOp w F b g size S E (w1.setCell ⟨w.heap.size,i,none⟩ x):=by
  have hn : ¬ F1 w.heap.size:=fun hk=>by
    rcases h.grows _ hk with q | q
    · have:=hf _ q;omega
    · omega
  refine ⟨F1,⟨h.disk.keep ⟨by simp [World.setCell],fun k hk=>Below.heap_setCell w1 _ _ k (fun e=>hn (by have e : k = w.heap.size:=e;rw [← e];exact hk))⟩,h.blk.far (by show b ≠ w.heap.size;omega) x,h.nb⟩,
    ((Only.of_below _ hb).trans h.only (Grows.refl _ _)).setCell (.inr (Nat.le_refl _)) x,fun k hk=>(h.grows k hk).imp id fun q=>by have:=hb.size;omega⟩
theorem SW.keeps {t : TypeId} {cs : Array Value} (h : SW w0 F b g size S E F1 w1) {k : Nat} (kb : Blk w0 k t cs) (hk : k ≠ b) (hf : ¬ F k) : Blk w1 k t cs:=kb.only h.only (by rintro (q | q);exact hf q;exact hk q)
end
theorem write_any (A : Option Addr) (n c B : Nat) (bs : List UInt8) (F : Nat→Prop) (b g size u v i : Nat) (lasts : List UInt8) (E : Value) (w : World) (h0 : Blk w b 88 (sc g u v i E)) (hD : DiskAt w F g size lasts []) (hm : lasts.length≤16384) (hs : size≤16384)
    (hb : RdB w B A n bs) (hB : B≤w.heap.size) (hc : n≤c) (hcm : c≤maxLen) :
    Calls Tryz.prog 48 #[.pointer (some ⟨b,0,none⟩),.slice A n c] w fun e w'=>(e = if (writeM size lasts [] bs).1 = 0 then .returned (.tuple #[]) else .panicked [{ v:=flt ((writeM size lasts [] bs).1 : Nat),recovered:=false }])∧DiskOp w F g size (writeM size lasts [] bs).2.1 (writeM size lasts [] bs).2.2 w':=by
  have c0 : w.cell? ⟨b,0,none⟩ = some (.pointer (some ⟨g,0,none⟩)):=h0.cell 0;have hw:=lwrite_any A n c B bs F g size lasts [] w hD (by simp [mass];omega) (by simp) hs hb hB hc hcm
  unfold LogEnd at hw
  generalize writeM size lasts [] bs = r at *
  obtain ⟨k,l1,l2⟩:=r
  simp only at hw ⊢
  have HW:=Lib.hid hw;clear hw hD hb hc hm h0
  by_cases h : k = 0
  · subst h
    rw [if_pos rfl]
    go_enter Tryz.func48,Tryz.ntmps48
    go_wp2_with fail;refine HW.out.mono ?_;rintro e w1 ⟨rfl,h1⟩;have H1:=Lib.hid h1;clear h1;go_wp2_with fail;refine (must_yes (by first | with_reducible rfl | assumption | (simp;done) | (simp;omega)) _ _).mono ?_;rintro e w2 ⟨rfl,rfl⟩;go_wp2_with fail
    go_end0
    exact ⟨rfl,H1.out⟩
  · rw [if_neg h]
    have hq : ((k : Int) == 0) = false:=by rw [beq_eq_false_iff_ne];omega
    go_enter Tryz.func48,Tryz.ntmps48
    go_wp2_with fail;refine HW.out.mono ?_;rintro e w1 ⟨rfl,h1⟩;have H1:=Lib.hid h1;clear h1;go_wp2_with fail;refine (must_no (by first | with_reducible rfl | assumption | (simp;done) | (simp;omega)) _ _).mono ?_;rintro e w2 ⟨rfl,rfl⟩;go_wp2_with fail;exact ⟨rfl,rfl,H1.out⟩
theorem told_lit (kd : UInt8) (z m : Int) (n : Nat) (hz : (kd.toNat : Int) = z) (hm : m = (n : Nat)) (hn : n≤1099511627776) (w : World) :
    Calls Tryz.prog 49 #[.int .u8 z,.int .i64 m] w (GiveB w (told kd n)):=by
  subst hz hm;exact told_any kd n hn w
theorem told_write {size : Nat} {b : List UInt8} {kd : UInt8} {n : Nat} : writeM size b [] (told kd n) = if b.length + (frm (told kd n)).length≤size then (0,b ++ frm (told kd n),[]) else (7,b,[]):=by
  unfold writeM
  have:=told_len kd n
  rw [if_neg (by omega)]
  rfl
def nextD (size : Nat) (S : Sd) : Nat × Nat × Sd :=
  if S.used < S.upto then (S.used + 1,0,⟨S.b,S.used + 1,S.upto,S.inc⟩)
  else if 96≤S.upto then (0,7,S)
  else if S.b.length + (frm (told 1 (min (S.upto + 8) 96))).length≤size then (S.used + 1,0,⟨S.b ++ frm (told 1 (min (S.upto + 8) 96)),S.used + 1,min (S.upto + 8) 96,S.inc⟩)
  else (0,7,S)
def bumpD (size : Nat) (S : Sd) : Nat × Nat × Sd :=
  if 1099511627776≤S.inc then (0,7,S)
  else if S.b.length + (frm (told 2 (S.inc + 1))).length≤size then (S.inc + 1,0,⟨S.b ++ frm (told 2 (S.inc + 1)),S.used,S.upto,S.inc + 1⟩)
  else (0,7,S)
def NumOp (w : World) (F : Nat→Prop) (b g size : Nat) (E : Value) (r : Nat × Nat × Sd) (e : Ending) (w' : World) : Prop:=e = .returned (.tuple #[.int .i64 (r.1 : Nat),.int .i64 (r.2.1 : Nat)])∧StoOp w F b g size r.2.2 E w'
theorem next_nil (w : World) :
    Calls Tryz.prog 14 #[.pointer none] w fun e w'=>e = .returned (.tuple #[.int .i64 0,.int .i64 1])∧Below w.heap.size w w':=by
  have k0:=(Blk.new w 27 #[.int .i64 0]).set_ 0 (.int .i64 1);have c0 : World.cell? _ _ = some (.int .i64 1):=k0.cell 0;have f0:=(Blk.new w 27 #[.int .i64 0]).free 0;have hbw : Below w.heap.size w (w.alloc (.cells #[.int .i64 1] 27)):=(Below.refl _ _).alloc (Nat.le_refl _) _;have HB:=Lib.hid hbw;clear hbw k0
  go_enter_defers Tryz.func14,Tryz.ntmps14
  go_wp2_with fail;refine ⟨.tuple #[.int .i64 0,.int .i64 1],by simp [results,Tryz.results14,go_sem,c0],rfl,HB.out⟩
theorem upto_any (b g used u i : Nat) (E : Value) (w : World) (h0 : Blk w b 88 (sc g used u i E)) :
    Calls Tryz.prog 32 #[.pointer (some ⟨b,0,none⟩)] w fun e w'=>e = .returned (.int .i64 (u : Nat))∧w = w':=by
  have c0:=h0.cell 2
  go_enter Tryz.func32,Tryz.ntmps32
  go_wp2_with fail;go_ret;exact ⟨rfl,rfl⟩
end Sto
end Go.Proofs.YtfpenfgmpbdakaaGreat

namespace Go.Proofs.YtfpenfgmpbdakaaGreat
set_option linter.unusedVariables false
set_option linter.unusedSimpArgs false
set_option maxRecDepth 100000
open Go.RowKit
open Disk
namespace Sto
open _root_.Go.Proofs.YtfpenfgmpbdakaaGreat.Log (writeM LogEnd lwrite_any mendM MendEnd lmend_any lread_any ReadL)
open _root_.Go.Proofs.YtfpenfgmpbdakaaGreat.Frame (frm frms frms_nil frms_cons frms_snoc frms_append frm_length frm_pos Parts AllF)
def recsM : Nat × Nat→List (List UInt8)→Option (Nat × Nat)
  | s,[]=>some s
  | s,r :: l=>match recM s r with
    | none=>none
    | some s'=>recsM s' l
theorem recsM_snoc (l : List (List UInt8)) (r : List UInt8) : ∀ s,recsM s (l ++ [r]) = match recsM s l with | none=>none | some s'=>recM s' r:=by
  induction l with
  | nil=>intro s;show (match recM s r with | none=>none | some s'=>some s') = recM s r;cases recM s r <;> rfl
  | cons x l ih =>
    intro s
    show (match recM s x with | none=>none | some s'=>recsM s' (l ++ [r])) = match (match recM s x with | none=>none | some s'=>recsM s' l) with | none=>none | some s'=>recM s' r
    cases h : recM s x with
    | none=>rfl
    | some s'=>exact ih s'
theorem recsM_none (l m : List (List UInt8)) : ∀ s,recsM s l = none→recsM s (l ++ m) = none:=by
  induction l with
  | nil=>intro s h;cases h
  | cons x l ih =>
    intro s h;have h : (match recM s x with | none=>none | some s'=>recsM s' l) = none:=h
    show (match recM s x with | none=>none | some s'=>recsM s' (l ++ m)) = none
    cases e : recM s x with
    | none=>rfl
    | some s'=>rw [e] at h;exact ih s' h
theorem mend_parts {b : List UInt8} {l : List (List UInt8)} {r : List UInt8} (hp : Parts b l r) : mendM b [] l = (0,frms l,[]):=by
  unfold mendM
  have e : readL b [] = b:=rfl;rw [e]
  by_cases h : (frms l).length < b.length
  · rw [if_pos h]
  · rw [if_neg h]
    have h1:=hp.1;have h2:=congrArg List.length h1;rw [List.length_append] at h2;have hr : r = []:=List.eq_nil_of_length_eq_zero (by omega);rw [hr,List.append_nil] at h1;rw [h1]
theorem parts_self {b : List UInt8} {l : List (List UInt8)} {r : List UInt8} (hp : Parts b l r) : Parts (frms l) l []:=⟨by rw [List.append_nil],hp.2.1,3,rfl⟩
theorem parts_le {b : List UInt8} {l : List (List UInt8)} {r : List UInt8} (hp : Parts b l r) : (frms l).length≤b.length∧l.length≤(frms l).length:=by
  obtain ⟨h1,h2,_⟩:=hp;have h3:=congrArg List.length h1;rw [List.length_append] at h3;refine ⟨by omega,?_⟩;clear h1 h2 h3
  induction l with
  | nil=>simp
  | cons x l ih =>
    rw [frms_cons,List.length_append,List.length_cons,frm_length]
    omega
def OpenEnd (w : World) (F : Nat→Prop) (g size : Nat) (lasts : List UInt8) (e : Ending) (w' : World) : Prop :=
  ∃ l r F',Parts lasts l r∧Only F w w'∧Grows F F' w∧match recsM (0,0) l with
    | some (u,i)=>∃ b,e = .returned (.tuple #[.pointer (some ⟨b,0,none⟩),.int .i64 0])∧StoAt w' F' b g size ⟨frms l,u,u,i⟩ (.slice none 0 0)∧w.heap.size≤b
    | none=>e = .returned (.tuple #[.pointer none,.int .i64 4])∧DiskAt w' F' g size (frms l) []
set_option maxHeartbeats 2000000 in
theorem open_any (F : Nat→Prop) (g size : Nat) (lasts : List UInt8) (w : World) (hD : DiskAt w F g size lasts []) (hm : lasts.length≤size) (hs : size≤16384) (h3 : ∀ l r,Parts lasts l r→∀ x ∈ l,x.head? ≠ some 3) :
    Calls Tryz.prog 12 #[.pointer (some ⟨g,0,none⟩)] w (OpenEnd w F g size lasts):=by
  have k0:=Blk.new w 27 #[.int .i64 0];have hbw : Below w.heap.size w (w.alloc (.cells #[.int .i64 0] 27)):=(Below.refl _ _).alloc (Nat.le_refl _) _
  have hsz : w.heap.size < (w.alloc (.cells #[.int .i64 0] 27)).heap.size:=by simp
  have hf : ∀ k,F k→k < w.heap.size:=hD.lt
  have hnF : ¬ F w.heap.size:=fun q=>by have:=hf _ q;omega
  have d0:=hD.below hbw
  go_enter_defers Tryz.func12,Tryz.ntmps12
  go_wp2_with fail
  generalize w.alloc (.cells #[.int .i64 0] 27) = w0 at *
  refine (lmend_any F g size lasts [] _ d0 (by simp [mass];omega) (by simp) hs (by show lasts.length≤_;omega)).mono ?_;rintro e w1 ⟨l,r,hp,q1⟩;have hp : Parts lasts l r:=hp;have h3l:=h3 l r hp;have hpl:=parts_le hp
  unfold LogEnd at q1
  rw [mend_parts hp] at q1;obtain ⟨rfl,q1⟩:=q1;have k1:=q1.kept k0 hnF;obtain ⟨F1,d1,o1,g1⟩:=q1;have HP:=Lib.hid hp;have H3:=Lib.hid h3l
  have hnF1 : ¬ F1 w.heap.size:=fun q=>by
    rcases g1 _ q with x | x
    · exact hnF x
    · omega
  clear hp h3l h3 d0 k0 hD
  go_upto_region 6 with fail
  -- the store's own block
  refine nameW ?_;intro W hW;obtain ⟨b,hb⟩ : ∃ b,b = w1.heap.size:=⟨_,rfl⟩
  have kb : Blk W b 88 (sc g 0 0 0 (.slice none 0 0)):=by rw [hW,hb];exact Blk.new w1 _ _
  have bW : Below w1.heap.size w1 W:=by rw [hW];exact (Below.refl _ _).alloc (Nat.le_refl _) _
  have d2:=d1.below bW;have k2:=k1.below bW k1.lt;have hlb : b < W.heap.size:=kb.lt
  have hbn : b ≠ w.heap.size:=by have:=k1.lt;omega
  have hbF : ¬ F1 b:=fun q=>by have:=d1.lt _ q;omega
  rw [← hb];have HB:=Lib.hid hb;have k1':=k1;clear hW hb d1 k1;go_wp2_with fail;refine (lread_any F1 g size (frms l) [] _ d2 (by simp [mass];omega) (by simp)).mono ?_;rintro e w3 ⟨l',r',A3,c3,hp3,rfl,bo3,b3⟩;have hp3 : Parts (frms l) l' r':=hp3;obtain ⟨rfl,rfl⟩:=(parts_self HP.out).same hp3;have d3:=d2.below b3;have k3:=k2.below b3 k2.lt;have kb3:=kb.below b3 kb.lt;have hl3:=bo3.len
  have hsmall : l.length≤100000:=by have:=hpl;omega
  have hpx:=HP.out.2.1;have oA : Only F w w3:=(((Only.of_below F hbw).trans o1 (Grows.refl _ _)).then_below (bW.mono (by have:=k1'.lt;omega))).then_below (b3.mono (by have:=k1'.lt;have:=bW.size;omega));have hb4 : ∀ x ∈ l,x.length≤4096:=hpx;have HX:=Lib.hid hb4;have HOA:=Lib.hid oA
  have hG1 : Grows F F1 w:=fun k hk=>(g1 k hk).imp id fun q=>Nat.le_trans hbw.size q
  have HG1:=Lib.hid hG1;clear hp3 d2 k2 kb hb4 oA g1 hG1 hl3 hpx o1 hp hpl;obtain ⟨lb,hlb2⟩ : ∃ lb,lb = W.heap.size:=⟨_,rfl⟩;rw [← hlb2] at bo3 hlb
  have hwb : w.heap.size≤b:=by have:=HB.out;have:=k1'.lt;omega
  clear hlb2 bW b3 k1';go_wp2_with fail
  go_loopw [25] (fun i wr=>∃ (k u v : Nat),k≤l.length∧i = .int .i64 (k : Nat)∧recsM (0,0) (l.take k) = some (u,v)∧Blk wr b 88 (sc g 0 u v (.slice none 0 0))∧Only (fun k=>k = b) w3 wr) (fun i _=>l.length - (intOf i).toNat)
  case atStart=>exact ⟨0,0,0,by omega,rfl,rfl,kb3,Only.refl _ _⟩
  case round =>
    clear kb3;obtain ⟨k,u,v,hk,rfl,hr,kb,o⟩:=hrel;have kE:=k3.only o (fun q=>hbn q.symm);have dE:=d3.keep (o.keeps (fun k hk q=>hbF (by rw [← q];exact hk)) d3.lt);have oE : Only F w wr:=HOA.out.trans o (fun k hk=>.inr (by omega))
    by_cases hlt : k < l.length
    · obtain ⟨a,D,m,c,hA,hab,hcell,hrd,hmc,hcm⟩:=(_root_.Go.Proofs.YtfpenfgmpbdakaaGreat.Log.Bods.only bo3 o (fun k hk=>by omega)).rd.at_ hlt
      subst hA
      have hm4 : m≤4096:=by have:=HX.out _ (List.getElem_mem hlt);have:=hrd.1;omega
      have hsn:=take_snoc l hlt
      have hread:=fun (w' : World) (h : Blk w' b 88 (sc g 0 u v (.slice none 0 0))) (h2 : RdB w' wr.heap.size D m l[k]) (h4 : wr.heap.size≤w'.heap.size)=>read_any b g 0 u v (.slice none 0 0) D m c l[k] wr.heap.size w' h h2 h4 (by omega) hmc hcm (H3.out _ (List.getElem_mem hlt))
      have hr2 : recsM (0,0) (l.take (k + 1)) = recM (u,v) l[k]:=by rw [hsn,recsM_snoc,hr]
      have hcut : recsM (0,0) (l.take (k + 1)) = none→recsM (0,0) l = none:=fun h=>by
        have:=recsM_none (l.take (k + 1)) (l.drop (k + 1)) (0,0) h
        rwa [List.take_append_drop] at this
      rw [hr2] at hcut
      generalize l[k] = rk at *
      have HRD:=Lib.hid hread;have HR2:=Lib.hid hr2;have HCU:=Lib.hid hcut;have HE:=Lib.hid (And.intro kE (And.intro dE oE));have HO:=Lib.hid o;have HRB:=Lib.hid hrd;obtain ⟨kk,hkk⟩ : ∃ kk,kk = l.length:=⟨_,rfl⟩;rw [← hkk] at hlt ⊢;have HKK:=Lib.hid hkk;have HKB:=Lib.hid kb
      have hk0 : (0 : Int)≤(k : Int):=by omega
      have hkm : (k : Int) < (kk : Int):=by omega
      have hkx : k≤100000:=by omega
      clear hread hr hr2 hcut kE dE oE o hrd hkk kb hsn d3 k3 bo3;go_wp2_with fail;refine (HRD.out _ (by exact HKB.out) (by exact HRB.out) (by exact Nat.le_refl _)).mono ?_;rintro e w4 ⟨g4,q4⟩;have o4 : Only (fun k=>k = b) w3 w4:=HO.out.trans (Only.of_grown (F:=fun k=>k = b) g4 rfl) (Grows.refl _ _);have o5 : Only (fun k=>k = b) wr w4:=Only.of_grown g4 rfl
      rcases hrc : recM (u,v) rk with _ | ⟨u',v'⟩
      · rw [hrc] at q4
        simp only at q4
        subst q4;have hno:=HCU.out hrc;have HNO:=Lib.hid hno;have kE:=HE.out.1.only o5 (fun q=>hbn q.symm);have dE:=HE.out.2.1.keep (o5.keeps (fun k hk q=>hbF (by rw [← q];exact hk)) HE.out.2.1.lt);have oE : Only F w w4:=HE.out.2.2.trans o5 (fun k hk=>.inr (by omega));clear hno hrc;go_wp2_with fail;refine leaves_cons (f:=38) (args:=#[.pointer (some ⟨w.heap.size,0,none⟩)]) (by simp) (by simp [go_sem]) ?_;refine (caught_panic _ _ _ _ _ (kE.cell 0) (kE.free 0)).mono ?_;rintro e u' w'' ⟨rfl,rfl,rfl⟩;have k9:=(kE.alloc (.cells #[.int .i64 4] 113)).set_ 0 (.int .i64 4);have c9 : World.cell? _ _ = some (.int .i64 4):=k9.cell 0;have o9:=(oE.alloc (.cells #[.int .i64 4] 113)).setCell (p:=⟨w.heap.size,0,none⟩) (.inr (Nat.le_refl _)) (.int .i64 4);have d9:=(dE.below ((Below.refl _ _).alloc (Nat.le_refl _) (.cells #[.int .i64 4] 113))).keep ⟨by simp [World.setCell],fun k hk=>Below.heap_setCell _ ⟨w.heap.size,0,none⟩ (.int .i64 4) k (fun e=>hnF1 (by have e : k = w.heap.size:=e;rw [← e];exact hk))⟩;refine ⟨.tuple #[.pointer none,.int .i64 4],by simp [results,Tryz.results12,go_sem,c9],?_⟩;refine ⟨l,r,F1,HP.out,o9,HG1.out,?_⟩;rw [HNO.out];exact ⟨rfl,d9⟩
      · rw [hrc] at q4
        simp only at q4
        obtain ⟨rfl,kb4⟩:=q4;have HRC:=Lib.hid hrc;clear hrc;go_wp2_with fail
        go_roundw
        case rel=>exact ⟨k + 1,u',v',by omega,by go_num,by rw [HR2.out,HRC.out],kb4,o4⟩
        case measure=>simp [intOf];omega
    · obtain rfl : k = l.length:=by omega
      rw [List.take_length] at hr;have HR:=Lib.hid hr;have hkd : decide ((l.length : Int) < (l.length : Int)) = false:=decide_eq_false (by omega);have c2 : wr.cell? ⟨b,2,none⟩ = some (.int .i64 (u : Nat)):=kb.cell 2;have c1 : wr.cell? ⟨b,1,none⟩ = some (.int .i64 0):=kb.cell 1;have z0 : wr.cell? ⟨w.heap.size,0,none⟩ = some (.int .i64 0):=kE.cell 0;have z1 : wr.frozen? ⟨w.heap.size,0,none⟩ = false:=kE.free 0;have k5:=kb.set_ 1 (.int .i64 (u : Nat));have kE5:=kE.far (p:=⟨b,1,none⟩) (fun q=>hbn q.symm) (.int .i64 (u : Nat));have f0:=kE5.free 0;have f1:=kb.free 1;have HE:=Lib.hid (And.intro kE5 (And.intro dE (And.intro oE k5)));clear kE dE oE k5 kE5 hr kb bo3 d3 k3 o;go_wp2_with fail;have c4 : World.cell? _ _ = some (.int .i64 0):=(HE.out.1.set_ 0 (.int .i64 0)).cell 0;refine leaves_cons (f:=38) (args:=#[.pointer (some ⟨w.heap.size,0,none⟩)]) (by simp) (by simp [go_sem]) ?_;refine (caught_none _ _).mono ?_;rintro e u' w'' ⟨rfl,rfl,rfl⟩;refine ⟨.tuple #[.pointer (some ⟨b,0,none⟩),.int .i64 0],by simp [results,Tryz.results12,go_sem,c4],?_⟩;have o9:=(HE.out.2.2.1.setCell (p:=⟨b,1,none⟩) (.inr hwb) (.int .i64 (u : Nat))).setCell (p:=⟨w.heap.size,0,none⟩) (.inr (Nat.le_refl _)) (.int .i64 0);have d8:=HE.out.2.1.keep ⟨by simp [World.setCell],fun k hk=>Below.heap_setCell wr ⟨b,1,none⟩ (.int .i64 (u : Nat)) k (fun e=>hbF (by have e : k = b:=e;rw [← e];exact hk))⟩;have d9:=d8.keep ⟨by simp [World.setCell],fun k hk=>Below.heap_setCell _ ⟨w.heap.size,0,none⟩ (.int .i64 0) k (fun e=>hnF1 (by have e : k = w.heap.size:=e;rw [← e];exact hk))⟩
      have k9:=HE.out.2.2.2.far (p:=⟨w.heap.size,0,none⟩) (by show b ≠ w.heap.size;exact hbn) (.int .i64 0);refine ⟨l,r,F1,HP.out,o9,HG1.out,?_⟩;rw [HR.out];exact ⟨b,rfl,⟨d9,k9,hbF⟩,hwb⟩
end Sto
end Go.Proofs.YtfpenfgmpbdakaaGreat

namespace Go.Proofs.YtfpenfgmpbdakaaGreat
set_option linter.unusedVariables false
set_option linter.unusedSimpArgs false
set_option maxRecDepth 100000
open Go.RowKit
open Dot Evt
open Disk
namespace Sto.Stp
open _root_.Go.Proofs.YtfpenfgmpbdakaaGreat.Log (writeM LogEnd lwrite_any mendM MendEnd lmend_any lread_any ReadL)
open _root_.Go.Proofs.YtfpenfgmpbdakaaGreat.Frame (frm frms frms_nil frms_cons frms_snoc frms_append frm_length frm_pos Parts AllF)
structure RS where
  u : Nat
  i : Nat
  l : List Ev
def recE (s : RS) : List UInt8→Option RS
  | []=>none
  | k :: t=>if k = 3 then (if (getEv t).2 = 0 then some ⟨s.u,s.i,addE s.l (getEv t).1⟩ else none) else (recM (s.u,s.i) (k :: t)).map fun q=>⟨q.1,q.2,s.l⟩
theorem recE_cons (s : RS) (k : UInt8) (t : List UInt8) : recE s (k :: t) = if k = 3 then (if (getEv t).2 = 0 then some ⟨s.u,s.i,addE s.l (getEv t).1⟩ else none) else (recM (s.u,s.i) (k :: t)).map fun q=>⟨q.1,q.2,s.l⟩:=rfl
theorem addE_len (l : List Ev) (x : Ev) : (addE l x).length≤l.length + 1:=by unfold addE;split <;> simp
theorem recE_len {s s' : RS} {bs : List UInt8} (h : recE s bs = some s') : s'.l.length≤s.l.length + 1:=by
  rcases bs with _ | ⟨k,t⟩
  · cases h
  · rw [recE_cons] at h
    split at h
    · split at h
      · injection h with h
        subst h;exact addE_len _ _
      · cases h
    · cases hr : recM (s.u,s.i) (k :: t) with
      | none=>rw [hr] at h;cases h
      | some q =>
        rw [hr] at h
        simp only [Option.map_some,Option.some.injEq] at h
        subst h;exact Nat.le_succ _
def recsE : RS→List (List UInt8)→Option RS
  | s,[]=>some s
  | s,r :: l=>match recE s r with
    | none=>none
    | some s'=>recsE s' l
theorem recsE_snoc (l : List (List UInt8)) (r : List UInt8) : ∀ s,recsE s (l ++ [r]) = match recsE s l with | none=>none | some s'=>recE s' r:=by
  induction l with
  | nil=>intro s;show (match recE s r with | none=>none | some s'=>some s') = recE s r;cases recE s r <;> rfl
  | cons x l ih =>
    intro s
    show (match recE s x with | none=>none | some s'=>recsE s' (l ++ [r])) = match (match recE s x with | none=>none | some s'=>recsE s' l) with | none=>none | some s'=>recE s' r
    cases h : recE s x with
    | none=>rfl
    | some s'=>exact ih s'
theorem recsE_none (l m : List (List UInt8)) : ∀ s,recsE s l = none→recsE s (l ++ m) = none:=by
  induction l with
  | nil=>intro s h;cases h
  | cons x l ih =>
    intro s h;have h : (match recE s x with | none=>none | some s'=>recsE s' l) = none:=h
    show (match recE s x with | none=>none | some s'=>recsE s' (l ++ m)) = none
    cases e : recE s x with
    | none=>rfl
    | some s'=>rw [e] at h;exact ih s' h
def Mem (w : World) (F : Nat→Prop) (b g used base : Nat) (s : RS) (A : Option Addr) (w' : World) : Prop :=
  ∃ A' n' c' xs',Blk w' b 88 (sc g used s.u s.i (.slice A' n' c'))∧EvsAt w' F b base A' n' c' xs'∧xs'.map (·.e) = s.l∧(∀ k,A'.map (·.block) = some k→A.map (·.block) = some k∨w.heap.size≤k)
def ReadEnd (w : World) (F : Nat→Prop) (b g used base : Nat) (A : Option Addr) (o : Option RS) (e : Ending) (w' : World) : Prop :=
  Only (fun k=>k = b∨A.map (·.block) = some k) w w'∧match o with
    | some s=>e = .returned (.tuple #[])∧Mem w F b g used base s A w'
    | none=>e = .panicked [{ v:=flt 4,recovered:=false }]
theorem read_all (F : Nat→Prop) (b g used base : Nat) (s : RS) (Ae : Option Addr) (ne qe : Nat) (xs : List EvV) (A : Option Addr) (n c : Nat) (bs : List UInt8) (B : Nat) (w : World) (h0 : Blk w b 88 (sc g used s.u s.i (.slice Ae ne qe))) (he : EvsAt w F b base Ae ne qe xs) (hxs : xs.map (·.e) = s.l) (hF : ∀ k,F k→k < w.heap.size) (hba : base≤w.heap.size) (hne : ne≤100000) (hb : RdB w B A n bs) (hB : B≤w.heap.size) (hl : n≤1000000000) (hc : n≤c) (hm : c≤maxLen) :
    Calls Tryz.prog 41 #[.pointer (some ⟨b,0,none⟩),.slice A n c] w (ReadEnd w F b g used base Ae (recE s bs)):=by
  by_cases h3 : bs.head? = some 3
  · rcases bs with _ | ⟨kd,t⟩
    · cases h3
    obtain rfl : kd = 3:=by injection h3
    obtain ⟨a,rfl,_,_⟩:=hb.at_ (k:=0) (by simp);rw [recE_cons,if_pos rfl];refine (read3_any F b g used s.u s.i base Ae ne qe xs a n c t B w h0 he hF hba hne hb hB hl hc hm).mono ?_;rintro e w' h
    rcases HapE.split h with ⟨h1,h2,rfl⟩ | ⟨h1,h2,rfl,A',n',c',xs',h4,h5,h6,h7⟩
    · rw [if_neg h1]
      exact ⟨h2,rfl⟩
    · rw [if_pos h1]
      exact ⟨h2,rfl,A',n',c',xs',h4,h5,by rw [h6,hxs],h7⟩
  · have hr : recE s bs = (recM (s.u,s.i) bs).map fun q=>(⟨q.1,q.2,s.l⟩ : RS):=by
      rcases bs with _ | ⟨kd,t⟩
      · rfl
      · rw [recE_cons,if_neg (fun e=>h3 (by rw [e];rfl))]
    rw [hr];refine (read_any b g used s.u s.i (.slice Ae ne qe) A n c bs B w h0 hb hB (by omega) hc hm h3).mono ?_;rintro e w' ⟨h1,h2⟩;refine ⟨Only.of_grown h1 (.inl rfl),?_⟩
    cases hq : recM (s.u,s.i) bs with
    | none=>rw [hq] at h2;exact h2
    | some q =>
      rw [hq] at h2;obtain ⟨h4,h5⟩:=h2;exact ⟨h4,Ae,ne,qe,xs,h5,he.only (Only.of_grown (F:=fun k=>k = b) h1 rfl) (Grows.refl _ _) (fun k hk=>.inr (.inl hk)),hxs,fun k hk=>.inl hk⟩
def OpenE (w : World) (F : Nat→Prop) (g size : Nat) (lasts : Db) (e : Ending) (w' : World) : Prop :=
  ∃ l r F',Parts lasts.v l r∧Only F w w'∧Grows F F' w∧match recsE ⟨0,0,[]⟩ l with
    | some s=>∃ b A n c xs,e = .returned (.tuple #[.pointer (some ⟨b,0,none⟩),.int .i64 0])∧StoAt w' F' b g size ⟨mendD lasts l,s.u,s.u,s.i⟩ (.slice A n c)∧EvsAt w' F' b w.heap.size A n c xs∧xs.map (·.e) = s.l∧w.heap.size≤b
    | none=>e = .returned (.tuple #[.pointer none,.int .i64 4])∧DiskD w' F' g size (mendD lasts l)
def OpR (w3 : World) (F : Nat→Prop) (b g base : Nat) (s : RS) (wr : World) : Prop :=
  (∃ A n c xs,Blk wr b 88 (sc g 0 s.u s.i (.slice A n c))∧EvsAt wr F b base A n c xs∧xs.map (·.e) = s.l∧(∀ k,A.map (·.block) = some k→w3.heap.size≤k))∧Only (fun k=>k = b) w3 wr
set_option maxHeartbeats 2000000 in
theorem opene_any (F : Nat→Prop) (g size : Nat) (lasts : Db) (w : World) (hD : DiskD w F g size lasts) (hm : lasts.length≤size) (hs : size≤16384) :
    Calls Tryz.prog 12 #[.pointer (some ⟨g,0,none⟩)] w (OpenE w F g size lasts):=by
  have k0:=Blk.new w 27 #[.int .i64 0];have hbw : Below w.heap.size w (w.alloc (.cells #[.int .i64 0] 27)):=(Below.refl _ _).alloc (Nat.le_refl _) _
  have hsz : w.heap.size < (w.alloc (.cells #[.int .i64 0] 27)).heap.size:=by simp
  have hf : ∀ k,F k→k < w.heap.size:=hD.lt
  have hnF : ¬ F w.heap.size:=fun q=>by have:=hf _ q;omega
  have d0:=hD.below hbw
  go_enter_defers Tryz.func12,Tryz.ntmps12
  go_wp2_with fail
  generalize w.alloc (.cells #[.int .i64 0] 27) = w0 at *
  refine (lmendD_any F g size lasts _ d0 hs (by omega)).mono ?_;rintro e w1 ⟨l,r,hp,q1⟩;have hp : Parts lasts.v l r:=hp;have hpl : (frms l).length≤lasts.length∧l.length≤(frms l).length:=parts_le hp;obtain ⟨rfl,q1⟩:=q1;have k1:=q1.kept k0 hnF;obtain ⟨F1,d1,o1,g1⟩:=q1;have HP:=Lib.hid hp
  have hnF1 : ¬ F1 w.heap.size:=fun q=>by
    rcases g1 _ q with x | x
    · exact hnF x
    · omega
  clear hp d0 k0 hD
  go_upto_region 6 with fail
  -- the store's own block
  refine nameW ?_;intro W hW;obtain ⟨b,hb⟩ : ∃ b,b = w1.heap.size:=⟨_,rfl⟩
  have kb : Blk W b 88 (sc g 0 0 0 (.slice none 0 0)):=by rw [hW,hb];exact Blk.new w1 _ _
  have bW : Below w1.heap.size w1 W:=by rw [hW];exact (Below.refl _ _).alloc (Nat.le_refl _) _
  have d2:=d1.below bW;have k2:=k1.below bW k1.lt;have hlb : b < W.heap.size:=kb.lt
  have hbn : b ≠ w.heap.size:=by have:=k1.lt;omega
  have hbF : ¬ F1 b:=fun q=>by have:=d1.lt _ q;omega
  rw [← hb];have HB:=Lib.hid hb;have k1':=k1;clear hW hb d1 k1;go_wp2_with fail;refine (lreadD_any F1 g size (mendD lasts l) _ d2).mono ?_;rintro e w3 ⟨l',r',A3,c3,hp3,rfl,bo3,b3⟩
  have hp3 : Parts (frms l) l' r':=by rw [mend_v HP.out] at hp3;exact hp3
  obtain ⟨rfl,rfl⟩:=(parts_self HP.out).same hp3;have d3:=d2.below b3;have k3:=k2.below b3 k2.lt;have kb3:=kb.below b3 kb.lt;have hl3:=bo3.len
  have hsmall : l.length≤100000:=by have:=hpl;omega
  have hpx:=HP.out.2.1;have oA : Only F w w3:=(((Only.of_below F hbw).trans o1 (Grows.refl _ _)).then_below (bW.mono (by have:=k1'.lt;omega))).then_below (b3.mono (by have:=k1'.lt;have:=bW.size;omega));have hb4 : ∀ x ∈ l,x.length≤4096:=hpx;have HX:=Lib.hid hb4;have HOA:=Lib.hid oA
  have hG1 : Grows F F1 w:=fun k hk=>(g1 k hk).imp id fun q=>Nat.le_trans hbw.size q
  have HG1:=Lib.hid hG1;clear hp3 d2 k2 kb hb4 oA g1 hG1 hl3 hpx o1 hp hpl;obtain ⟨lb,hlb2⟩ : ∃ lb,lb = W.heap.size:=⟨_,rfl⟩;rw [← hlb2] at bo3 hlb
  have hwb : w.heap.size≤b:=by have:=HB.out;have:=k1'.lt;omega
  clear hlb2 bW b3 k1';go_wp2_with fail
  go_loopw [25] (fun i wr=>∃ (k : Nat) (s : RS),k≤l.length∧i = .int .i64 (k : Nat)∧recsE ⟨0,0,[]⟩ (l.take k) = some s∧s.l.length≤k∧OpR w3 F1 b g w.heap.size s wr) (fun i _=>l.length - (intOf i).toNat)
  case atStart=>exact ⟨0,⟨0,0,[]⟩,by omega,rfl,rfl,Nat.le_refl _,⟨none,0,0,[],kb3,⟨OwnEv.nil _ _,fun x hx=>(by simp at hx),fun k hk=>(by cases hk),fun x hx=>(by simp at hx)⟩,rfl,fun k hk=>(by cases hk)⟩,Only.refl _ _⟩
  case round =>
    clear kb3;obtain ⟨k,s,hk,rfl,hr,hsl,⟨Ae,ne,qe,xs,kb,hev,hxs,hAe⟩,o⟩:=hrel;have kE:=k3.only o (fun q=>hbn q.symm);have dE:=d3.keep (o.keeps (fun k hk q=>hbF (by rw [← q];exact hk)) d3.lt);have oE : Only F w wr:=HOA.out.trans o (fun k hk=>.inr (by omega))
    by_cases hlt : k < l.length
    · obtain ⟨a,D,m,c,hA,hab,hcell,hrd,hmc,hcm⟩:=(_root_.Go.Proofs.YtfpenfgmpbdakaaGreat.Log.Bods.only bo3 o (fun k hk=>by omega)).rd.at_ hlt
      subst hA
      have hm4 : m≤4096:=by have:=HX.out _ (List.getElem_mem hlt);have:=hrd.1;omega
      have hsn:=take_snoc l hlt
      have hne : ne≤100000:=by have h1:=hev.row.1;have h2:=congrArg List.length hxs;rw [List.length_map] at h2;omega
      have hba : w.heap.size≤wr.heap.size:=by have:=o.size;have:=HOA.out.size;omega
      have hread:=read_all F1 b g 0 w.heap.size s Ae ne qe xs D m c l[k] wr.heap.size wr kb hev hxs dE.lt hba hne hrd (Nat.le_refl _) (by omega) hmc hcm
      have hr2 : recsE ⟨0,0,[]⟩ (l.take (k + 1)) = recE s l[k]:=by rw [hsn,recsE_snoc,hr]
      have hcut : recsE ⟨0,0,[]⟩ (l.take (k + 1)) = none→recsE ⟨0,0,[]⟩ l = none:=fun h=>by
        have:=recsE_none (l.take (k + 1)) (l.drop (k + 1)) ⟨0,0,[]⟩ h
        rwa [List.take_append_drop] at this
      rw [hr2] at hcut
      generalize l[k] = rk at *
      have HRD:=Lib.hid hread;have HR2:=Lib.hid hr2;have HCU:=Lib.hid hcut;have HE:=Lib.hid (And.intro k3 (And.intro d3 HOA.out));have HO:=Lib.hid o
      have hsl2:=fun (s' : RS) (h : recE s rk = some s')=>recE_len h
      have HSL:=Lib.hid (And.intro hsl hsl2);have HAE:=Lib.hid hAe;obtain ⟨kk,hkk⟩ : ∃ kk,kk = l.length:=⟨_,rfl⟩;rw [← hkk] at hlt ⊢;have HKK:=Lib.hid hkk
      have hk0 : (0 : Int)≤(k : Int):=by omega
      have hkm : (k : Int) < (kk : Int):=by omega
      have hkx : k≤100000:=by omega
      clear hread hr hr2 hcut kE dE oE o hrd hkk kb hsn d3 k3 bo3 hsl hsl2 hAe hev hxs hne hba;go_wp2_with fail;refine HRD.out.mono ?_;rintro e w4 ⟨g4,q4⟩
      have hgr : Grows (fun k=>k = b) (fun k=>k = b∨Ae.map (·.block) = some k) w3:=fun k hk=>hk.imp id (HAE.out k)
      have o4 : Only (fun k=>k = b) w3 w4:=HO.out.trans g4 hgr
      rcases hrc : recE s rk with _ | s'
      · rw [hrc] at q4
        simp only at q4
        subst q4;have hno:=HCU.out hrc;have HNO:=Lib.hid hno;have kE:=HE.out.1.only o4 (fun q=>hbn q.symm);have dE:=HE.out.2.1.keep (o4.keeps (fun k hk q=>hbF (by rw [← q];exact hk)) HE.out.2.1.lt);have oE : Only F w w4:=HE.out.2.2.trans o4 (fun k hk=>.inr (by omega));clear hno hrc;go_wp2_with fail;refine leaves_cons (f:=38) (args:=#[.pointer (some ⟨w.heap.size,0,none⟩)]) (by simp) (by simp [go_sem]) ?_;refine (caught_panic _ _ _ _ _ (kE.cell 0) (kE.free 0)).mono ?_;rintro e u' w'' ⟨rfl,rfl,rfl⟩;have k9:=(kE.alloc (.cells #[.int .i64 4] 113)).set_ 0 (.int .i64 4);have c9 : World.cell? _ _ = some (.int .i64 4):=k9.cell 0;have o9:=(oE.alloc (.cells #[.int .i64 4] 113)).setCell (p:=⟨w.heap.size,0,none⟩) (.inr (Nat.le_refl _)) (.int .i64 4);have d9:=(dE.below ((Below.refl _ _).alloc (Nat.le_refl _) (.cells #[.int .i64 4] 113))).keep ⟨by simp [World.setCell],fun k hk=>Below.heap_setCell _ ⟨w.heap.size,0,none⟩ (.int .i64 4) k (fun e=>hnF1 (by have e : k = w.heap.size:=e;rw [← e];exact hk))⟩;refine ⟨.tuple #[.pointer none,.int .i64 4],by simp [results,Tryz.results12,go_sem,c9],?_⟩;refine ⟨l,r,F1,HP.out,o9,HG1.out,?_⟩;rw [HNO.out];exact ⟨rfl,d9⟩
      · rw [hrc] at q4
        obtain ⟨rfl,A4,n4,c4',xs4,kb4,hev4,hxs4,hA4⟩:=q4;have HRC:=Lib.hid hrc;have HF4:=Lib.hid (fun (k : Nat) (hk : A4.map (·.block) = some k)=>(hA4 k hk).elim (HAE.out k) (fun q=>Nat.le_trans HO.out.size q));clear hrc;go_wp2_with fail
        go_roundw
        case rel=>exact ⟨k + 1,s',by omega,by go_num,by rw [HR2.out,HRC.out],by have h1:=HSL.out.1;have h2:=HSL.out.2 _ HRC.out;omega,⟨A4,n4,c4',xs4,kb4,hev4,hxs4,HF4.out⟩,o4⟩
        case measure=>simp [intOf];omega
    · obtain rfl : k = l.length:=by omega
      rw [List.take_length] at hr;have HR:=Lib.hid hr;have hkd : decide ((l.length : Int) < (l.length : Int)) = false:=decide_eq_false (by omega);have c2 : wr.cell? ⟨b,2,none⟩ = some (.int .i64 (s.u : Nat)):=kb.cell 2;have c1 : wr.cell? ⟨b,1,none⟩ = some (.int .i64 0):=kb.cell 1;have z0 : wr.cell? ⟨w.heap.size,0,none⟩ = some (.int .i64 0):=kE.cell 0;have z1 : wr.frozen? ⟨w.heap.size,0,none⟩ = false:=kE.free 0;have k5:=kb.set_ 1 (.int .i64 (s.u : Nat));have kE5:=kE.far (p:=⟨b,1,none⟩) (fun q=>hbn q.symm) (.int .i64 (s.u : Nat));have f0:=kE5.free 0;have f1:=kb.free 1;have hev5 : EvsAt (wr.setCell ⟨b,1,none⟩ (.int .i64 (s.u : Nat))) F1 b w.heap.size Ae ne qe xs:=hev.setT kb (by decide) (by decide) _ _;have HE:=Lib.hid (And.intro kE5 (And.intro dE (And.intro oE k5)));have HEV:=Lib.hid hev5;clear kE dE oE k5 kE5 hr kb bo3 d3 k3 o hev hev5 hsl hAe;go_wp2_with fail;have c4 : World.cell? _ _ = some (.int .i64 0):=(HE.out.1.set_ 0 (.int .i64 0)).cell 0;refine leaves_cons (f:=38) (args:=#[.pointer (some ⟨w.heap.size,0,none⟩)]) (by simp) (by simp [go_sem]) ?_;refine (caught_none _ _).mono ?_;rintro e u' w'' ⟨rfl,rfl,rfl⟩;refine ⟨.tuple #[.pointer (some ⟨b,0,none⟩),.int .i64 0],by simp [results,Tryz.results12,go_sem,c4],?_⟩;have o9:=(HE.out.2.2.1.setCell (p:=⟨b,1,none⟩) (.inr hwb) (.int .i64 (s.u : Nat))).setCell (p:=⟨w.heap.size,0,none⟩) (.inr (Nat.le_refl _)) (.int .i64 0);have d8:=HE.out.2.1.keep ⟨by simp [World.setCell],fun k hk=>Below.heap_setCell wr ⟨b,1,none⟩ (.int .i64 (s.u : Nat)) k (fun e=>hbF (by have e : k = b:=e;rw [← e];exact hk))⟩
      have d9:=d8.keep ⟨by simp [World.setCell],fun k hk=>Below.heap_setCell _ ⟨w.heap.size,0,none⟩ (.int .i64 0) k (fun e=>hnF1 (by have e : k = w.heap.size:=e;rw [← e];exact hk))⟩;have k9:=HE.out.2.2.2.far (p:=⟨w.heap.size,0,none⟩) (by show b ≠ w.heap.size;exact hbn) (.int .i64 0);refine ⟨l,r,F1,HP.out,o9,HG1.out,?_⟩;rw [HR.out];exact ⟨b,Ae,ne,qe,xs,rfl,⟨d9,k9,hbF⟩,HEV.out.setT HE.out.1 (by decide) (by decide) _ _,hxs,hwb⟩
end Sto.Stp
end Go.Proofs.YtfpenfgmpbdakaaGreat

namespace Go.Proofs.YtfpenfgmpbdakaaGreat
set_option linter.unusedVariables false
set_option linter.unusedSimpArgs false
set_option maxRecDepth 100000
open Go.RowKit
open Dot Evt
open Disk
namespace Sto.Stp
open _root_.Go.Proofs.YtfpenfgmpbdakaaGreat.Log (writeM LogEnd lwrite_any rewriteM lrewrite_any)
open _root_.Go.Proofs.YtfpenfgmpbdakaaGreat.Frame (frm frms frms_nil frms_cons frms_snoc frms_append frm_length frm_pos Parts AllF)
def goodTo (l : List Ev) (k : Nat) : Prop:=∀ i x,i < k→l[i]? = some x→rightE x = true∧hasE (l.take i) x.d = false
def recsC (S : Sd) (l : List Ev) : List (List UInt8):=told 1 S.upto :: told 2 S.inc :: l.map told3
open Classical in
noncomputable def compactD (size : Nat) (S : Sd) (evs l : List Ev) : Nat × Sd × List Ev :=
  if goodTo l l.length then (if (frms (recsC S l)).length≤size then (0,{ S with b:=Db.of (frms (recsC S l)) },l) else (7,S,evs)) else (2,S,evs)
theorem rowTake {w : World} {B : Nat} {A : Option Addr} {n : Nat} {xs : List EvV} (h : RowEv w B A n xs) {k : Nat} (hk : k≤n) : RowEv w B A k (xs.take k):=⟨by rw [List.length_take,← h.1];omega,fun i x hi=>by
  rw [List.getElem?_take] at hi
  split at hi
  · exact h.2 i x hi
  · cases hi⟩
theorem goodTo.succ {l : List Ev} {k : Nat} (h : goodTo l k) {x : Ev} (hx : l[k]? = some x) (h1 : rightE x = true) (h2 : hasE (l.take k) x.d = false) : goodTo l (k + 1):=fun i y hi hy=>by
  by_cases e : i = k
  · subst e
    rw [hx] at hy
    injection hy with hy
    rw [← hy];exact ⟨h1,h2⟩
  · exact h i y (by omega) hy
theorem compact_bad {size : Nat} {S : Sd} {evs l : List Ev} {k : Nat} {x : Ev} (hx : l[k]? = some x) (h : rightE x = false∨hasE (l.take k) x.d = true) : compactD size S evs l = (2,S,evs):=by
  unfold compactD
  rw [if_neg];intro hg;have h9:=hg k x (List.getElem?_eq_some_iff.1 hx).1 hx
  rcases h with h | h
  · rw [h] at h9;cases h9.1
  · rw [h] at h9;cases h9.2
theorem Bods.two {w : World} {base g : Nat} {e1 e2 : Sl} {x1 x2 : List UInt8} (hk : Blk w g 22 #[sv e1,sv e2]) (hg : base≤g) (h1 : OwnB w base e1.1 e1.2.1 e1.2.2 x1) (h2 : OwnB w base e2.1 e2.2.1 e2.2.2 x2) : Bods w base (some ⟨g,0,none⟩) 2 2 [x1,x2] :=
  ⟨[e1,e2],rfl,rfl,⟨rfl,.inr ⟨g,2,_,rfl,hg,hk,Nat.le_refl _,by unfold maxLen;omega,rfl,rfl⟩⟩,fun j e x q1 q2=>by
    match j,q1,q2 with
    | 0,q1,q2=>injection q1 with q1;injection q2 with q2;rw [← q1,← q2];exact h1
    | 1,q1,q2=>injection q1 with q1;injection q2 with q2;rw [← q1,← q2];exact h2
    | j + 2,q1,q2=>simp at q1⟩
theorem build2B (e1 e2 : Sl) (w : World) : (Instr.buildSlice 89 2 #[(0,sv e1),(1,sv e2)]).run Tryz.prog w = .ok (.slice (some ⟨w.heap.size,0,none⟩) 2 2) (w.alloc (.cells #[sv e1,sv e2] 22)):=by
  obtain ⟨A,n,c⟩:=e1;obtain ⟨A',n',c'⟩:=e2
  unfold sv
  kernel_rfl
set_option maxHeartbeats 8000000 in
theorem compact_any (S : Sd) (F : Nat→Prop) (b g size base : Nat) (A : Option Addr) (n c : Nat) (xs : List EvV) (A2 : Option Addr) (n2 c2 : Nat) (l2 : List EvV) (ws : World) (h : StoAt ws F b g size S (.slice A n c)) (he : EvsAt ws F b base A n c xs)
    (hx : ∀ w',Only (fun k=>F k∨k = b) ws w'→RowEv w' w'.heap.size A2 n2 l2) (hm : ∀ y ∈ l2,y.m≤100000) (hn2 : n2≤100000) (hnc : n2≤c2) (hcm : c2≤maxLen) (hB : base≤ws.heap.size) (hs0 : size≤16384) (hl : S.b.length≤16384) (hu : S.upto≤96) (hi : S.inc≤1099511627776) :
    Calls Tryz.prog 21 #[.pointer (some ⟨b,0,none⟩),.slice A2 n2 c2] ws (KeepEnd ws F b g size base A xs (compactD size S (xs.map (·.e)) (l2.map (·.e)))):=by
  have hlt : b < ws.heap.size:=h.2.1.lt;have hf : ∀ k,F k→k < ws.heap.size:=h.1.lt;obtain ⟨w0,hw0⟩ : ∃ w0,w0 = ws.alloc (.cells #[.int .i64 0] 27):=⟨_,rfl⟩
  have hbw : Below ws.heap.size ws w0:=by rw [hw0];exact (Below.refl _ _).alloc (Nat.le_refl _) _
  have k0 : Blk w0 ws.heap.size 27 #[.int .i64 0]:=by rw [hw0];exact Blk.new ws _ _
  have s0:=SE.start (h.below hbw) (he.below hbw)
  have hnF : ¬ F ws.heap.size:=fun q=>by have:=hf _ q;omega
  have HXO:=Lib.hid hx;have HM:=Lib.hid hm;have hsz : ws.heap.size < w0.heap.size:=k0.lt;have HN2:=Lib.hid (hx ws (Only.refl _ _)).1;have c2' : w0.cell? ⟨b,2,none⟩ = some (.int .i64 (S.upto : Nat)):=s0.sw.blk.cell 2;have c3' : w0.cell? ⟨b,3,none⟩ = some (.int .i64 (S.inc : Nat)):=s0.sw.blk.cell 3;have hlb:=s0.sw.blk.lt
  have HU:=Lib.hid fun (w : World)=>told_lit 1 1 (S.upto : Nat) S.upto rfl rfl (by omega) w
  have HI:=Lib.hid fun (w : World)=>told_lit 2 2 (S.inc : Nat) S.inc rfl rfl hi w
  clear h he hx hm
  go_enter_defers Tryz.func21,Tryz.ntmps21
  go_upto_region 4 with fail
  rw [← hw0];clear hw0;refine wp_region_tailF 9 11 (fun L v w=>v 0 = .pointer (some ⟨b,0,none⟩)∧Below w0.heap.size w0 w∧(L 0 = true→v 11 = .pointer (some ⟨b,0,none⟩))∧(L 1 = true→v 12 = .pointer (some ⟨b,0,none⟩))∧(L 2 = true→v 13 = .pointer (some ⟨b,2,none⟩))∧(L 3 = true→v 14 = .int .i64 (S.upto : Nat))∧(L 4 = true→(∃ A1 n1 c1,v 15 = sv (A1,n1,c1)∧OwnB w w0.heap.size A1 n1 c1 (told 1 S.upto)))∧(L 5 = true→v 16 = .pointer (some ⟨b,0,none⟩))∧(L 6 = true→v 17 = .pointer (some ⟨b,0,none⟩))∧(L 7 = true→v 18 = .pointer (some ⟨b,3,none⟩))∧(L 8 = true→v 19 = .int .i64 (S.inc : Nat))∧(L 9 = true→(∃ A1 n1 c1,v 20 = sv (A1,n1,c1)∧OwnB w w0.heap.size A1 n1 c1 (told 2 S.inc)))∧(L 10 = true→(∃ gB : Nat,v 21 = .slice (some ⟨gB,0,none⟩) 2 2∧Bods w w0.heap.size (some ⟨gB,0,none⟩) 2 2 [told 1 S.upto,told 2 S.inc]))) [11,12,13,14,15,16,17,18,19,20,21] (by kernel_rfl) (by kernel_rfl) (by kernel_rfl) (by kernel_rfl) (by kernel_rfl) (by kernel_rfl) ?h0 ?hst ?hend
  case h0 =>
    intro L h0;have h0 : ∀ i,i < 11→L i = false:=h0;exact ⟨rfl,(Below.refl _ _).drew,offF h0 (i:=0) (by decide),offF h0 (i:=1) (by decide),offF h0 (i:=2) (by decide),offF h0 (i:=3) (by decide),offF h0 (i:=4) (by decide),offF h0 (i:=5) (by decide),offF h0 (i:=6) (by decide),offF h0 (i:=7) (by decide),offF h0 (i:=8) (by decide),offF h0 (i:=9) (by decide),offF h0 (i:=10) (by decide)⟩
  case hst =>
    show FactSteps _ _ _ _ [0,1,2,3,4,5,6,7,8,9,10]
    refine @FactSteps.cons _ _ _ _ 0 _ [] _ rfl (by kernel_rfl) ?s0 ?_;rotate_left;refine @FactSteps.cons _ _ _ _ 1 _ [0] _ rfl (by kernel_rfl) ?s1 ?_;rotate_left;refine @FactSteps.cons _ _ _ _ 2 _ [1] _ rfl (by kernel_rfl) ?s2 ?_;rotate_left;refine @FactSteps.cons _ _ _ _ 3 _ [2] _ rfl (by kernel_rfl) ?s3 ?_;rotate_left;refine @FactSteps.cons _ _ _ _ 4 _ [3] _ rfl (by kernel_rfl) ?s4 ?_;rotate_left;refine @FactSteps.cons _ _ _ _ 5 _ [] _ rfl (by kernel_rfl) ?s5 ?_;rotate_left;refine @FactSteps.cons _ _ _ _ 6 _ [5] _ rfl (by kernel_rfl) ?s6 ?_;rotate_left;refine @FactSteps.cons _ _ _ _ 7 _ [6] _ rfl (by kernel_rfl) ?s7 ?_;rotate_left;refine @FactSteps.cons _ _ _ _ 8 _ [7] _ rfl (by kernel_rfl) ?s8 ?_;rotate_left;refine @FactSteps.cons _ _ _ _ 9 _ [8,4] _ rfl (by kernel_rfl) ?s9 ?_;rotate_left;refine @FactSteps.cons _ _ _ _ 10 _ [4,9] _ rfl (by kernel_rfl) ?s10 ?_;rotate_left;exact FactSteps.nil
    case s0 =>
      rintro L a v w hv hg hL hd hcl ⟨e0,hb,f0,f1,f2,f3,f4,f5,f6,f7,f8,f9,f10⟩ K hK;refine step_do rfl ?_;clear hv;go_simp;exact hK.out _ _ ⟨e0,hb,fun _=>rfl,f1,f2,f3,f4,f5,f6,f7,f8,f9,f10⟩
    case s1 =>
      rintro L a v w hv hg hL hd hcl ⟨e0,hb,f0,f1,f2,f3,f4,f5,f6,f7,f8,f9,f10⟩ K hK;have g0:=f0 (hd 0 (by decide));have g0:=f0 (hd 0 (by decide));refine step_do rfl ?_;clear hv;go_simp;exact hK.out _ _ ⟨e0,hb,f0,fun _=>rfl,f2,f3,f4,f5,f6,f7,f8,f9,f10⟩
    case s2 =>
      rintro L a v w hv hg hL hd hcl ⟨e0,hb,f0,f1,f2,f3,f4,f5,f6,f7,f8,f9,f10⟩ K hK;have g1:=f1 (hd 1 (by decide));have g1:=f1 (hd 1 (by decide));refine step_do rfl ?_;clear hv;go_simp;exact hK.out _ _ ⟨e0,hb,f0,f1,fun _=>rfl,f3,f4,f5,f6,f7,f8,f9,f10⟩
    case s3 =>
      rintro L a v w hv hg hL hd hcl ⟨e0,hb,f0,f1,f2,f3,f4,f5,f6,f7,f8,f9,f10⟩ K hK;have g2:=f2 (hd 2 (by decide));have g2:=f2 (hd 2 (by decide));have cs4 : w.cell? ⟨b,2,none⟩ = some (.int .i64 (S.upto : Nat)):=(hb.cell (p:=⟨b,2,none⟩) hlb).trans c2';refine step_do rfl ?_;clear hv;go_simp;exact hK.out _ _ ⟨e0,hb,f0,f1,f2,fun _=>rfl,f4,f5,f6,f7,f8,f9,f10⟩
    case s4 =>
      rintro L a v w hv hg hL hd hcl ⟨e0,hb,f0,f1,f2,f3,f4,f5,f6,f7,f8,f9,f10⟩ K hK;have g3:=f3 (hd 3 (by decide));have hh:=HU.out w;refine step_do rfl ?_;clear hv;go_simp;refine hh.mono ?_;rintro e wy ⟨A1,n1,c1,rfl,o1,bb⟩;exact hK.out _ _ ⟨e0,(hb.trans (bb.mono hb.size)),f0,f1,f2,f3,fun _=>⟨A1,n1,c1,rfl,o1.mono hb.size⟩,f5,f6,f7,f8,(fun h=>(by obtain ⟨A1,n1,c1,e,o⟩:=f9 h;exact ⟨A1,n1,c1,e,o.below bb (Nat.le_refl _)⟩)),(fun h=>(by obtain ⟨gB,e,o⟩:=f10 h;exact ⟨gB,e,o.below bb (Nat.le_refl _)⟩))⟩
    case s5 =>
      rintro L a v w hv hg hL hd hcl ⟨e0,hb,f0,f1,f2,f3,f4,f5,f6,f7,f8,f9,f10⟩ K hK;refine step_do rfl ?_;clear hv;go_simp;exact hK.out _ _ ⟨e0,hb,f0,f1,f2,f3,f4,fun _=>rfl,f6,f7,f8,f9,f10⟩
    case s6 =>
      rintro L a v w hv hg hL hd hcl ⟨e0,hb,f0,f1,f2,f3,f4,f5,f6,f7,f8,f9,f10⟩ K hK;have g5:=f5 (hd 5 (by decide));have g5:=f5 (hd 5 (by decide));refine step_do rfl ?_;clear hv;go_simp;exact hK.out _ _ ⟨e0,hb,f0,f1,f2,f3,f4,f5,fun _=>rfl,f7,f8,f9,f10⟩
    case s7 =>
      rintro L a v w hv hg hL hd hcl ⟨e0,hb,f0,f1,f2,f3,f4,f5,f6,f7,f8,f9,f10⟩ K hK;have g6:=f6 (hd 6 (by decide));have g6:=f6 (hd 6 (by decide));refine step_do rfl ?_;clear hv;go_simp;exact hK.out _ _ ⟨e0,hb,f0,f1,f2,f3,f4,f5,f6,fun _=>rfl,f8,f9,f10⟩
    case s8 =>
      rintro L a v w hv hg hL hd hcl ⟨e0,hb,f0,f1,f2,f3,f4,f5,f6,f7,f8,f9,f10⟩ K hK;have g7:=f7 (hd 7 (by decide));have g7:=f7 (hd 7 (by decide));have cs4 : w.cell? ⟨b,3,none⟩ = some (.int .i64 (S.inc : Nat)):=(hb.cell (p:=⟨b,3,none⟩) hlb).trans c3';refine step_do rfl ?_;clear hv;go_simp;exact hK.out _ _ ⟨e0,hb,f0,f1,f2,f3,f4,f5,f6,f7,fun _=>rfl,f9,f10⟩
    case s9 =>
      rintro L a v w hv hg hL hd hcl ⟨e0,hb,f0,f1,f2,f3,f4,f5,f6,f7,f8,f9,f10⟩ K hK;have g8:=f8 (hd 8 (by decide));have hh:=HI.out w;refine step_do rfl ?_;clear hv;go_simp;refine hh.mono ?_;rintro e wy ⟨A1,n1,c1,rfl,o1,bb⟩;exact hK.out _ _ ⟨e0,(hb.trans (bb.mono hb.size)),f0,f1,f2,f3,(fun h=>(by obtain ⟨A1,n1,c1,e,o⟩:=f4 h;exact ⟨A1,n1,c1,e,o.below bb (Nat.le_refl _)⟩)),f5,f6,f7,f8,fun _=>⟨A1,n1,c1,rfl,o1.mono hb.size⟩,(fun h=>(by obtain ⟨gB,e,o⟩:=f10 h;exact ⟨gB,e,o.below bb (Nat.le_refl _)⟩))⟩
    case s10 =>
      rintro L a v w hv hg hL hd hcl ⟨e0,hb,f0,f1,f2,f3,f4,f5,f6,f7,f8,f9,f10⟩ K hK;obtain ⟨A1,n1,c1,q4,o1⟩:=f4 (hd 4 (by decide));obtain ⟨A2',n2',c2'',q9,o2⟩:=f9 (hd 9 (by decide));have q4:=(hv 15).trans q4;have q9:=(hv 20).trans q9;have bb : Below w.heap.size w (w.alloc (.cells #[sv (A1,n1,c1),sv (A2',n2',c2'')] 22)):=(Below.refl _ _).alloc (Nat.le_refl _) _;refine step_do rfl ?_;refine step_bs (v:=.slice (some ⟨w.heap.size,0,none⟩) 2 2) (w':=w.alloc (.cells #[sv (A1,n1,c1),sv (A2',n2',c2'')] 22)) 89 2 #[(0,.tmp 15),(1,.tmp 20)] rfl (by simp only [List.map_toArray,List.map_cons,List.map_nil,q4,q9];exact build2B _ _ w) ?_;exact hK.out _ _ ⟨e0,(hb.trans (bb.mono hb.size)),f0,f1,f2,f3,(fun h=>(by obtain ⟨A1,n1,c1,e,o⟩:=f4 h;exact ⟨A1,n1,c1,e,o.below bb (Nat.le_refl _)⟩)),f5,f6,f7,f8,(fun h=>(by obtain ⟨A1,n1,c1,e,o⟩:=f9 h;exact ⟨A1,n1,c1,e,o.below bb (Nat.le_refl _)⟩)),fun _=>⟨w.heap.size,rfl,Bods.two (Blk.new w _ _) hb.size (o1.below bb (Nat.le_refl _)) (o2.below bb (Nat.le_refl _))⟩⟩
  case hend =>
  rintro L v w1 hall ⟨e0,hb,f0,f1,f2,f3,f4,f5,f6,f7,f8,f9,f10⟩;have hL : ∀ i,i < 11→L i = true:=hall;have f0:=f0 (hL 0 (by decide));have f1:=f1 (hL 1 (by decide));have f2:=f2 (hL 2 (by decide));have f3:=f3 (hL 3 (by decide));have f4:=f4 (hL 4 (by decide));have f5:=f5 (hL 5 (by decide));have f6:=f6 (hL 6 (by decide));have f7:=f7 (hL 7 (by decide));have f8:=f8 (hL 8 (by decide));have f9:=f9 (hL 9 (by decide));have f10:=f10 (hL 10 (by decide));obtain ⟨A1x,n1x,c1x,q4,_⟩:=f4;obtain ⟨A2x,n2x,c2x,q9,_⟩:=f9;obtain ⟨gB,q10,ob⟩:=f10
  simp only [finA,List.foldl_cons,List.foldl_nil,Act.put,List.setIfInBounds_toArray,List.set_cons_succ,List.set_cons_zero,f0,f1,f2,f3,f5,f6,f7,f8,q4,q9,q10]
  have HB1:=Lib.hid hb;clear e0 f0 f1 f2 f3 f5 f6 f7 f8 hL hall hb q4 q9 q10
  show wpList _ _ _ [_] _ _
  have HS0:=Lib.hid s0;have HOB:=Lib.hid ob;clear ob s0 c2' c3' hlb HU HI
  unfold sv
  go_wp2_with fail
  go_loopw [5,6,24] (fun s _ i wr=>∃ (k : Nat) (A' : Option Addr) (c' : Nat),k≤n2∧i = .int .i64 (k : Nat)∧s = .slice A' (2 + k) c'∧Bods wr w0.heap.size A' (2 + k) c' (recsC S ((l2.map (·.e)).take k))∧goodTo (l2.map (·.e)) k∧Below w0.heap.size w0 wr) (fun _ _ i _=>n2 - (intOf i).toNat)
  case atStart=>exact ⟨0,_,_,by omega,rfl,rfl,HOB.out,fun i x hi=>by omega,HB1.out⟩
  case round =>
  obtain ⟨k,A',c',hk,rfl,rfl,hob,hgd,bw⟩:=hrel;have HOBk:=Lib.hid hob;have HGD:=Lib.hid hgd;have sr:=HS0.out.below bw;have kr:=k0.below bw k0.lt;have hwr : Below ws.heap.size ws wr:=hbw.trans (bw.mono hbw.size);have HSR:=Lib.hid sr;have HBW:=Lib.hid bw;clear hob hgd sr
  by_cases hlt2 : k < n2
  · have hkl : k < l2.length:=by rw [← HN2.out];exact hlt2
    obtain ⟨hok,ad,hA,hab,hcs⟩:=(HXO.out wr (Only.of_below _ hwr)).2 k _ (List.getElem?_eq_getElem hkl);have hmk:=HM.out _ (List.getElem_mem hkl)
    have e1 : (l2.map (·.e))[k]? = some l2[k].e:=by rw [List.getElem?_map,List.getElem?_eq_getElem hkl];rfl
    have htk : (l2.map (·.e)).take (k + 1) = (l2.map (·.e)).take k ++ [l2[k].e]:=by rw [← List.map_take,take_snoc l2 hkl,List.map_append,List.map_take];rfl
    generalize l2[k] = x at *
    subst hA;obtain ⟨cs,hcx⟩ : ∃ cs,cs = x.cs:=⟨_,rfl⟩;rw [← hcx] at hcs;have SZ:=Lib.hid (show cs.size = 14 by rw [hcx];rfl);have OZ:=Lib.hid (show cs.all (·.oneCell') = true by rw [hcx];exact x.one);have X0:=Lib.hid (show cs[0]? = some (.int .i64 x.e.d.1) by rw [hcx];rfl);have X1:=Lib.hid (show cs[1]? = some (.int .i64 x.e.d.2) by rw [hcx];rfl);have HCS:=Lib.hid hcs;have HCX:=Lib.hid hcx;have HOK:=Lib.hid hok;have HE1:=Lib.hid (And.intro e1 htk);have HMK:=Lib.hid hmk
    have hk0 : (0 : Int)≤(k : Int):=by omega
    have hkm : (k : Int) < (n2 : Int):=by omega
    clear hok hcs hcx e1 htk hmk bw
    go_upto_region 8 with first
      | ((with_reducible refine wpList_lda rowE HCS.out SZ.out ?_ ?_);rotate_left;(rfl))
      | ((with_reducible refine wpList_st rowE (Blk.new _ _ _) SZ.out ?_ OZ.out ?_ ?_ ?_);(rfl);rotate_left;(rfl);(rfl);intro w6 k6 g6 z6)
    have bA : Below wr.heap.size wr w6:=new_below g6;obtain ⟨gr,hgr⟩ : ∃ gr,gr = wr.heap.size:=⟨_,rfl⟩;rw [← hgr] at k6 ⊢;have b06:=HBW.out.trans (bA.mono HBW.out.size);have HB6:=Lib.hid b06;have HD6:=Lib.hid (ev_dot k6 X0.out X1.out);have hl6:=k6.lt;have h06 : Below ws.heap.size ws w6:=hwr.trans (bA.mono hwr.size);obtain ⟨R,hR⟩ : ∃ R,R = hasE ((l2.map (·.e)).take k) x.e.d:=⟨_,rfl⟩;have HR:=Lib.hid hR
    have HHAS:=Lib.hid fun (w : World) (hb : Below w6.heap.size w6 w)=>(by
      have hrow:=HXO.out w (Only.of_below _ (h06.trans (hb.mono h06.size)))
      have:=shas_any (some ad) k c2 (l2.take k) x.e.d.1 x.e.d.2 w (rowTake hrow (by omega)) (by omega)
      rw [List.map_take,show ((x.e.d.1,x.e.d.2) : Dt) = x.e.d from rfl,← HR.out] at this
      exact this : Calls Tryz.prog 53 #[.slice (some ad) k c2,.agg #[.int .i64 x.e.d.1,.int .i64 x.e.d.2]] w fun e w''=>e = .returned (.bool R)∧Below w.heap.size w w'')
    have H06:=Lib.hid h06
    unfold maxLen at hcm
    have HBA:=Lib.hid bA;clear hR g6 z6 hgr bA b06 h06 HSR HCS kr;refine wp_region_tailF 9 7 (fun L v w=>v 1 = .slice (some ad) n2 c2∧v 6 = .int .i64 (k : Nat)∧v 7 = .pointer (some ⟨gr,0,none⟩)∧Below w6.heap.size w6 w∧(L 0 = true→v 29 = .slice (some ad) n2 c2)∧(L 1 = true→v 30 = .int .i64 (k : Nat))∧(L 2 = true→v 31 = .slice (some ad) k c2)∧(L 3 = true→v 32 = .pointer (some ⟨gr,0,none⟩))∧(L 4 = true→v 33 = .agg #[.int .i64 x.e.d.1,.int .i64 x.e.d.2])∧(L 5 = true→v 34 = .bool R)∧(L 6 = true→v 35 = .bool (!R))) [29,30,31,32,33,34,35] (by kernel_rfl) (by kernel_rfl) (by kernel_rfl) (by kernel_rfl) (by kernel_rfl) (by kernel_rfl) ?h0 ?hst ?hend
    case h0 =>
      intro L h0;have h0 : ∀ i,i < 7→L i = false:=h0;exact ⟨rfl,rfl,rfl,(Below.refl _ _).drew,offF h0 (i:=0) (by decide),offF h0 (i:=1) (by decide),offF h0 (i:=2) (by decide),offF h0 (i:=3) (by decide),offF h0 (i:=4) (by decide),offF h0 (i:=5) (by decide),offF h0 (i:=6) (by decide)⟩
    case hst =>
      show FactSteps _ _ _ _ [0,1,2,3,4,5,6]
      refine @FactSteps.cons _ _ _ _ 0 _ [] _ rfl (by kernel_rfl) ?s0 ?_;rotate_left;refine @FactSteps.cons _ _ _ _ 1 _ [] _ rfl (by kernel_rfl) ?s1 ?_;rotate_left;refine @FactSteps.cons _ _ _ _ 2 _ [0,1] _ rfl (by kernel_rfl) ?s2 ?_;rotate_left;refine @FactSteps.cons _ _ _ _ 3 _ [] _ rfl (by kernel_rfl) ?s3 ?_;rotate_left;refine @FactSteps.cons _ _ _ _ 4 _ [3] _ rfl (by kernel_rfl) ?s4 ?_;rotate_left;refine @FactSteps.cons _ _ _ _ 5 _ [2,4] _ rfl (by kernel_rfl) ?s5 ?_;rotate_left;refine @FactSteps.cons _ _ _ _ 6 _ [5] _ rfl (by kernel_rfl) ?s6 ?_;rotate_left;exact FactSteps.nil
      case s0 =>
        rintro L a v w hv hg hL hd hcl ⟨e1,e6,e7,hb,f0,f1,f2,f3,f4,f5,f6⟩ K hK;refine step_do rfl ?_;clear hv;go_simp;exact hK.out _ _ ⟨e1,e6,e7,hb,fun _=>rfl,f1,f2,f3,f4,f5,f6⟩
      case s1 =>
        rintro L a v w hv hg hL hd hcl ⟨e1,e6,e7,hb,f0,f1,f2,f3,f4,f5,f6⟩ K hK;refine step_do rfl ?_;clear hv;go_simp;exact hK.out _ _ ⟨e1,e6,e7,hb,f0,fun _=>rfl,f2,f3,f4,f5,f6⟩
      case s2 =>
        rintro L a v w hv hg hL hd hcl ⟨e1,e6,e7,hb,f0,f1,f2,f3,f4,f5,f6⟩ K hK;have g0:=f0 (hd 0 (by decide));have g1:=f1 (hd 1 (by decide));have g0:=f0 (hd 0 (by decide));have g1:=f1 (hd 1 (by decide))
        have p0 : (0 : Int)≤(k : Int):=by omega
        have p3 : (k : Int)≤(c2 : Int):=by omega
        have p4 : k≤c2:=by omega
        refine step_do rfl ?_;clear hv;go_simp;exact hK.out _ _ ⟨e1,e6,e7,hb,f0,f1,fun _=>rfl,f3,f4,f5,f6⟩
      case s3 =>
        rintro L a v w hv hg hL hd hcl ⟨e1,e6,e7,hb,f0,f1,f2,f3,f4,f5,f6⟩ K hK;refine step_do rfl ?_;clear hv;go_simp;exact hK.out _ _ ⟨e1,e6,e7,hb,f0,f1,f2,fun _=>rfl,f4,f5,f6⟩
      case s4 =>
        rintro L a v w hv hg hL hd hcl ⟨e1,e6,e7,hb,f0,f1,f2,f3,f4,f5,f6⟩ K hK;have g3:=f3 (hd 3 (by decide));refine step_do rfl ?_;refine wp_ldr rowDt2 (.tmp 32) rfl ((hv 32).trans g3) (range_keep HD6.out hb hl6) rfl ?_;exact hK.out _ _ ⟨e1,e6,e7,hb,f0,f1,f2,f3,fun _=>rfl,f5,f6⟩
      case s5 =>
        rintro L a v w hv hg hL hd hcl ⟨e1,e6,e7,hb,f0,f1,f2,f3,f4,f5,f6⟩ K hK;have g2:=f2 (hd 2 (by decide));have g4:=f4 (hd 4 (by decide));have hh:=HHAS.out w hb;refine step_do rfl ?_;clear hv;go_simp;refine hh.mono ?_;rintro e wy ⟨rfl,bb⟩;exact hK.out _ _ ⟨e1,e6,e7,(hb.trans (bb.mono hb.size)),f0,f1,f2,f3,f4,fun _=>rfl,f6⟩
      case s6 =>
        rintro L a v w hv hg hL hd hcl ⟨e1,e6,e7,hb,f0,f1,f2,f3,f4,f5,f6⟩ K hK;refine step_do rfl ?_;clear hv;go_simp;exact hK.out _ _ ⟨e1,e6,e7,hb,f0,f1,f2,f3,f4,f5,fun _=>rfl⟩
    case hend =>
    rintro L v w7 hall ⟨e1,e6,e7,hb,f0,f1,f2,f3,f4,f5,f6⟩;have hL : ∀ i,i < 7→L i = true:=hall;have f0:=f0 (hL 0 (by decide));have f1:=f1 (hL 1 (by decide));have f2:=f2 (hL 2 (by decide));have f3:=f3 (hL 3 (by decide));have f4:=f4 (hL 4 (by decide));have f5:=f5 (hL 5 (by decide));have f6:=f6 (hL 6 (by decide))
    simp only [finA,List.foldl_cons,List.foldl_nil,Act.put,List.setIfInBounds_toArray,List.set_cons_succ,List.set_cons_zero,f0,f1,f2,f3,f6,f4,f5]
    have b7:=HB6.out.trans (hb.mono HB6.out.size);have h07 : Below ws.heap.size ws w7:=H06.out.trans (hb.mono H06.out.size);have k7:=k6.below hb k6.lt;have hr7:=HBA.out.trans (hb.mono HBA.out.size);clear e1 e6 e7 f0 f1 f2 f3 f4 f5 f6 hL hall hb
    show wpList _ _ _ [_] _ _
    have HB7:=Lib.hid b7;have H07:=Lib.hid h07;have HS7:=Lib.hid (HS0.out.below b7);have kr7:=k0.below b7 k0.lt;clear HHAS HD6 hl6 b7 h07 k6 HB6 H06;have HOK7:=Lib.hid ((HOK.out.below hr7).more hr7.size);have HOB7:=Lib.hid (HOBk.out.below hr7 (Nat.le_refl _));clear hr7 HBA HOK HOBk
    cases R
    case true =>
      have HD:=Lib.hid (compact_bad (size:=size) (S:=S) (evs:=xs.map (·.e)) HE1.out.1 (.inr HR.out.symm));go_wp2_with fail;refine (must_bad _ _).mono ?_;rintro e w3 ⟨rfl,rfl⟩;go_wp2_with fail;refine leaves_cons (f:=38) (args:=#[.pointer (some ⟨ws.heap.size,0,none⟩)]) (by simp) (by simp [go_sem]) ?_;refine (caught_panic ws.heap.size 2 [] (.int .i64 0) _ (kr7.cell 0) (kr7.free 0)).mono ?_;rintro e u' w'' ⟨rfl,rfl,rfl⟩;have k8:=kr7.alloc (.cells #[.int .i64 2] 113);have c9 : World.cell? _ _ = some (.int .i64 2):=(k8.set_ 0 (.int .i64 2)).cell 0;have s9:=(HS7.out.below ((Below.refl _ _).alloc (Nat.le_refl _) (.cells #[.int .i64 2] 113))).fail hbw hlt hf k8 (by omega) hsz 0 (.int .i64 2);refine ⟨.int .i64 2,by simp [results,Tryz.results21,go_sem,c9],?_⟩;rw [HD.out];exact ⟨rfl,s9⟩
    cases hrt : rightE x.e
    case false =>
      have HD:=Lib.hid (compact_bad (size:=size) (S:=S) (evs:=xs.map (·.e)) HE1.out.1 (.inl hrt));have HT:=Lib.hid (by have:=told3_bad x w7 HOK7.out hrt;rw [← HCX.out] at this;exact this);clear hrt;go_wp2_with fail;refine (must_ok _ _).mono ?_;rintro e w3 ⟨rfl,rfl⟩
      go_wp2_with ((with_reducible refine wpList_ld rowE k7 SZ.out ?_ ?_);rotate_left;(rfl))
      refine HT.out.mono ?_;rintro e w8 ⟨rfl,b8⟩;have k9:=kr7.below b8 kr7.lt;have s8:=HS7.out.below b8;go_wp2_with fail;refine leaves_cons (f:=38) (args:=#[.pointer (some ⟨ws.heap.size,0,none⟩)]) (by simp) (by simp [go_sem]) ?_;refine (caught_panic ws.heap.size 2 [] (.int .i64 0) _ (k9.cell 0) (k9.free 0)).mono ?_;rintro e u' w'' ⟨rfl,rfl,rfl⟩;have k8:=k9.alloc (.cells #[.int .i64 2] 113);have c9 : World.cell? _ _ = some (.int .i64 2):=(k8.set_ 0 (.int .i64 2)).cell 0;have s9:=(s8.below ((Below.refl _ _).alloc (Nat.le_refl _) (.cells #[.int .i64 2] 113))).fail hbw hlt hf k8 (by omega) hsz 0 (.int .i64 2);refine ⟨.int .i64 2,by simp [results,Tryz.results21,go_sem,c9],?_⟩;rw [HD.out];exact ⟨rfl,s9⟩
    have HRT:=Lib.hid hrt;have HT:=Lib.hid (by have:=told3_any x w7 HOK7.out hrt;rw [← HCX.out] at this;exact this);clear hrt;go_wp2_with fail;refine (must_ok _ _).mono ?_;rintro e w3 ⟨rfl,rfl⟩
    go_wp2_with ((with_reducible refine wpList_ld rowE k7 SZ.out ?_ ?_);rotate_left;(rfl))
    refine HT.out.mono ?_;rintro e w8 ⟨A3,n3,c3,rfl,o3,b8⟩;have bal : Below w8.heap.size w8 (w8.alloc (.cells #[.slice A3 n3 c3] 22)):=(Below.refl _ _).alloc (Nat.le_refl _) _;have h7s : w0.heap.size≤w7.heap.size:=HB7.out.size;have HOB8:=Lib.hid ((HOB7.out.below b8 (Nat.le_refl _)).below bal (Nat.le_refl _));have HO3:=Lib.hid ((o3.mono h7s).below bal (Nat.le_refl _));have HRD:=Lib.hid (Rd.made w8 #[.slice A3 n3 c3] 22 (0,0));have hb8:=(HB7.out.trans (b8.mono h7s)).trans (bal.mono (Nat.le_trans h7s b8.size));have HB8:=Lib.hid hb8;have h8s:=b8.size;clear o3 b8 bal hb8 HOB7 k7 kr7
    go_wp2_with (at_builtin;refine wpList_appS rfl (.tmp 37) (.tmp 40) rfl rfl HOB8.out rfl (e:=(A3,n3,c3)) HRD.out HO3.out ?hd2 ?hd3 ?_)
    case hd2=>omega
    case hd3=>simp;omega
    intro A9 c9 w9 ob9 b9;have HOB9:=Lib.hid ob9;have HB9:=Lib.hid (HB8.out.trans b9);clear ob9 b9 HOB8 HO3 HRD;go_wp2_with fail
    go_roundw
    case rel=>exact ⟨k + 1,A9,c9,by omega,by go_num,rfl,by
      have h:=HOB9.out;rw [show recsC S ((l2.map (·.e)).take (k + 1)) = recsC S ((l2.map (·.e)).take k) ++ [told3 x.e] by rw [HE1.out.2];unfold recsC;rw [List.map_append];rfl]
      exact h,HGD.out.succ HE1.out.1 HRT.out HR.out.symm,HB9.out⟩
    case measure=>simp [intOf];omega
  obtain rfl : k = n2:=by omega
  have hkk : ¬ (k : Int) < (k : Int):=by omega
  have hfull : (l2.map (·.e)).take k = l2.map (·.e):=List.take_of_length_le (by rw [List.length_map,← HN2.out];omega)
  have hgd : goodTo (l2.map (·.e)) (l2.map (·.e)).length:=by rw [List.length_map,← HN2.out];exact HGD.out
  have hob:=HOBk.out;rw [hfull] at hob
  have h4096 : (recsC S (l2.map (·.e))).all (·.length≤4096) = true:=by
    rw [List.all_eq_true];intro y hy
    unfold recsC at hy
    rcases List.mem_cons.1 hy with rfl | hy
    · have:=told_len 1 S.upto;exact decide_eq_true (by omega)
    · rcases List.mem_cons.1 hy with rfl | hy
      · have:=told_len 2 S.inc;exact decide_eq_true (by omega)
      · obtain ⟨e,he,rfl⟩:=List.mem_map.1 hy
        obtain ⟨z,hz,rfl⟩:=List.mem_map.1 he;obtain ⟨i,hi,rfl⟩:=List.getElem_of_mem hz;have hp:=((HXO.out ws (Only.refl _ _)).2 i _ (List.getElem?_eq_getElem hi)).1.1;have hr:=(hgd i l2[i].e (by rw [List.length_map];exact hi) (by rw [List.getElem?_map,List.getElem?_eq_getElem hi];rfl)).1
        have:=told3_len hp hr
        exact decide_eq_true (by omega)
  have hrw:=lrewriteD_any A' (2 + k) c' wr.heap.size _ F g size S.b wr HSR.out.sw.disk hs0 hob.rd (Nat.le_refl _) (by omega)
  have hrm : rewriteD size S.b (recsC S (l2.map (·.e))) = if (frms (recsC S (l2.map (·.e)))).length≤size then (0,Db.of (frms (recsC S (l2.map (·.e))))) else (7,S.b):=by unfold rewriteD;rw [if_pos h4096]
  rw [hrm] at hrw;have c0d : wr.cell? ⟨b,0,none⟩ = some (.pointer (some ⟨g,0,none⟩)):=HSR.out.sw.blk.cell 0
  have hcd : compactD size S (xs.map (·.e)) (l2.map (·.e)) = if (frms (recsC S (l2.map (·.e)))).length≤size then (0,{ S with b:=Db.of (frms (recsC S (l2.map (·.e)))) },l2.map (·.e)) else (7,S,xs.map (·.e)):=by unfold compactD;rw [if_pos hgd]
  have kS0:=HSR.out.sw.blk
  by_cases hroom : (frms (recsC S (l2.map (·.e)))).length≤size
  case neg =>
    rw [if_neg hroom] at hrw hcd;have HD:=Lib.hid hcd;have HRW:=Lib.hid hrw;clear hrw hcd hrm hroom hob hgd h4096 hfull kS0;go_wp2_with fail;refine HRW.out.mono ?_;rintro e w4 ⟨hee,d4⟩;obtain rfl : e = .returned (.int .i64 ((7 : Nat) : Int)):=hee;have k4:=d4.kept kr hnF;obtain ⟨F4,s4⟩:=HSR.out.op d4;clear d4;go_wp2_with fail;refine (must_no (by first | with_reducible rfl | assumption | (simp;done) | (simp;omega)) _ _).mono ?_;rintro e w5 ⟨rfl,rfl⟩;go_wp2_with fail;refine leaves_cons (f:=38) (args:=#[.pointer (some ⟨ws.heap.size,0,none⟩)]) (by simp) (by simp [go_sem]) ?_;refine (caught_panic ws.heap.size 7 [] (.int .i64 0) _ (k4.cell 0) (k4.free 0)).mono ?_;rintro e u' w'' ⟨rfl,rfl,rfl⟩;have k8:=k4.alloc (.cells #[.int .i64 7] 113);have c9 : World.cell? _ _ = some (.int .i64 7):=(k8.set_ 0 (.int .i64 7)).cell 0;have s9:=(s4.below ((Below.refl _ _).alloc (Nat.le_refl _) (.cells #[.int .i64 7] 113))).fail hbw hlt hf k8 (by omega) hsz 0 (.int .i64 7);refine ⟨.int .i64 7,by simp [results,Tryz.results21,go_sem,c9],?_⟩;rw [HD.out];exact ⟨rfl,s9⟩
  rw [if_pos hroom] at hrw hcd;have HD:=Lib.hid hcd;have HRW:=Lib.hid hrw;clear hrw hcd hrm hroom hob hgd h4096 hfull kS0;go_wp2_with fail;refine HRW.out.mono ?_;rintro e w4 ⟨hee,d4⟩;obtain rfl : e = .returned (.int .i64 ((0 : Nat) : Int)):=hee;have k4:=d4.kept kr hnF;obtain ⟨F4,s4⟩:=HSR.out.op d4;have hbw4 : Only (fun k=>F k∨k = b) ws w4:=(Only.of_below _ hbw).trans s4.sw.only (Grows.refl _ _);have HS4:=Lib.hid s4;have HOW:=Lib.hid (owns_any A2 k c2 l2 w4 hn2 (HXO.out w4 hbw4) HM.out);have hbase : base≤w4.heap.size:=Nat.le_trans hB hbw4.size;clear d4 s4 HRW;go_wp2_with fail;refine (must_yes (by first | with_reducible rfl | assumption | (simp;done) | (simp;omega)) _ _).mono ?_;rintro e w5 ⟨rfl,rfl⟩;go_wp2_with fail;refine HOW.out.mono ?_;rintro e w5 ⟨Ac,cc,ys,rfl,oc,oy,hye,b5⟩;have s5:=HS4.out.below b5;have kS:=s5.sw.blk;have ke:=k4.below b5 k4.lt;have c4e : w5.cell? ⟨b,4,none⟩ = some (.slice A n c):=kS.cell 4;have u4e:=kS.free 4;have hlb:=kS.lt
  have hEb : ws.heap.size ≠ b:=by omega
  have k10:=kS.set_ 4 (.slice Ac k cc);have ke10:=ke.far (p:=⟨b,4,none⟩) hEb (.slice Ac k cc);have c0e : World.cell? _ ⟨ws.heap.size,0,none⟩ = some (.int .i64 0):=ke10.cell 0;have u0e:=ke10.free 0;have ce0 : w5.cell? ⟨ws.heap.size,0,none⟩ = some (.int .i64 0):=ke.cell 0;have ue0:=ke.free 0;have hle0:=ke.lt
  have hnF4e : ¬ F4 ws.heap.size:=fun q=>by
    rcases HS4.out.sw.grows _ q with y | y
    · exact hnF y
    · omega
  have hfin : EOp ws F b g size base A xs { S with b:=Db.of (frms (recsC S (l2.map (·.e)))) } (l2.map (·.e)) ((w5.setCell ⟨b,4,none⟩ (.slice Ac k cc)).setCell ⟨ws.heap.size,0,none⟩ (.int .i64 0)):=by
    have s4:=HS4.out
    have hev : EvsAt w5 F4 b base Ac k cc ys:=⟨oc.mono hbase,fun y hy=>⟨(oy y hy).1,(oy y hy).2.1.mono hbase,(oy y hy).2.2⟩,fun q hq=>by
      have h9:=(oc.lt q hq).1
      exact ⟨fun y=>by have:=s4.sw.disk.lt q y;omega,by have:=s4.sw.blk.lt;omega⟩,fun y hy q hq=>by
      have h9:=((oy y hy).2.1.lt q hq).1
      exact ⟨fun y=>by have:=s4.sw.disk.lt q y;omega,by have:=s4.sw.blk.lt;omega⟩⟩
    have hbF : ∀ q,F4 q→q ≠ b:=fun q hq e=>s4.sw.nb (by rw [← e];exact hq)
    refine ⟨F4,Ac,k,cc,ys,⟨(s5.sw.disk.keep ⟨by simp [World.setCell],fun q hq=>Below.heap_setCell w5 _ _ q (hbF q hq)⟩).keep ⟨by simp [World.setCell],fun q hq=>Below.heap_setCell _ _ _ q (fun e=>hnF4e (by have e : q = ws.heap.size:=e;rw [← e];exact hq))⟩,k10.far (p:=⟨ws.heap.size,0,none⟩) (fun e=>hEb e.symm) _,s4.sw.nb⟩,(hev.setT kS (by decide) (by decide) 4 _).setT ke10 (by decide) (by decide) 0 _,hye,?_,fun q hq=>(s4.sw.grows q hq).imp id fun y=>by have:=hbw.size;omega,fun q hq=>by
      rcases hq with h | ⟨y,hy,h⟩
      · exact .inr (by have:=(oc.lt q h).1;have:=hbw4.size;omega)
      · exact .inr (by have:=((oy y hy).2.1.lt q h).1;have:=hbw4.size;omega)⟩
    refine Only.setCell (Only.setCell ?_ (.inl (.inr (.inl rfl))) _) (.inr (Nat.le_refl _)) _;exact (hbw4.mono (G:=fun k=>F k∨k = b∨A.map (·.block) = some k) fun k hk=>.inl (by rcases hk with q | q;exact .inl q;exact .inr (.inl q))).then_below (b5.mono hbw4.size)
  have HFIN:=Lib.hid hfin;have HKE:=Lib.hid ke10;clear hfin k10 ke10 oc oy hye b5 s5 hnF4e kS ke HOW;go_wp2_with fail;have c9 : World.cell? _ _ = some (.int .i64 0):=(HKE.out.set_ 0 (.int .i64 0)).cell 0;refine leaves_cons (f:=38) (args:=#[.pointer (some ⟨ws.heap.size,0,none⟩)]) (by simp) (by simp [go_sem]) ?_;refine (caught_none _ _).mono ?_;rintro e u' w'' ⟨rfl,rfl,rfl⟩;refine ⟨.int .i64 0,by simp [results,Tryz.results21,go_sem,c9],?_⟩;rw [HD.out];exact ⟨rfl,HFIN.out⟩
end Sto.Stp
end Go.Proofs.YtfpenfgmpbdakaaGreat

namespace Go.Proofs.YtfpenfgmpbdakaaGreat
set_option linter.unusedVariables false
set_option linter.unusedSimpArgs false
set_option maxRecDepth 100000
open Go.RowKit
open Disk
namespace Sto.Stp
open _root_.Go.Proofs.YtfpenfgmpbdakaaGreat.Log (writeM LogEnd lwrite_any)
open _root_.Go.Proofs.YtfpenfgmpbdakaaGreat.Frame (frm frms frms_nil frms_cons frms_snoc frms_append frm_length frm_pos Parts AllF)
set_option maxHeartbeats 1000000 in
theorem next_any (S : Sd) (E : Value) (F : Nat→Prop) (b g size : Nat) (w : World) (h : StoAt w F b g size S E) (hu : S.used≤S.upto) (hU : S.upto≤96) (hs : size≤16384) (hl : S.b.length≤16384) :
    Calls Tryz.prog 14 #[.pointer (some ⟨b,0,none⟩)] w (NumOp w F b g size E (nextD size S)):=by
  have k0:=Blk.new w 27 #[.int .i64 0];have hbw : Below w.heap.size w (w.alloc (.cells #[.int .i64 0] 27)):=(Below.refl _ _).alloc (Nat.le_refl _) _
  have hsz : w.heap.size < (w.alloc (.cells #[.int .i64 0] 27)).heap.size:=by simp
  have s0:=(h.below hbw).sw;have hlt : b < w.heap.size:=h.2.1.lt;have hf : ∀ k,F k→k < w.heap.size:=h.1.lt
  have hnF : ¬ F w.heap.size:=fun q=>by have:=hf _ q;omega
  have hne : w.heap.size ≠ b:=by omega
  clear h;obtain ⟨sb,su,sv,si⟩:=S
  simp only at *
  have c1:=s0.blk.cell 1;have c2:=s0.blk.cell 2;have f1:=s0.blk.free 1
  go_enter_defers Tryz.func14,Tryz.ntmps14
  go_wp2_with fail
  generalize w.alloc (.cells #[.int .i64 0] 27) = w0 at *
  by_cases hx : su < sv
  · have hq : ((su : Int) == (sv : Int)) = false:=by rw [beq_eq_false_iff_ne];omega
    have hr : nextD size ⟨sb,su,sv,si⟩ = (su + 1,0,⟨sb,su + 1,sv,si⟩):=by unfold nextD;rw [if_pos hx]
    have HR:=Lib.hid hr;have H0:=Lib.hid s0;have K0:=Lib.hid k0;clear hr s0 k0
    go_quiet (fail)
    have s9:=H0.out.drewN nq;have k9:=K0.out.below (below_drewN (Below.refl _ _) nq) K0.out.lt
    generalize w0.drewN nq = wq at *
    have e1 : wq.cell? ⟨b,1,none⟩ = some (.int .i64 (su : Nat)):=s9.blk.cell 1;have g1:=s9.blk.free 1;have s1 : SW w0 F b g size ⟨sb,su + 1,sv,si⟩ E F (wq.setCell ⟨b,1,none⟩ (.int .i64 ((su : Int) + 1))):=s9.set_ (u':=su + 1) (v':=sv) (i':=si) (s9.blk.set_ 1 (.int .i64 ((su : Int) + 1)));have k1:=k9.far (p:=⟨b,1,none⟩) hne (.int .i64 ((su : Int) + 1));have f0 : wq.frozen? ⟨w.heap.size,0,none⟩ = false:=k9.free 0;have f00 : wq.cell? ⟨w.heap.size,0,none⟩ = some (.int .i64 0):=k9.cell 0;have d1 : World.cell? _ ⟨b,1,none⟩ = some (.int .i64 ((su : Int) + 1)):=s1.blk.cell 1;have H1:=Lib.hid s1;have K1:=Lib.hid k1;clear s1 k1 s9 k9 H0 K0;go_wp2_with fail;have c4 : World.cell? _ _ = some (.int .i64 0):=(K1.out.set_ 0 (.int .i64 0)).cell 0;refine leaves_cons (f:=38) (args:=#[.pointer (some ⟨w.heap.size,0,none⟩)]) (by simp) (by simp [go_sem]) ?_;refine (caught_none _ _).mono ?_;rintro e u' w'' ⟨rfl,rfl,rfl⟩;refine ⟨.tuple #[.int .i64 ((su : Int) + 1),.int .i64 0],by simp [results,Tryz.results14,go_sem,c4],?_⟩;rw [HR.out];exact ⟨rfl,H1.out.err hbw hsz hlt hf 0 (.int .i64 0)⟩
  · obtain rfl : su = sv:=by omega
    have hq : ((su : Int) == (su : Int)) = true:=by simp
    by_cases h9 : 96≤su
    · have hr : nextD size ⟨sb,su,su,si⟩ = (0,7,⟨sb,su,su,si⟩):=by unfold nextD;rw [if_neg hx,if_pos h9]
      have HR:=Lib.hid hr;have hd : decide ((su : Int) < ((min (su + 8) 96 : Nat) : Int)) = false:=decide_eq_false (by omega)
      have hdl : ¬ (su : Int) < ((min (su + 8) 96 : Nat) : Int):=by omega
      have H0:=Lib.hid s0;have K0:=Lib.hid k0;clear hr s0 k0
      go_quiet (fail)
      have H1:=Lib.hid (H0.out.drewN nq);have K1:=Lib.hid (K0.out.below (below_drewN (Below.refl _ _) nq) K0.out.lt)
      generalize w0.drewN nq = wq at *
      have e1 : wq.cell? ⟨b,1,none⟩ = some (.int .i64 (su : Nat)):=H1.out.blk.cell 1;have e2 : wq.cell? ⟨b,2,none⟩ = some (.int .i64 (su : Nat)):=H1.out.blk.cell 2;go_wp2_with fail;refine (must_no (b:=decide ((su : Int) < 96)) (decide_eq_false (by omega)) _ _).mono ?_;rintro e w2 ⟨rfl,rfl⟩;go_wp2_with fail;refine leaves_cons (f:=38) (args:=#[.pointer (some ⟨w.heap.size,0,none⟩)]) (by simp) (by simp [go_sem]) ?_;refine (caught_panic w.heap.size 7 [] (.int .i64 0) _ (K1.out.cell 0) (K1.out.free 0)).mono ?_;rintro e u' w'' ⟨rfl,rfl,rfl⟩;have k9:=(K1.out.alloc (.cells #[.int .i64 7] 113)).set_ 0 (.int .i64 7);have c9 : World.cell? _ _ = some (.int .i64 7):=k9.cell 0;have s9:=(H1.out.below ((Below.refl _ _).alloc (Nat.le_refl _) (.cells #[.int .i64 7] 113))).err hbw hsz hlt hf 0 (.int .i64 7);refine ⟨.tuple #[.int .i64 0,.int .i64 7],by simp [results,Tryz.results14,go_sem,c9],?_⟩;rw [HR.out];exact ⟨rfl,s9⟩
    · obtain ⟨M,hM⟩ : ∃ M,M = min (su + 8) 96:=⟨_,rfl⟩
      have hM9 : M≤96:=by omega
      rcases Nat.lt_or_ge 96 (su + 8) with h8 | h8
      · have hV : (M : Int) = 96:=by omega
        have hv8 : 96 < (su : Int) + 8:=by omega
        by_cases hroom : sb.length + (frm (told 1 M)).length≤size
        · have hr : nextD size ⟨sb,su,su,si⟩ = (su + 1,0,⟨sb ++ frm (told 1 M),su + 1,M,si⟩):=by
            unfold nextD
            rw [if_neg hx,if_neg h9]
            simp only
            rw [← hM,if_pos hroom]
          have hw : writeD size sb (told 1 M) = (0,sb ++ frm (told 1 M)):=by rw [told_write,if_pos hroom]
          have HR:=Lib.hid hr;have HW:=Lib.hid hw;have H0:=Lib.hid s0;have K0:=Lib.hid k0;clear hr hw s0 k0
          go_quiet (fail)
          have H1:=Lib.hid (H0.out.drewN nq);have K1:=Lib.hid (K0.out.below (below_drewN (Below.refl _ _) nq) K0.out.lt)
          generalize w0.drewN nq = wq at *
          have e1 : wq.cell? ⟨b,1,none⟩ = some (.int .i64 (su : Nat)):=H1.out.blk.cell 1;have e2 : wq.cell? ⟨b,2,none⟩ = some (.int .i64 (su : Nat)):=H1.out.blk.cell 2;go_wp2_with fail;refine (must_yes (b:=decide ((su : Int) < 96)) (decide_eq_true (by omega)) _ _).mono ?_;rintro e w2 ⟨rfl,rfl⟩;go_wp2_with fail;refine (told_lit 1 1 (96) M rfl (by omega) (by omega) _).mono ?_;rintro e w2 ⟨A2,n2,c2',rfl,o2,b2⟩;have s2:=H1.out.below b2;have k2:=K1.out.below b2 K1.out.lt;have hle:=ownsRow_le o2.2;go_wp2_with fail;refine (write_any A2 n2 c2' _ (told 1 M) _ b g size su su si sb E w2 s2.blk s2.disk hl hs o2.rd (Nat.le_refl _) hle.1 hle.2).mono ?_;rw [HW.out];rintro e w3 ⟨he,d3⟩;obtain rfl : e = .returned (.tuple #[]):=he;have k3:=d3.kept k2 (s2.nk hsz hnF);obtain ⟨F3,s3⟩:=s2.op d3;have s4 : SW w0 F b g size ⟨_,su,M,si⟩ E F3 (World.setCell _ ⟨b,2,none⟩ (.int .i64 (96))):=s3.set_ (u':=su) (v':=M) (i':=si) (show Blk _ b _ (sc g su M si E) by rw [← hV];exact s3.blk.set_ 2 (.int .i64 (M : Nat)));have e4 : World.cell? _ ⟨b,1,none⟩ = some (.int .i64 (su : Nat)):=s4.blk.cell 1;have f4:=s4.blk.free 1;have g3:=s3.blk.free 2;have s5 : SW w0 F b g size ⟨_,su + 1,M,si⟩ E F3 (World.setCell _ ⟨b,1,none⟩ (.int .i64 ((su : Int) + 1))):=s4.set_ (u':=su + 1) (v':=M) (i':=si) (s4.blk.set_ 1 (.int .i64 ((su : Int) + 1)));have e5 : World.cell? _ ⟨b,1,none⟩ = some (.int .i64 ((su : Int) + 1)):=s5.blk.cell 1;have e3 : w3.cell? ⟨b,1,none⟩ = some (.int .i64 (su : Nat)):=s3.blk.cell 1;have g1 : w3.frozen? ⟨b,1,none⟩ = false:=s3.blk.free 1
          have e6 : w3.cell? ⟨b,2,none⟩ = some (.int .i64 (su : Nat)):=s3.blk.cell 2;have z0 : w3.cell? ⟨w.heap.size,0,none⟩ = some (.int .i64 0):=k3.cell 0;have z1 : w3.frozen? ⟨w.heap.size,0,none⟩ = false:=k3.free 0;have k4:=(k3.far (p:=⟨b,2,none⟩) hne (.int .i64 (96))).far (p:=⟨b,1,none⟩) hne (.int .i64 ((su : Int) + 1));have f5:=k4.free 0;have H5:=Lib.hid s5;have K4:=Lib.hid k4;clear s2 s3 s4 s5 k2 k3 k4 d3 o2;go_wp2_with fail;have c4 : World.cell? _ _ = some (.int .i64 0):=(K4.out.set_ 0 (.int .i64 0)).cell 0;refine leaves_cons (f:=38) (args:=#[.pointer (some ⟨w.heap.size,0,none⟩)]) (by simp) (by simp [go_sem]) ?_;refine (caught_none _ _).mono ?_;rintro e u' w'' ⟨rfl,rfl,rfl⟩;refine ⟨.tuple #[.int .i64 ((su : Int) + 1),.int .i64 0],by simp [results,Tryz.results14,go_sem,c4],?_⟩;rw [HR.out];exact ⟨rfl,H5.out.err hbw hsz hlt hf 0 (.int .i64 0)⟩
        · have hr : nextD size ⟨sb,su,su,si⟩ = (0,7,⟨sb,su,su,si⟩):=by
            unfold nextD
            rw [if_neg hx,if_neg h9]
            simp only
            rw [← hM,if_neg hroom]
          have hw : writeD size sb (told 1 M) = (7,sb):=by rw [told_write,if_neg hroom]
          have HR:=Lib.hid hr;have HW:=Lib.hid hw;have H0:=Lib.hid s0;have K0:=Lib.hid k0;clear hr hw s0 k0
          go_quiet (fail)
          have H1:=Lib.hid (H0.out.drewN nq);have K1:=Lib.hid (K0.out.below (below_drewN (Below.refl _ _) nq) K0.out.lt)
          generalize w0.drewN nq = wq at *
          have e1 : wq.cell? ⟨b,1,none⟩ = some (.int .i64 (su : Nat)):=H1.out.blk.cell 1;have e2 : wq.cell? ⟨b,2,none⟩ = some (.int .i64 (su : Nat)):=H1.out.blk.cell 2;go_wp2_with fail;refine (must_yes (b:=decide ((su : Int) < 96)) (decide_eq_true (by omega)) _ _).mono ?_;rintro e w2 ⟨rfl,rfl⟩;go_wp2_with fail;refine (told_lit 1 1 (96) M rfl (by omega) (by omega) _).mono ?_;rintro e w2 ⟨A2,n2,c2',rfl,o2,b2⟩;have s2:=H1.out.below b2;have k2:=K1.out.below b2 K1.out.lt;have hle:=ownsRow_le o2.2;go_wp2_with fail;refine (write_any A2 n2 c2' _ (told 1 M) _ b g size su su si sb E w2 s2.blk s2.disk hl hs o2.rd (Nat.le_refl _) hle.1 hle.2).mono ?_;rw [HW.out];rintro e w3 ⟨he,d3⟩;obtain rfl : e = .panicked [{ v:=flt ((7 : Nat) : Int),recovered:=false }]:=he;have k3:=d3.kept k2 (s2.nk hsz hnF);obtain ⟨F3,s3⟩:=s2.op d3;go_wp2_with fail;refine leaves_cons (f:=38) (args:=#[.pointer (some ⟨w.heap.size,0,none⟩)]) (by simp) (by simp [go_sem]) ?_;refine (caught_panic w.heap.size 7 [] (.int .i64 0) _ (k3.cell 0) (k3.free 0)).mono ?_;rintro e u' w'' ⟨rfl,rfl,rfl⟩;have k9:=(k3.alloc (.cells #[.int .i64 7] 113)).set_ 0 (.int .i64 7);have c9 : World.cell? _ _ = some (.int .i64 7):=k9.cell 0;have s9:=(s3.below ((Below.refl _ _).alloc (Nat.le_refl _) (.cells #[.int .i64 7] 113))).err hbw hsz hlt hf 0 (.int .i64 7);refine ⟨.tuple #[.int .i64 0,.int .i64 7],by simp [results,Tryz.results14,go_sem,c9],?_⟩;rw [HR.out];exact ⟨rfl,s9⟩
      · have hV : (M : Int) = (su : Int) + 8:=by omega
        have hv8 : ¬ 96 < (su : Int) + 8:=by omega
        by_cases hroom : sb.length + (frm (told 1 M)).length≤size
        · have hr : nextD size ⟨sb,su,su,si⟩ = (su + 1,0,⟨sb ++ frm (told 1 M),su + 1,M,si⟩):=by
            unfold nextD
            rw [if_neg hx,if_neg h9]
            simp only
            rw [← hM,if_pos hroom]
          have hw : writeD size sb (told 1 M) = (0,sb ++ frm (told 1 M)):=by rw [told_write,if_pos hroom]
          have HR:=Lib.hid hr;have HW:=Lib.hid hw;have H0:=Lib.hid s0;have K0:=Lib.hid k0;clear hr hw s0 k0
          go_quiet (fail)
          have H1:=Lib.hid (H0.out.drewN nq);have K1:=Lib.hid (K0.out.below (below_drewN (Below.refl _ _) nq) K0.out.lt)
          generalize w0.drewN nq = wq at *
          have e1 : wq.cell? ⟨b,1,none⟩ = some (.int .i64 (su : Nat)):=H1.out.blk.cell 1;have e2 : wq.cell? ⟨b,2,none⟩ = some (.int .i64 (su : Nat)):=H1.out.blk.cell 2;go_wp2_with fail;refine (must_yes (b:=decide ((su : Int) < (su : Int) + 8)) (decide_eq_true (by omega)) _ _).mono ?_;rintro e w2 ⟨rfl,rfl⟩;go_wp2_with fail;refine (told_lit 1 1 ((su : Int) + 8) M rfl (by omega) (by omega) _).mono ?_;rintro e w2 ⟨A2,n2,c2',rfl,o2,b2⟩;have s2:=H1.out.below b2;have k2:=K1.out.below b2 K1.out.lt;have hle:=ownsRow_le o2.2;go_wp2_with fail;refine (write_any A2 n2 c2' _ (told 1 M) _ b g size su su si sb E w2 s2.blk s2.disk hl hs o2.rd (Nat.le_refl _) hle.1 hle.2).mono ?_;rw [HW.out];rintro e w3 ⟨he,d3⟩;obtain rfl : e = .returned (.tuple #[]):=he;have k3:=d3.kept k2 (s2.nk hsz hnF);obtain ⟨F3,s3⟩:=s2.op d3;have s4 : SW w0 F b g size ⟨_,su,M,si⟩ E F3 (World.setCell _ ⟨b,2,none⟩ (.int .i64 ((su : Int) + 8))):=s3.set_ (u':=su) (v':=M) (i':=si) (show Blk _ b _ (sc g su M si E) by rw [← hV];exact s3.blk.set_ 2 (.int .i64 (M : Nat)));have e4 : World.cell? _ ⟨b,1,none⟩ = some (.int .i64 (su : Nat)):=s4.blk.cell 1;have f4:=s4.blk.free 1;have g3:=s3.blk.free 2;have s5 : SW w0 F b g size ⟨_,su + 1,M,si⟩ E F3 (World.setCell _ ⟨b,1,none⟩ (.int .i64 ((su : Int) + 1))):=s4.set_ (u':=su + 1) (v':=M) (i':=si) (s4.blk.set_ 1 (.int .i64 ((su : Int) + 1)));have e5 : World.cell? _ ⟨b,1,none⟩ = some (.int .i64 ((su : Int) + 1)):=s5.blk.cell 1;have e3 : w3.cell? ⟨b,1,none⟩ = some (.int .i64 (su : Nat)):=s3.blk.cell 1
          have g1 : w3.frozen? ⟨b,1,none⟩ = false:=s3.blk.free 1;have e6 : w3.cell? ⟨b,2,none⟩ = some (.int .i64 (su : Nat)):=s3.blk.cell 2;have z0 : w3.cell? ⟨w.heap.size,0,none⟩ = some (.int .i64 0):=k3.cell 0;have z1 : w3.frozen? ⟨w.heap.size,0,none⟩ = false:=k3.free 0;have k4:=(k3.far (p:=⟨b,2,none⟩) hne (.int .i64 ((su : Int) + 8))).far (p:=⟨b,1,none⟩) hne (.int .i64 ((su : Int) + 1));have f5:=k4.free 0;have H5:=Lib.hid s5;have K4:=Lib.hid k4;clear s2 s3 s4 s5 k2 k3 k4 d3 o2;go_wp2_with fail;have c4 : World.cell? _ _ = some (.int .i64 0):=(K4.out.set_ 0 (.int .i64 0)).cell 0;refine leaves_cons (f:=38) (args:=#[.pointer (some ⟨w.heap.size,0,none⟩)]) (by simp) (by simp [go_sem]) ?_;refine (caught_none _ _).mono ?_;rintro e u' w'' ⟨rfl,rfl,rfl⟩;refine ⟨.tuple #[.int .i64 ((su : Int) + 1),.int .i64 0],by simp [results,Tryz.results14,go_sem,c4],?_⟩;rw [HR.out];exact ⟨rfl,H5.out.err hbw hsz hlt hf 0 (.int .i64 0)⟩
        · have hr : nextD size ⟨sb,su,su,si⟩ = (0,7,⟨sb,su,su,si⟩):=by
            unfold nextD
            rw [if_neg hx,if_neg h9]
            simp only
            rw [← hM,if_neg hroom]
          have hw : writeD size sb (told 1 M) = (7,sb):=by rw [told_write,if_neg hroom]
          have HR:=Lib.hid hr;have HW:=Lib.hid hw;have H0:=Lib.hid s0;have K0:=Lib.hid k0;clear hr hw s0 k0
          go_quiet (fail)
          have H1:=Lib.hid (H0.out.drewN nq);have K1:=Lib.hid (K0.out.below (below_drewN (Below.refl _ _) nq) K0.out.lt)
          generalize w0.drewN nq = wq at *
          have e1 : wq.cell? ⟨b,1,none⟩ = some (.int .i64 (su : Nat)):=H1.out.blk.cell 1;have e2 : wq.cell? ⟨b,2,none⟩ = some (.int .i64 (su : Nat)):=H1.out.blk.cell 2;go_wp2_with fail;refine (must_yes (b:=decide ((su : Int) < (su : Int) + 8)) (decide_eq_true (by omega)) _ _).mono ?_;rintro e w2 ⟨rfl,rfl⟩;go_wp2_with fail;refine (told_lit 1 1 ((su : Int) + 8) M rfl (by omega) (by omega) _).mono ?_;rintro e w2 ⟨A2,n2,c2',rfl,o2,b2⟩;have s2:=H1.out.below b2;have k2:=K1.out.below b2 K1.out.lt;have hle:=ownsRow_le o2.2;go_wp2_with fail;refine (write_any A2 n2 c2' _ (told 1 M) _ b g size su su si sb E w2 s2.blk s2.disk hl hs o2.rd (Nat.le_refl _) hle.1 hle.2).mono ?_;rw [HW.out];rintro e w3 ⟨he,d3⟩;obtain rfl : e = .panicked [{ v:=flt ((7 : Nat) : Int),recovered:=false }]:=he;have k3:=d3.kept k2 (s2.nk hsz hnF);obtain ⟨F3,s3⟩:=s2.op d3;go_wp2_with fail;refine leaves_cons (f:=38) (args:=#[.pointer (some ⟨w.heap.size,0,none⟩)]) (by simp) (by simp [go_sem]) ?_;refine (caught_panic w.heap.size 7 [] (.int .i64 0) _ (k3.cell 0) (k3.free 0)).mono ?_;rintro e u' w'' ⟨rfl,rfl,rfl⟩;have k9:=(k3.alloc (.cells #[.int .i64 7] 113)).set_ 0 (.int .i64 7);have c9 : World.cell? _ _ = some (.int .i64 7):=k9.cell 0;have s9:=(s3.below ((Below.refl _ _).alloc (Nat.le_refl _) (.cells #[.int .i64 7] 113))).err hbw hsz hlt hf 0 (.int .i64 7);refine ⟨.tuple #[.int .i64 0,.int .i64 7],by simp [results,Tryz.results14,go_sem,c9],?_⟩;rw [HR.out];exact ⟨rfl,s9⟩
end Sto.Stp
end Go.Proofs.YtfpenfgmpbdakaaGreat

namespace Go.Proofs.YtfpenfgmpbdakaaGreat
set_option linter.unusedVariables false
set_option linter.unusedSimpArgs false
set_option maxRecDepth 100000
open Go.RowKit
open Disk
namespace Sto.Stp
open _root_.Go.Proofs.YtfpenfgmpbdakaaGreat.Log (writeM LogEnd lwrite_any)
open _root_.Go.Proofs.YtfpenfgmpbdakaaGreat.Frame (frm frms frms_nil frms_cons frms_snoc frms_append frm_length frm_pos Parts AllF)
set_option maxHeartbeats 2000000 in
theorem bump_any (S : Sd) (E : Value) (F : Nat→Prop) (b g size : Nat) (w : World) (h : StoAt w F b g size S E) (hi : S.inc≤1099511627776) (hs : size≤16384) (hl : S.b.length≤16384) :
    Calls Tryz.prog 16 #[.pointer (some ⟨b,0,none⟩)] w (NumOp w F b g size E (bumpD size S)):=by
  have k0:=Blk.new w 27 #[.int .i64 0];have hbw : Below w.heap.size w (w.alloc (.cells #[.int .i64 0] 27)):=(Below.refl _ _).alloc (Nat.le_refl _) _
  have hsz : w.heap.size < (w.alloc (.cells #[.int .i64 0] 27)).heap.size:=by simp
  have s0:=(h.below hbw).sw;have hlt : b < w.heap.size:=h.2.1.lt;have hf : ∀ k,F k→k < w.heap.size:=h.1.lt
  have hnF : ¬ F w.heap.size:=fun q=>by have:=hf _ q;omega
  have hne : w.heap.size ≠ b:=by omega
  clear h;obtain ⟨sb,su,sv,si⟩:=S
  simp only at *
  have c3:=s0.blk.cell 3;have f3:=s0.blk.free 3
  go_enter_defers Tryz.func16,Tryz.ntmps16
  go_wp2_with fail
  generalize w.alloc (.cells #[.int .i64 0] 27) = w0 at *
  by_cases h9 : 1099511627776≤si
  · have hr : bumpD size ⟨sb,su,sv,si⟩ = (0,7,⟨sb,su,sv,si⟩):=by unfold bumpD;rw [if_pos h9]
    have HR:=Lib.hid hr;have hd : decide ((si : Int) < 1099511627776) = false:=decide_eq_false (by omega)
    have hlt9 : ¬ (si : Int) < 1099511627776:=by omega
    clear hr;go_wp2_with fail;refine (must_bad _ _).mono ?_;rintro e w2 ⟨rfl,rfl⟩;go_wp2_with fail;refine leaves_cons (f:=38) (args:=#[.pointer (some ⟨w.heap.size,0,none⟩)]) (by simp) (by simp [go_sem]) ?_;refine (caught_panic w.heap.size 7 [] (.int .i64 0) _ (k0.cell 0) (k0.free 0)).mono ?_;rintro e u' w'' ⟨rfl,rfl,rfl⟩;have k9:=(k0.alloc (.cells #[.int .i64 7] 113)).set_ 0 (.int .i64 7);have c9 : World.cell? _ _ = some (.int .i64 7):=k9.cell 0;have s9:=(s0.below ((Below.refl _ _).alloc (Nat.le_refl _) (.cells #[.int .i64 7] 113))).err hbw hsz hlt hf 0 (.int .i64 7);refine ⟨.tuple #[.int .i64 0,.int .i64 7],by simp [results,Tryz.results16,go_sem,c9],?_⟩;rw [HR.out];exact ⟨rfl,s9⟩
  · have hd : decide ((si : Int) < 1099511627776) = true:=decide_eq_true (by omega)
    have hlt9 : (si : Int) < 1099511627776:=by omega
    by_cases hroom : sb.length + (frm (told 2 (si + 1))).length≤size
    · have hr : bumpD size ⟨sb,su,sv,si⟩ = (si + 1,0,⟨sb ++ frm (told 2 (si + 1)),su,sv,si + 1⟩):=by
        unfold bumpD
        rw [if_neg h9]
        simp only
        rw [if_pos hroom]
      have hw : writeD size sb (told 2 (si + 1)) = (0,sb ++ frm (told 2 (si + 1))):=by rw [told_write,if_pos hroom]
      have HR:=Lib.hid hr;have HW:=Lib.hid hw;clear hr hw;go_wp2_with fail;refine (must_yes (b:=decide ((si : Int) < 1099511627776)) hd _ _).mono ?_;rintro e w2 ⟨rfl,rfl⟩;go_wp2_with fail;refine (told_lit 2 2 _ (si + 1) rfl (by first | rfl | omega) (by omega) _).mono ?_;rintro e w2 ⟨A2,n2,c2',rfl,o2,b2⟩;have s2:=s0.below b2;have k2:=k0.below b2 k0.lt;have hle:=ownsRow_le o2.2;go_wp2_with fail;refine (write_any A2 n2 c2' _ (told 2 (si + 1)) _ b g size su sv si sb E w2 s2.blk s2.disk hl hs o2.rd (Nat.le_refl _) hle.1 hle.2).mono ?_;rw [HW.out];rintro e w3 ⟨he,d3⟩;obtain rfl : e = .returned (.tuple #[]):=he;have k3:=d3.kept k2 (s2.nk hsz hnF);obtain ⟨F3,s3⟩:=s2.op d3;have e3 : w3.cell? ⟨b,3,none⟩ = some (.int .i64 (si : Nat)):=s3.blk.cell 3;have z0 : w3.cell? ⟨w.heap.size,0,none⟩ = some (.int .i64 0):=k3.cell 0;have z1 : w3.frozen? ⟨w.heap.size,0,none⟩ = false:=k3.free 0;have g3:=s3.blk.free 3;have s5 : SW w0 F b g size ⟨_,su,sv,si + 1⟩ E F3 (World.setCell _ ⟨b,3,none⟩ (.int .i64 ((si : Int) + 1))):=s3.set_ (u':=su) (v':=sv) (i':=si + 1) (s3.blk.set_ 3 (.int .i64 ((si : Int) + 1)));have e5 : World.cell? _ ⟨b,3,none⟩ = some (.int .i64 ((si : Int) + 1)):=s5.blk.cell 3;have k4:=k3.far (p:=⟨b,3,none⟩) hne (.int .i64 ((si : Int) + 1));have f5:=k4.free 0;have H5:=Lib.hid s5;have K4:=Lib.hid k4;clear s2 s3 s5 s0 k0 k2 k3 k4 d3 o2 hd hlt9;go_wp2_with fail;have c4 : World.cell? _ _ = some (.int .i64 0):=(K4.out.set_ 0 (.int .i64 0)).cell 0;refine leaves_cons (f:=38) (args:=#[.pointer (some ⟨w.heap.size,0,none⟩)]) (by simp) (by simp [go_sem]) ?_
      refine (caught_none _ _).mono ?_;rintro e u' w'' ⟨rfl,rfl,rfl⟩;refine ⟨.tuple #[.int .i64 ((si : Int) + 1),.int .i64 0],by simp [results,Tryz.results16,go_sem,c4],?_⟩;rw [HR.out];exact ⟨rfl,H5.out.err hbw hsz hlt hf 0 (.int .i64 0)⟩
    · have hr : bumpD size ⟨sb,su,sv,si⟩ = (0,7,⟨sb,su,sv,si⟩):=by
        unfold bumpD
        rw [if_neg h9]
        simp only
        rw [if_neg hroom]
      have hw : writeD size sb (told 2 (si + 1)) = (7,sb):=by rw [told_write,if_neg hroom]
      have HR:=Lib.hid hr;have HW:=Lib.hid hw;clear hr hw;go_wp2_with fail;refine (must_yes (b:=decide ((si : Int) < 1099511627776)) hd _ _).mono ?_;rintro e w2 ⟨rfl,rfl⟩;go_wp2_with fail;refine (told_lit 2 2 _ (si + 1) rfl (by first | rfl | omega) (by omega) _).mono ?_;rintro e w2 ⟨A2,n2,c2',rfl,o2,b2⟩;have s2:=s0.below b2;have k2:=k0.below b2 k0.lt;have hle:=ownsRow_le o2.2;go_wp2_with fail;refine (write_any A2 n2 c2' _ (told 2 (si + 1)) _ b g size su sv si sb E w2 s2.blk s2.disk hl hs o2.rd (Nat.le_refl _) hle.1 hle.2).mono ?_;rw [HW.out];rintro e w3 ⟨he,d3⟩;obtain rfl : e = .panicked [{ v:=flt ((7 : Nat) : Int),recovered:=false }]:=he;have k3:=d3.kept k2 (s2.nk hsz hnF);obtain ⟨F3,s3⟩:=s2.op d3;go_wp2_with fail;refine leaves_cons (f:=38) (args:=#[.pointer (some ⟨w.heap.size,0,none⟩)]) (by simp) (by simp [go_sem]) ?_;refine (caught_panic w.heap.size 7 [] (.int .i64 0) _ (k3.cell 0) (k3.free 0)).mono ?_;rintro e u' w'' ⟨rfl,rfl,rfl⟩;have k9:=(k3.alloc (.cells #[.int .i64 7] 113)).set_ 0 (.int .i64 7);have c9 : World.cell? _ _ = some (.int .i64 7):=k9.cell 0;have s9:=(s3.below ((Below.refl _ _).alloc (Nat.le_refl _) (.cells #[.int .i64 7] 113))).err hbw hsz hlt hf 0 (.int .i64 7);refine ⟨.tuple #[.int .i64 0,.int .i64 7],by simp [results,Tryz.results16,go_sem,c9],?_⟩;rw [HR.out];exact ⟨rfl,s9⟩
end Sto.Stp
end Go.Proofs.YtfpenfgmpbdakaaGreat

namespace Go.Proofs.YtfpenfgmpbdakaaGreat
set_option linter.unusedVariables false
set_option linter.unusedSimpArgs false
set_option maxRecDepth 100000
open Go.RowKit
open Dot Evt
open Disk
namespace Sto.Stp
open _root_.Go.Proofs.YtfpenfgmpbdakaaGreat.Frame (frm frms frms_nil frms_cons frms_snoc frms_append frm_length frm_pos Parts AllF)
structure SoV where
  F : Nat→Prop
  b : Nat
  g : Nat
  A : Option Addr
  n : Nat
  c : Nat
  xs : List EvV
def SoV.foot (s : SoV) (k : Nat) : Prop:=s.F k∨k = s.b∨EvF s.A s.xs k
def SoV.evs (s : SoV) : List Ev:=s.xs.map (·.e)
structure PS (w0 : World) (size : Nat) (S : Sd) (s : SoV) (w : World) : Prop where
  at_ : StoAt w s.F s.b s.g size S (.slice s.A s.n s.c)
  ev : EvsAt w s.F s.b w0.heap.size s.A s.n s.c s.xs
  fs : ∀ k,s.foot k→w0.heap.size≤k
section
variable {w0 w w1 w2 : World} {size : Nat} {S S' T T' : Sd} {s t s' t' : SoV} {G F : Nat→Prop} {evs : List Ev}
theorem EvsAt.keepO {b base n c : Nat} {A : Option Addr} {xs : List EvV} (h : EvsAt w F b base A n c xs) (ho : Only G w w1) (hG : ∀ k,EvF A xs k→¬ G k) : EvsAt w1 F b base A n c xs:=by
  obtain ⟨l1,l2⟩:=h.lt
  exact ⟨⟨h.row.1,ownsRow_keep h.row.2 fun k hk=>ho.block k (l1 k hk) (hG k (.inl hk))⟩,
    fun x hx=>⟨(h.own x hx).1,⟨(h.own x hx).2.1.1,ownsRow_keep (h.own x hx).2.1.2 fun k hk=>ho.block k (l2 x hx k hk) (hG k (.inr ⟨x,hx,hk⟩))⟩,(h.own x hx).2.2⟩,h.nf,h.nfx⟩
theorem EvsAt.evlt {b base n c : Nat} {A : Option Addr} {xs : List EvV} (h : EvsAt w F b base A n c xs) : ∀ k,EvF A xs k→base≤k∧k < w.heap.size:=fun k hk=>by
  rcases hk with q | ⟨x,hx,q⟩
  · exact h.row.lt k q
  · exact (h.own x hx).2.1.lt k q
theorem PS.lt (h : PS w0 size S s w) : ∀ k,s.foot k→k < w.heap.size:=fun k hk=>by
  rcases hk with q | rfl | q
  · exact h.at_.1.lt k q
  · exact h.at_.2.1.lt
  · exact (h.ev.evlt k q).2
theorem PS.keepO (h : PS w0 size S s w) (ho : Only G w w1) (hG : ∀ k,s.foot k→¬ G k) : PS w0 size S s w1 :=
  ⟨⟨h.at_.1.keep (ho.keeps (fun k hk=>hG k (.inl hk)) h.at_.1.lt),h.at_.2.1.only ho (hG _ (.inr (.inl rfl))),h.at_.2.2⟩,h.ev.keepO ho (fun k hk=>hG k (.inr (.inr hk))),h.fs⟩
theorem PS.op (h : PS w0 size S s w) (hz : w0.heap.size≤w.heap.size) (ho : EOp w s.F s.b s.g size w0.heap.size s.A s.xs S' evs w1) :
    ∃ s',s'.b = s.b∧s'.g = s.g∧PS w0 size S' s' w1∧s'.evs = evs∧Only s.foot w w1∧∀ k,s'.foot k→s.foot k∨w.heap.size≤k:=by
  obtain ⟨F',A',n',c',xs',h1,h2,h3,h4,h5,h6⟩:=ho
  have hf : ∀ k,(⟨F',s.b,s.g,A',n',c',xs'⟩ : SoV).foot k→s.foot k∨w.heap.size≤k:=fun k hk=>by
    rcases hk with q | q | q
    · exact (h5 k q).imp .inl id
    · exact .inl (.inr (.inl q))
    · exact (h6 k q).imp (fun x=>.inr (.inr x)) id
  exact ⟨⟨F',s.b,s.g,A',n',c',xs'⟩,rfl,rfl,⟨h1,h2,fun k hk=>(hf k hk).elim (h.fs k) fun q=>Nat.le_trans hz q⟩,h3,
    h4.mono (fun k hk=>.inl (by
      rcases hk with q | q | q
      · exact .inl q
      · exact .inr (.inl q)
      · exact .inr (.inr (.inl q)))),hf⟩
theorem PS.eop (h : PS w0 size S s w) (ho : StoOp w s.F s.b s.g size S' (.slice s.A s.n s.c) w1) : EOp w s.F s.b s.g size w0.heap.size s.A s.xs S' s.evs w1:=by
  obtain ⟨F',h1,h2,h3⟩:=ho;exact ⟨F',s.A,s.n,s.c,s.xs,h1,h.ev.only h2 h3 (fun k q=>by rcases q with q | q;exact .inl q;exact .inr (.inl q)),rfl,h2.mono (fun k hk=>.inl (by rcases hk with q | q;exact .inl q;exact .inr (.inl q))),h3,fun k hk=>.inl hk⟩
structure Two (w0 : World) (size : Nat) (F : Nat→Prop) (g : Nat) (d : Db) (G : Nat→Prop) (r : Nat) (e : Db) (w : World) : Prop where
  p : DiskD w F g size d
  q : RefD w G r size e
  pf : ∀ k,F k→w0.heap.size≤k
  qf : ∀ k,G k→w0.heap.size≤k
  ap : ∀ k,F k→¬ G k
  bel : Below w0.heap.size w0 w
variable {g r : Nat} {d e d' e' : Db}
theorem Two.below (h : Two w0 size F g d G r e w) (hb : Below w.heap.size w w1) : Two w0 size F g d G r e w1:=⟨h.p.below hb,h.q.below hb,h.pf,h.qf,h.ap,h.bel.trans (hb.mono h.bel.size)⟩
theorem Two.left (h : Two w0 size F g d G r e w) (ho : DiskOpD w F g size d' w1) : ∃ F',Two w0 size F' g d' G r e w1∧Only F w w1∧Grows F F' w:=by
  obtain ⟨F',h1,h2,h3⟩:=ho;refine ⟨F',⟨h1,h.q.keep (h2.keeps (fun k hk q=>h.ap k q hk) h.q.lt),fun k hk=>?_,h.qf,fun k hk q=>?_,h.bel.trans (h2.to_below h.pf h.bel.size)⟩,h2,h3⟩
  · rcases h3 k hk with q | q
    · exact h.pf k q
    · have:=h.bel.size;omega
  · rcases h3 k hk with y | y
    · exact h.ap k y q
    · have:=h.q.lt k q;omega
theorem Two.right (h : Two w0 size F g d G r e w) (ho : RefOpD w G r size e' w1) : ∃ G',Two w0 size F g d G' r e' w1∧Only G w w1∧Grows G G' w:=by
  obtain ⟨G',h1,h2,h3⟩:=ho;refine ⟨G',⟨h.p.keep (h2.keeps (fun k hk q=>h.ap k hk q) h.p.lt),h1,h.pf,fun k hk=>?_,fun k hk q=>?_,h.bel.trans (h2.to_below h.qf h.bel.size)⟩,h2,h3⟩
  · rcases h3 k hk with q | q
    · exact h.qf k q
    · have:=h.bel.size;omega
  · rcases h3 k q with y | y
    · exact h.ap k hk y
    · have:=h.p.lt k hk;omega
end
def Db.fits (size : Nat) (d : Db) : Prop:=Fits size d.lasts d.ws∧d.lasts.length + mass d.ws≤40000∧d.ws.length≤9∧size≤16384
theorem Db.of_fits {size : Nat} {b : List UInt8} (hs : size≤16384) (h : b.length≤size) : (Db.of b).fits size:=⟨⟨fun _=>h,fun x hx=>by cases hx⟩,by show b.length + 0≤_;omega,Nat.zero_le _,hs⟩
theorem Db.app_fits {size : Nat} {d : Db} {x : List UInt8} (hs : size≤16384) (h : d.length + x.length≤size) : (d ++ x).fits size:=Db.of_fits (b:=d.v ++ x) hs (by rw [List.length_append];exact h)
theorem Db.fits_len {size : Nat} {d : Db} (h : d.fits size) : d.length≤size:=Fits.read h.1
theorem Db.fits_ok {size : Nat} {d : Db} (h : d.fits size) : d.ok:=⟨by have:=h.2.1;omega,by have:=h.2.2.1;omega,by have:=h.2.1;have:=h.2.2.1;have:=pend_le d.ws;omega⟩
theorem Db.mend_fits {size : Nat} {d : Db} (l : List (List UInt8)) (h : d.fits size) : (mendD d l).fits size:=by
  have:=Db.fits_len h
  unfold mendD
  split
  · exact Db.of_fits h.2.2.2 (by omega)
  · exact h
structure GoodS (size : Nat) (S : Sd) : Prop where
  u : S.used≤S.upto
  p : S.upto≤96
  i : S.inc≤1099511627776
  b : S.b.fits size
theorem GoodS.len {size : Nat} {S : Sd} (h : GoodS size S) : S.b.length≤size:=Db.fits_len h.b
def GoodE (m : Nat) (l : List Ev) : Prop:=l.length≤m∧∀ e ∈ l,e.l.length≤3000
theorem next_out (size : Nat) (S : Sd) (h : GoodS size S) : GoodS size (nextD size S).2.2:=by
  have h1:=h.u;have h2:=h.p
  unfold nextD
  split
  · exact ⟨by simp only;omega,h.p,h.i,h.b⟩
  · split
    · exact h
    · split
      · rename_i q
        exact ⟨by simp only;omega,by simp only;omega,h.i,Db.app_fits h.b.2.2.2 q⟩
      · exact h
theorem bump_out (size : Nat) (S : Sd) (h : GoodS size S) : GoodS size (bumpD size S).2.2:=by
  unfold bumpD
  split
  · exact h
  · split
    · rename_i q
      exact ⟨h.u,h.p,by simp only;omega,Db.app_fits h.b.2.2.2 q⟩
    · exact h
theorem keep_out (size : Nat) (S : Sd) (evs : List Ev) (x : Ev) (h : GoodS size S) {m : Nat} (he : GoodE m evs) (hx : x.l.length≤3000) : GoodS size (keepD size S evs x).2.1∧GoodE (m + 1) (keepD size S evs x).2.2:=by
  have he1 : GoodE (m + 1) evs:=⟨by have:=he.1;omega,he.2⟩
  unfold keepD
  split
  · exact ⟨h,he1⟩
  · split
    · exact ⟨h,he1⟩
    · split
      · rename_i q
        refine ⟨⟨h.u,h.p,h.i,Db.app_fits h.b.2.2.2 q⟩,⟨by simp only [List.length_append,List.length_cons,List.length_nil];have:=he.1;omega,fun e hq=>?_⟩⟩
        rcases List.mem_append.1 hq with q | q
        · exact he.2 e q
        · rw [List.mem_singleton.1 q];exact hx
      · exact ⟨h,he1⟩
theorem compact_out (size : Nat) (S : Sd) (evs l : List Ev) (h : GoodS size S) {m : Nat} (he : GoodE m evs) (hl : GoodE m l) : GoodS size (compactD size S evs l).2.1∧GoodE (m + 1) (compactD size S evs l).2.2:=by
  have he1 : GoodE (m + 1) evs:=⟨by have:=he.1;omega,he.2⟩;have hl1 : GoodE (m + 1) l:=⟨by have:=hl.1;omega,hl.2⟩
  unfold compactD
  split
  · split
    · exact ⟨⟨h.u,h.p,h.i,Db.of_fits h.b.2.2.2 (by assumption)⟩,hl1⟩
    · exact ⟨h,he1⟩
  · exact ⟨h,he1⟩
def appendD (size : Nat) (d : Db) (x : List UInt8) : Nat × Db:=if d.length + x.length≤size then (0,⟨d.lasts,d.ws ++ [(false,x)]⟩) else (7,d)
def crashD (d : Db) (n : Nat) : Db:=Db.of (afterL d.lasts d.ws n)
theorem append_out {size : Nat} {d : Db} (x : List UInt8) (h : d.fits size) : Fits size (appendD size d x).2.lasts (appendD size d x).2.ws∧(appendD size d x).2.ok:=by
  obtain ⟨h0,h1,h2,hs⟩:=h;have hpl:=pend_le d.ws
  by_cases q : d.length + x.length≤size
  · have hx : x.length≤16384:=by omega
    rw [show appendD size d x = (0,⟨d.lasts,d.ws ++ [(false,x)]⟩) from if_pos q];refine ⟨Fits.app h0 q,?_,?_,?_⟩
    · show d.lasts.length + mass (d.ws ++ [(false,x)])≤_
      rw [mass_append]
      simp [mass]
      omega
    · show (d.ws ++ [(false,x)]).length≤_
      simp
      omega
    · show pend (d.ws ++ [(false,x)])≤_
      have:=pend_le (d.ws ++ [(false,x)])
      rw [mass_append] at this
      simp [mass] at this
      omega
  · rw [show appendD size d x = (7,d) from if_neg q]
    exact ⟨h0,Db.fits_ok ⟨h0,h1,h2,hs⟩⟩
theorem crash_fits {size : Nat} {d : Db} (n : Nat) (hs : size≤16384) (h : Fits size d.lasts d.ws) : (crashD d n).fits size:=Db.of_fits hs (h.1 n)
theorem dappend_any (A : Option Addr) (n c B : Nat) (bs : List UInt8) (F : Nat→Prop) (g size : Nat) (d : Db) (w : World) (hD : DiskD w F g size d) (hs : size≤16384) (hok : (appendD size d bs).2.ok) (hb : RdB w B A n bs) :
    Calls Tryz.prog 10 #[.pointer (some ⟨g,0,none⟩),.slice A n c] w (DLogEnd w F g size (appendD size d bs)):=by
  have hn:=hb.1;have h1:=hD.2.1;have h2:=hD.2.2.1
  by_cases h : d.length + bs.length≤size
  · have he : appendD size d bs = (0,⟨d.lasts,d.ws ++ [(false,bs)]⟩):=if_pos h
    rw [he] at hok ⊢
    exact (append_any A n c B bs F g size d.lasts d.ws w hD.1 (by omega) (by omega) (by omega) hb (by have e : d.length = (readL d.lasts d.ws).length:=rfl;omega)).mono fun e w' ⟨he,ho⟩=>⟨he,DiskOpD.of ho hok⟩
  · have he : appendD size d bs = (7,d):=if_neg h
    rw [he]
    exact (append_full A n c F g size d.lasts d.ws w hD.1 (by omega) (by omega) (by omega) (by have e : d.length = (readL d.lasts d.ws).length:=rfl;omega)).mono fun e w' ⟨he,hb⟩=>⟨he,F,hD.below hb,Only.of_below F hb,Grows.refl _ _⟩
theorem dcrash_any (keep : Int) (F : Nat→Prop) (g size : Nat) (d : Db) (w : World) (hD : DiskD w F g size d) (hs : size≤16384) (hf : Fits size d.lasts d.ws) (h2 : keep≤9223372036854775807) :
    Calls Tryz.prog 24 #[.pointer (some ⟨g,0,none⟩),.int .i64 keep] w fun e w'=>e = .returned (.tuple #[])∧DiskOpD w F g size (crashD d keep.toNat) w':=by
  have h1:=hD.2.1;have h3:=hD.2.2.1;have hok:=Db.fits_ok (crash_fits (size:=size) keep.toNat hs hf)
  by_cases h : keep < 0
  · rw [show keep.toNat = 0 by omega] at hok ⊢
    exact (crash_neg keep F g size d.lasts d.ws w hD.1 (by omega) (by omega) h).mono fun e w' ⟨he,ho⟩=>⟨he,DiskOpD.of ho hok⟩
  · obtain ⟨k,rfl⟩:=Int.eq_ofNat_of_zero_le (show 0≤keep by omega)
    exact (crash_nat k F g size d.lasts d.ws w hD.1 (by omega) (by omega) (by omega)).mono fun e w' ⟨he,ho⟩=>⟨he,DiskOpD.of ho hok⟩
end Sto.Stp
end Go.Proofs.YtfpenfgmpbdakaaGreat

namespace Go.Proofs.YtfpenfgmpbdakaaGreat
set_option linter.unusedVariables false
set_option linter.unusedSimpArgs false
set_option maxRecDepth 100000
open Go.RowKit
open Dot Evt
open Disk
namespace Sto.Stp
open _root_.Go.Proofs.YtfpenfgmpbdakaaGreat.Frame (frm frms frms_nil frms_cons frms_snoc frms_append frm_length frm_pos Parts AllF)
section
variable {w0 w w1 : World} {size g r m m' hc : Nat} {d : Db} {sv tv : Value} {F G : Nat→Prop}
end
theorem OwnD.onlyG {w w1 : World} {G : Nat→Prop} {base m c : Nat} {A : Option Addr} {l : List Dt} (h : OwnD w base A m c l) (ho : Only G w w1) (hG : ∀ k,G k→k < base) : OwnD w1 base A m c l :=
  ⟨h.1,ownsRow_keep h.2 fun k hk=>ho.block k (h.lt k hk).2 fun q=>by have:=hG k q;have:=(h.lt k hk).1;omega⟩
theorem OwnEv.onlyG {w w1 : World} {G : Nat→Prop} {base n' c' : Nat} {A' : Option Addr} {ys : List EvV} (h : OwnEv w base A' n' c' ys) (ho : Only G w w1) (hG : ∀ k,G k→k < base) : OwnEv w1 base A' n' c' ys :=
  ⟨h.1,ownsRow_keep h.2 fun k hk=>ho.block k (h.lt k hk).2 fun q=>by have:=hG k q;have:=(h.lt k hk).1;omega⟩
theorem EvOwn.onlyG {w w1 : World} {G : Nat→Prop} {base : Nat} {y : EvV} (h : EvOwn w base y) (ho : Only G w w1) (hG : ∀ k,G k→k < base) : EvOwn w1 base y:=⟨h.1,OwnD.onlyG h.2.1 ho hG,h.2.2⟩
theorem PS.small {w0 w : World} {size m : Nat} {S : Sd} {s : SoV} (h : PS w0 size S s w) (hg : GoodE m s.evs) : s.n≤m∧∀ y ∈ s.xs,y.m≤3000:=⟨by rw [h.ev.row.1,← List.length_map (f:=(·.e))];exact hg.1,fun y hy=>by rw [(h.ev.own y hy).2.1.1];exact hg.2 _ (List.mem_map_of_mem hy)⟩
section
variable {w0 w : World} {size M B n2 c2 : Nat} {S T : Sd} {s t : SoV}
end
end Sto.Stp
end Go.Proofs.YtfpenfgmpbdakaaGreat

namespace Go.Proofs.YtfpenfgmpbdakaaGreat
set_option linter.unusedVariables false
set_option linter.unusedSimpArgs false
set_option maxRecDepth 100000
open Dot Evt
theorem flat_nat (l : List Nat) : l.flatMap Vint.enc = encN l:=rfl
theorem encD_eq (l : List Dt) : encN ((dotNums l).map Int.toNat) = encD l:=by
  rw [dotNums_nat]
  induction l with
  | nil=>rfl
  | cons a l ih =>
    show encN (a.1.toNat :: a.2.toNat :: dotN l) = Vint.enc a.1.toNat ++ Vint.enc a.2.toNat ++ encD l
    rw [encN_cons,encN_cons,ih,List.append_assoc]
theorem encE_eq (x : Ev) : encE x = Vint.enc x.d.1.toNat ++ (Vint.enc x.d.2.toNat ++ (Vint.enc x.t.toNat ++ (Vint.enc x.k.toNat ++ (Vint.enc x.w.toNat ++ (if x.k = 1 then Vint.enc x.v.toNat else (if x.k = 2 then encN (x.p.map Int.toNat) else []) ++ (Vint.enc x.l.length ++ encD x.l)))))):=by
  unfold encE numsE
  rw [List.map_append,encN_app]
  have h1 : encN (([x.d.1,x.d.2,x.t,x.k,x.w] : List Int).map Int.toNat) = Vint.enc x.d.1.toNat ++ (Vint.enc x.d.2.toNat ++ (Vint.enc x.t.toNat ++ (Vint.enc x.k.toNat ++ Vint.enc x.w.toNat))):=by simp [encN]
  rw [h1]
  by_cases hk : x.k = 1
  · rw [if_pos hk,if_pos hk]
    simp [encN]
  · rw [if_neg hk,if_neg hk,List.map_append,List.map_append,encN_app,encN_app,encD_eq]
    by_cases h2 : x.k = 2
    · rw [if_pos h2,if_pos h2]
      simp [encN]
    · rw [if_neg h2,if_neg h2]
      simp [encN]
theorem decE_enc {x : Ev} (hp : x.p.length = 7) (hx : rightE x = true) (r : List UInt8) : decE (encE x ++ r) = .ok (x,r):=by
  obtain ⟨⟨a0,a1,a2,a3,a4,a5⟩,hpb,h96,hdd⟩:=right_facts hp hx;have t1 : Vint.top = 1099511627776:=rfl;have t2 : top = 1099511627776:=rfl
  have hk : kindB x = true:=by
    unfold rightE at hx
    simp only [Bool.and_eq_true] at hx
    exact hx.2
  have hL:=decL_enc x.l h96 (fun d hd=>by have:=hdd d hd;omega) r;obtain ⟨⟨n,q⟩,t,k,wk,v,p,l⟩:=x
  simp only at a0 a1 a2 a3 a4 a5 h96 hdd hp hL hpb
  rw [encE_eq]
  simp only
  obtain ⟨n,rfl⟩:=Int.eq_ofNat_of_zero_le a0.1;obtain ⟨q,rfl⟩:=Int.eq_ofNat_of_zero_le a1.1;obtain ⟨t,rfl⟩:=Int.eq_ofNat_of_zero_le a2.1;obtain ⟨k,rfl⟩:=Int.eq_ofNat_of_zero_le (show 0≤k by omega);obtain ⟨wk,rfl⟩:=Int.eq_ofNat_of_zero_le a4.1
  simp only [Int.toNat_natCast,List.append_assoc]
  unfold decE
  simp only [Vint.dec_enc (show n≤Vint.top by omega),Vint.dec_enc (show q≤Vint.top by omega),Vint.dec_enc (show t≤Vint.top by omega),Vint.dec_enc (show k≤Vint.top by omega)]
  rw [if_pos (show 1≤k∧k≤3 by omega)]
  simp only [Vint.dec_enc (show wk≤Vint.top by omega)]
  unfold decK
  unfold kindB at hk
  simp only at hk
  by_cases k1 : k = 1
  · have k1' : (k : Int) = 1:=by omega
    rw [if_pos k1'] at hk ⊢
    simp only [Bool.and_eq_true,decide_eq_true_eq,inB_iff] at hk
    obtain ⟨⟨rfl,hv⟩,rfl⟩:=hk;obtain ⟨v,rfl⟩:=Int.eq_ofNat_of_zero_le hv.1;rw [if_pos k1]
    simp only [Int.toNat_natCast,Vint.dec_enc (show v≤Vint.top by omega)]
  · have k1' : ¬ (k : Int) = 1:=by omega
    rw [if_neg k1'] at hk ⊢;rw [if_neg k1]
    by_cases k2 : k = 2
    · have k2' : (k : Int) = 2:=by omega
      rw [if_pos k2'] at hk ⊢
      simp only [Bool.and_eq_true,decide_eq_true_eq] at hk
      obtain ⟨_,rfl⟩:=hk;rw [if_pos k2]
      have hpl : (p.map Int.toNat).length = 7:=by rw [List.length_map,hp]
      have hb : ∀ z ∈ p,0≤z∧z≤1099511627776:=by
        match p,hp with
        | [p0,p1,p2,p3,p4,p5,p6],_ =>
          intro z hz
          simp at hpb hz
          omega
      have hds:=decs_enc (p.map Int.toNat) (Vint.enc l.length ++ (encD l ++ r)) (fun z hz=>by
        obtain ⟨y,hy,rfl⟩:=List.mem_map.1 hz
        have:=hb y hy
        omega)
      rw [hpl,flat_nat] at hds;rw [List.append_assoc,List.append_assoc,hds]
      simp only [hL]
      have hback : (p.map Int.toNat).map (fun z : Nat=>(z : Int)) = p:=by
        rw [List.map_map]
        conv=>rhs;rw [← List.map_id p]
        refine List.map_congr_left fun z hz=>?_
        have:=hb z hz
        simp only [Function.comp,id]
        omega
      rw [hback]
    · have k2' : ¬ (k : Int) = 2:=by omega
      rw [if_neg k2'] at hk ⊢
      have k3' : (k : Int) = 3:=by omega
      rw [if_pos k3'] at hk
      simp only [Bool.and_eq_true,decide_eq_true_eq] at hk
      obtain ⟨rfl,rfl⟩:=hk;rw [if_neg k2,List.nil_append,List.append_assoc,hL]
end Go.Proofs.YtfpenfgmpbdakaaGreat

namespace Go.Proofs.YtfpenfgmpbdakaaGreat
set_option linter.unusedVariables false
set_option linter.unusedSimpArgs false
set_option maxRecDepth 100000
open Go.RowKit
open Disk
namespace Sto
open _root_.Go.Proofs.YtfpenfgmpbdakaaGreat.Log (writeM LogEnd lwrite_any)
open _root_.Go.Proofs.YtfpenfgmpbdakaaGreat.Frame (frm frms frms_nil frms_cons frms_snoc frms_append frm_length frm_pos Parts AllF)
set_option maxHeartbeats 1000000 in
theorem next_any (S : Sd) (E : Value) (F : Nat→Prop) (b g size : Nat) (w : World) (h : StoAt w F b g size S E) (hu : S.used≤S.upto) (hU : S.upto≤96) (hs : size≤16384) (hl : S.b.length≤16384) :
    Calls Tryz.prog 14 #[.pointer (some ⟨b,0,none⟩)] w (NumOp w F b g size E (nextD size S)):=by
  have k0:=Blk.new w 27 #[.int .i64 0];have hbw : Below w.heap.size w (w.alloc (.cells #[.int .i64 0] 27)):=(Below.refl _ _).alloc (Nat.le_refl _) _
  have hsz : w.heap.size < (w.alloc (.cells #[.int .i64 0] 27)).heap.size:=by simp
  have s0:=(h.below hbw).sw;have hlt : b < w.heap.size:=h.2.1.lt;have hf : ∀ k,F k→k < w.heap.size:=h.1.lt
  have hnF : ¬ F w.heap.size:=fun q=>by have:=hf _ q;omega
  have hne : w.heap.size ≠ b:=by omega
  clear h;obtain ⟨sb,su,sv,si⟩:=S
  simp only at *
  have c1:=s0.blk.cell 1;have c2:=s0.blk.cell 2;have f1:=s0.blk.free 1
  go_enter_defers Tryz.func14,Tryz.ntmps14
  go_wp2_with fail
  generalize w.alloc (.cells #[.int .i64 0] 27) = w0 at *
  by_cases hx : su < sv
  · have hq : ((su : Int) == (sv : Int)) = false:=by rw [beq_eq_false_iff_ne];omega
    have hr : nextD size ⟨sb,su,sv,si⟩ = (su + 1,0,⟨sb,su + 1,sv,si⟩):=by unfold nextD;rw [if_pos hx]
    have HR:=Lib.hid hr;have H0:=Lib.hid s0;have K0:=Lib.hid k0;clear hr s0 k0
    go_quiet (fail)
    have s9:=H0.out.drewN nq;have k9:=K0.out.below (below_drewN (Below.refl _ _) nq) K0.out.lt
    generalize w0.drewN nq = wq at *
    have e1 : wq.cell? ⟨b,1,none⟩ = some (.int .i64 (su : Nat)):=s9.blk.cell 1;have g1:=s9.blk.free 1;have s1 : SW w0 F b g size ⟨sb,su + 1,sv,si⟩ E F (wq.setCell ⟨b,1,none⟩ (.int .i64 ((su : Int) + 1))):=s9.set_ (u':=su + 1) (v':=sv) (i':=si) (s9.blk.set_ 1 (.int .i64 ((su : Int) + 1)));have k1:=k9.far (p:=⟨b,1,none⟩) hne (.int .i64 ((su : Int) + 1));have f0 : wq.frozen? ⟨w.heap.size,0,none⟩ = false:=k9.free 0;have f00 : wq.cell? ⟨w.heap.size,0,none⟩ = some (.int .i64 0):=k9.cell 0;have d1 : World.cell? _ ⟨b,1,none⟩ = some (.int .i64 ((su : Int) + 1)):=s1.blk.cell 1;have H1:=Lib.hid s1;have K1:=Lib.hid k1;clear s1 k1 s9 k9 H0 K0;go_wp2_with fail;have c4 : World.cell? _ _ = some (.int .i64 0):=(K1.out.set_ 0 (.int .i64 0)).cell 0;refine leaves_cons (f:=38) (args:=#[.pointer (some ⟨w.heap.size,0,none⟩)]) (by simp) (by simp [go_sem]) ?_;refine (caught_none _ _).mono ?_;rintro e u' w'' ⟨rfl,rfl,rfl⟩;refine ⟨.tuple #[.int .i64 ((su : Int) + 1),.int .i64 0],by simp [results,Tryz.results14,go_sem,c4],?_⟩;rw [HR.out];exact ⟨rfl,H1.out.err hbw hsz hlt hf 0 (.int .i64 0)⟩
  · obtain rfl : su = sv:=by omega
    have hq : ((su : Int) == (su : Int)) = true:=by simp
    by_cases h9 : 96≤su
    · have hr : nextD size ⟨sb,su,su,si⟩ = (0,7,⟨sb,su,su,si⟩):=by unfold nextD;rw [if_neg hx,if_pos h9]
      have HR:=Lib.hid hr;have hd : decide ((su : Int) < ((min (su + 8) 96 : Nat) : Int)) = false:=decide_eq_false (by omega)
      have hdl : ¬ (su : Int) < ((min (su + 8) 96 : Nat) : Int):=by omega
      have H0:=Lib.hid s0;have K0:=Lib.hid k0;clear hr s0 k0
      go_quiet (fail)
      have H1:=Lib.hid (H0.out.drewN nq);have K1:=Lib.hid (K0.out.below (below_drewN (Below.refl _ _) nq) K0.out.lt)
      generalize w0.drewN nq = wq at *
      have e1 : wq.cell? ⟨b,1,none⟩ = some (.int .i64 (su : Nat)):=H1.out.blk.cell 1;have e2 : wq.cell? ⟨b,2,none⟩ = some (.int .i64 (su : Nat)):=H1.out.blk.cell 2;go_wp2_with fail;refine (must_no (b:=decide ((su : Int) < 96)) (decide_eq_false (by omega)) _ _).mono ?_;rintro e w2 ⟨rfl,rfl⟩;go_wp2_with fail;refine leaves_cons (f:=38) (args:=#[.pointer (some ⟨w.heap.size,0,none⟩)]) (by simp) (by simp [go_sem]) ?_;refine (caught_panic w.heap.size 7 [] (.int .i64 0) _ (K1.out.cell 0) (K1.out.free 0)).mono ?_;rintro e u' w'' ⟨rfl,rfl,rfl⟩;have k9:=(K1.out.alloc (.cells #[.int .i64 7] 113)).set_ 0 (.int .i64 7);have c9 : World.cell? _ _ = some (.int .i64 7):=k9.cell 0;have s9:=(H1.out.below ((Below.refl _ _).alloc (Nat.le_refl _) (.cells #[.int .i64 7] 113))).err hbw hsz hlt hf 0 (.int .i64 7);refine ⟨.tuple #[.int .i64 0,.int .i64 7],by simp [results,Tryz.results14,go_sem,c9],?_⟩;rw [HR.out];exact ⟨rfl,s9⟩
    · obtain ⟨M,hM⟩ : ∃ M,M = min (su + 8) 96:=⟨_,rfl⟩
      have hM9 : M≤96:=by omega
      rcases Nat.lt_or_ge 96 (su + 8) with h8 | h8
      · have hV : (M : Int) = 96:=by omega
        have hv8 : 96 < (su : Int) + 8:=by omega
        by_cases hroom : sb.length + (frm (told 1 M)).length≤size
        · have hr : nextD size ⟨sb,su,su,si⟩ = (su + 1,0,⟨sb ++ frm (told 1 M),su + 1,M,si⟩):=by
            unfold nextD
            rw [if_neg hx,if_neg h9]
            simp only
            rw [← hM,if_pos hroom]
          have hw : writeM size sb [] (told 1 M) = (0,sb ++ frm (told 1 M),[]):=by rw [told_write,if_pos hroom]
          have HR:=Lib.hid hr;have HW:=Lib.hid hw;have H0:=Lib.hid s0;have K0:=Lib.hid k0;clear hr hw s0 k0
          go_quiet (fail)
          have H1:=Lib.hid (H0.out.drewN nq);have K1:=Lib.hid (K0.out.below (below_drewN (Below.refl _ _) nq) K0.out.lt)
          generalize w0.drewN nq = wq at *
          have e1 : wq.cell? ⟨b,1,none⟩ = some (.int .i64 (su : Nat)):=H1.out.blk.cell 1;have e2 : wq.cell? ⟨b,2,none⟩ = some (.int .i64 (su : Nat)):=H1.out.blk.cell 2;go_wp2_with fail;refine (must_yes (b:=decide ((su : Int) < 96)) (decide_eq_true (by omega)) _ _).mono ?_;rintro e w2 ⟨rfl,rfl⟩;go_wp2_with fail;refine (told_lit 1 1 (96) M rfl (by omega) (by omega) _).mono ?_;rintro e w2 ⟨A2,n2,c2',rfl,o2,b2⟩;have s2:=H1.out.below b2;have k2:=K1.out.below b2 K1.out.lt;have hle:=ownsRow_le o2.2;go_wp2_with fail;refine (write_any A2 n2 c2' _ (told 1 M) _ b g size su su si sb E w2 s2.blk s2.disk hl hs o2.rd (Nat.le_refl _) hle.1 hle.2).mono ?_;rw [HW.out];rintro e w3 ⟨he,d3⟩;obtain rfl : e = .returned (.tuple #[]):=he;have k3:=d3.kept k2 (s2.nk hsz hnF);obtain ⟨F3,s3⟩:=s2.op d3;have s4 : SW w0 F b g size ⟨_,su,M,si⟩ E F3 (World.setCell _ ⟨b,2,none⟩ (.int .i64 (96))):=s3.set_ (u':=su) (v':=M) (i':=si) (show Blk _ b _ (sc g su M si E) by rw [← hV];exact s3.blk.set_ 2 (.int .i64 (M : Nat)));have e4 : World.cell? _ ⟨b,1,none⟩ = some (.int .i64 (su : Nat)):=s4.blk.cell 1;have f4:=s4.blk.free 1;have g3:=s3.blk.free 2;have s5 : SW w0 F b g size ⟨_,su + 1,M,si⟩ E F3 (World.setCell _ ⟨b,1,none⟩ (.int .i64 ((su : Int) + 1))):=s4.set_ (u':=su + 1) (v':=M) (i':=si) (s4.blk.set_ 1 (.int .i64 ((su : Int) + 1)));have e5 : World.cell? _ ⟨b,1,none⟩ = some (.int .i64 ((su : Int) + 1)):=s5.blk.cell 1;have e3 : w3.cell? ⟨b,1,none⟩ = some (.int .i64 (su : Nat)):=s3.blk.cell 1;have g1 : w3.frozen? ⟨b,1,none⟩ = false:=s3.blk.free 1
          have e6 : w3.cell? ⟨b,2,none⟩ = some (.int .i64 (su : Nat)):=s3.blk.cell 2;have z0 : w3.cell? ⟨w.heap.size,0,none⟩ = some (.int .i64 0):=k3.cell 0;have z1 : w3.frozen? ⟨w.heap.size,0,none⟩ = false:=k3.free 0;have k4:=(k3.far (p:=⟨b,2,none⟩) hne (.int .i64 (96))).far (p:=⟨b,1,none⟩) hne (.int .i64 ((su : Int) + 1));have f5:=k4.free 0;have H5:=Lib.hid s5;have K4:=Lib.hid k4;clear s2 s3 s4 s5 k2 k3 k4 d3 o2;go_wp2_with fail;have c4 : World.cell? _ _ = some (.int .i64 0):=(K4.out.set_ 0 (.int .i64 0)).cell 0;refine leaves_cons (f:=38) (args:=#[.pointer (some ⟨w.heap.size,0,none⟩)]) (by simp) (by simp [go_sem]) ?_;refine (caught_none _ _).mono ?_;rintro e u' w'' ⟨rfl,rfl,rfl⟩;refine ⟨.tuple #[.int .i64 ((su : Int) + 1),.int .i64 0],by simp [results,Tryz.results14,go_sem,c4],?_⟩;rw [HR.out];exact ⟨rfl,H5.out.err hbw hsz hlt hf 0 (.int .i64 0)⟩
        · have hr : nextD size ⟨sb,su,su,si⟩ = (0,7,⟨sb,su,su,si⟩):=by
            unfold nextD
            rw [if_neg hx,if_neg h9]
            simp only
            rw [← hM,if_neg hroom]
          have hw : writeM size sb [] (told 1 M) = (7,sb,[]):=by rw [told_write,if_neg hroom]
          have HR:=Lib.hid hr;have HW:=Lib.hid hw;have H0:=Lib.hid s0;have K0:=Lib.hid k0;clear hr hw s0 k0
          go_quiet (fail)
          have H1:=Lib.hid (H0.out.drewN nq);have K1:=Lib.hid (K0.out.below (below_drewN (Below.refl _ _) nq) K0.out.lt)
          generalize w0.drewN nq = wq at *
          have e1 : wq.cell? ⟨b,1,none⟩ = some (.int .i64 (su : Nat)):=H1.out.blk.cell 1;have e2 : wq.cell? ⟨b,2,none⟩ = some (.int .i64 (su : Nat)):=H1.out.blk.cell 2;go_wp2_with fail;refine (must_yes (b:=decide ((su : Int) < 96)) (decide_eq_true (by omega)) _ _).mono ?_;rintro e w2 ⟨rfl,rfl⟩;go_wp2_with fail;refine (told_lit 1 1 (96) M rfl (by omega) (by omega) _).mono ?_;rintro e w2 ⟨A2,n2,c2',rfl,o2,b2⟩;have s2:=H1.out.below b2;have k2:=K1.out.below b2 K1.out.lt;have hle:=ownsRow_le o2.2;go_wp2_with fail;refine (write_any A2 n2 c2' _ (told 1 M) _ b g size su su si sb E w2 s2.blk s2.disk hl hs o2.rd (Nat.le_refl _) hle.1 hle.2).mono ?_;rw [HW.out];rintro e w3 ⟨he,d3⟩;obtain rfl : e = .panicked [{ v:=flt ((7 : Nat) : Int),recovered:=false }]:=he;have k3:=d3.kept k2 (s2.nk hsz hnF);obtain ⟨F3,s3⟩:=s2.op d3;go_wp2_with fail;refine leaves_cons (f:=38) (args:=#[.pointer (some ⟨w.heap.size,0,none⟩)]) (by simp) (by simp [go_sem]) ?_;refine (caught_panic w.heap.size 7 [] (.int .i64 0) _ (k3.cell 0) (k3.free 0)).mono ?_;rintro e u' w'' ⟨rfl,rfl,rfl⟩;have k9:=(k3.alloc (.cells #[.int .i64 7] 113)).set_ 0 (.int .i64 7);have c9 : World.cell? _ _ = some (.int .i64 7):=k9.cell 0;have s9:=(s3.below ((Below.refl _ _).alloc (Nat.le_refl _) (.cells #[.int .i64 7] 113))).err hbw hsz hlt hf 0 (.int .i64 7);refine ⟨.tuple #[.int .i64 0,.int .i64 7],by simp [results,Tryz.results14,go_sem,c9],?_⟩;rw [HR.out];exact ⟨rfl,s9⟩
      · have hV : (M : Int) = (su : Int) + 8:=by omega
        have hv8 : ¬ 96 < (su : Int) + 8:=by omega
        by_cases hroom : sb.length + (frm (told 1 M)).length≤size
        · have hr : nextD size ⟨sb,su,su,si⟩ = (su + 1,0,⟨sb ++ frm (told 1 M),su + 1,M,si⟩):=by
            unfold nextD
            rw [if_neg hx,if_neg h9]
            simp only
            rw [← hM,if_pos hroom]
          have hw : writeM size sb [] (told 1 M) = (0,sb ++ frm (told 1 M),[]):=by rw [told_write,if_pos hroom]
          have HR:=Lib.hid hr;have HW:=Lib.hid hw;have H0:=Lib.hid s0;have K0:=Lib.hid k0;clear hr hw s0 k0
          go_quiet (fail)
          have H1:=Lib.hid (H0.out.drewN nq);have K1:=Lib.hid (K0.out.below (below_drewN (Below.refl _ _) nq) K0.out.lt)
          generalize w0.drewN nq = wq at *
          have e1 : wq.cell? ⟨b,1,none⟩ = some (.int .i64 (su : Nat)):=H1.out.blk.cell 1;have e2 : wq.cell? ⟨b,2,none⟩ = some (.int .i64 (su : Nat)):=H1.out.blk.cell 2;go_wp2_with fail;refine (must_yes (b:=decide ((su : Int) < (su : Int) + 8)) (decide_eq_true (by omega)) _ _).mono ?_;rintro e w2 ⟨rfl,rfl⟩;go_wp2_with fail;refine (told_lit 1 1 ((su : Int) + 8) M rfl (by omega) (by omega) _).mono ?_;rintro e w2 ⟨A2,n2,c2',rfl,o2,b2⟩;have s2:=H1.out.below b2;have k2:=K1.out.below b2 K1.out.lt;have hle:=ownsRow_le o2.2;go_wp2_with fail;refine (write_any A2 n2 c2' _ (told 1 M) _ b g size su su si sb E w2 s2.blk s2.disk hl hs o2.rd (Nat.le_refl _) hle.1 hle.2).mono ?_;rw [HW.out];rintro e w3 ⟨he,d3⟩;obtain rfl : e = .returned (.tuple #[]):=he;have k3:=d3.kept k2 (s2.nk hsz hnF);obtain ⟨F3,s3⟩:=s2.op d3;have s4 : SW w0 F b g size ⟨_,su,M,si⟩ E F3 (World.setCell _ ⟨b,2,none⟩ (.int .i64 ((su : Int) + 8))):=s3.set_ (u':=su) (v':=M) (i':=si) (show Blk _ b _ (sc g su M si E) by rw [← hV];exact s3.blk.set_ 2 (.int .i64 (M : Nat)));have e4 : World.cell? _ ⟨b,1,none⟩ = some (.int .i64 (su : Nat)):=s4.blk.cell 1;have f4:=s4.blk.free 1;have g3:=s3.blk.free 2;have s5 : SW w0 F b g size ⟨_,su + 1,M,si⟩ E F3 (World.setCell _ ⟨b,1,none⟩ (.int .i64 ((su : Int) + 1))):=s4.set_ (u':=su + 1) (v':=M) (i':=si) (s4.blk.set_ 1 (.int .i64 ((su : Int) + 1)));have e5 : World.cell? _ ⟨b,1,none⟩ = some (.int .i64 ((su : Int) + 1)):=s5.blk.cell 1;have e3 : w3.cell? ⟨b,1,none⟩ = some (.int .i64 (su : Nat)):=s3.blk.cell 1
          have g1 : w3.frozen? ⟨b,1,none⟩ = false:=s3.blk.free 1;have e6 : w3.cell? ⟨b,2,none⟩ = some (.int .i64 (su : Nat)):=s3.blk.cell 2;have z0 : w3.cell? ⟨w.heap.size,0,none⟩ = some (.int .i64 0):=k3.cell 0;have z1 : w3.frozen? ⟨w.heap.size,0,none⟩ = false:=k3.free 0;have k4:=(k3.far (p:=⟨b,2,none⟩) hne (.int .i64 ((su : Int) + 8))).far (p:=⟨b,1,none⟩) hne (.int .i64 ((su : Int) + 1));have f5:=k4.free 0;have H5:=Lib.hid s5;have K4:=Lib.hid k4;clear s2 s3 s4 s5 k2 k3 k4 d3 o2;go_wp2_with fail;have c4 : World.cell? _ _ = some (.int .i64 0):=(K4.out.set_ 0 (.int .i64 0)).cell 0;refine leaves_cons (f:=38) (args:=#[.pointer (some ⟨w.heap.size,0,none⟩)]) (by simp) (by simp [go_sem]) ?_;refine (caught_none _ _).mono ?_;rintro e u' w'' ⟨rfl,rfl,rfl⟩;refine ⟨.tuple #[.int .i64 ((su : Int) + 1),.int .i64 0],by simp [results,Tryz.results14,go_sem,c4],?_⟩;rw [HR.out];exact ⟨rfl,H5.out.err hbw hsz hlt hf 0 (.int .i64 0)⟩
        · have hr : nextD size ⟨sb,su,su,si⟩ = (0,7,⟨sb,su,su,si⟩):=by
            unfold nextD
            rw [if_neg hx,if_neg h9]
            simp only
            rw [← hM,if_neg hroom]
          have hw : writeM size sb [] (told 1 M) = (7,sb,[]):=by rw [told_write,if_neg hroom]
          have HR:=Lib.hid hr;have HW:=Lib.hid hw;have H0:=Lib.hid s0;have K0:=Lib.hid k0;clear hr hw s0 k0
          go_quiet (fail)
          have H1:=Lib.hid (H0.out.drewN nq);have K1:=Lib.hid (K0.out.below (below_drewN (Below.refl _ _) nq) K0.out.lt)
          generalize w0.drewN nq = wq at *
          have e1 : wq.cell? ⟨b,1,none⟩ = some (.int .i64 (su : Nat)):=H1.out.blk.cell 1;have e2 : wq.cell? ⟨b,2,none⟩ = some (.int .i64 (su : Nat)):=H1.out.blk.cell 2;go_wp2_with fail;refine (must_yes (b:=decide ((su : Int) < (su : Int) + 8)) (decide_eq_true (by omega)) _ _).mono ?_;rintro e w2 ⟨rfl,rfl⟩;go_wp2_with fail;refine (told_lit 1 1 ((su : Int) + 8) M rfl (by omega) (by omega) _).mono ?_;rintro e w2 ⟨A2,n2,c2',rfl,o2,b2⟩;have s2:=H1.out.below b2;have k2:=K1.out.below b2 K1.out.lt;have hle:=ownsRow_le o2.2;go_wp2_with fail;refine (write_any A2 n2 c2' _ (told 1 M) _ b g size su su si sb E w2 s2.blk s2.disk hl hs o2.rd (Nat.le_refl _) hle.1 hle.2).mono ?_;rw [HW.out];rintro e w3 ⟨he,d3⟩;obtain rfl : e = .panicked [{ v:=flt ((7 : Nat) : Int),recovered:=false }]:=he;have k3:=d3.kept k2 (s2.nk hsz hnF);obtain ⟨F3,s3⟩:=s2.op d3;go_wp2_with fail;refine leaves_cons (f:=38) (args:=#[.pointer (some ⟨w.heap.size,0,none⟩)]) (by simp) (by simp [go_sem]) ?_;refine (caught_panic w.heap.size 7 [] (.int .i64 0) _ (k3.cell 0) (k3.free 0)).mono ?_;rintro e u' w'' ⟨rfl,rfl,rfl⟩;have k9:=(k3.alloc (.cells #[.int .i64 7] 113)).set_ 0 (.int .i64 7);have c9 : World.cell? _ _ = some (.int .i64 7):=k9.cell 0;have s9:=(s3.below ((Below.refl _ _).alloc (Nat.le_refl _) (.cells #[.int .i64 7] 113))).err hbw hsz hlt hf 0 (.int .i64 7);refine ⟨.tuple #[.int .i64 0,.int .i64 7],by simp [results,Tryz.results14,go_sem,c9],?_⟩;rw [HR.out];exact ⟨rfl,s9⟩
end Sto
end Go.Proofs.YtfpenfgmpbdakaaGreat

namespace Go.Proofs.YtfpenfgmpbdakaaGreat
set_option linter.unusedVariables false
set_option linter.unusedSimpArgs false
set_option maxRecDepth 100000
open Go.RowKit
open Disk
namespace Sto
open _root_.Go.Proofs.YtfpenfgmpbdakaaGreat.Log (writeM LogEnd lwrite_any)
open _root_.Go.Proofs.YtfpenfgmpbdakaaGreat.Frame (frm frms frms_nil frms_cons frms_snoc frms_append frm_length frm_pos Parts AllF)
set_option maxHeartbeats 2000000 in
theorem bump_any (S : Sd) (E : Value) (F : Nat→Prop) (b g size : Nat) (w : World) (h : StoAt w F b g size S E) (hi : S.inc≤1099511627776) (hs : size≤16384) (hl : S.b.length≤16384) :
    Calls Tryz.prog 16 #[.pointer (some ⟨b,0,none⟩)] w (NumOp w F b g size E (bumpD size S)):=by
  have k0:=Blk.new w 27 #[.int .i64 0];have hbw : Below w.heap.size w (w.alloc (.cells #[.int .i64 0] 27)):=(Below.refl _ _).alloc (Nat.le_refl _) _
  have hsz : w.heap.size < (w.alloc (.cells #[.int .i64 0] 27)).heap.size:=by simp
  have s0:=(h.below hbw).sw;have hlt : b < w.heap.size:=h.2.1.lt;have hf : ∀ k,F k→k < w.heap.size:=h.1.lt
  have hnF : ¬ F w.heap.size:=fun q=>by have:=hf _ q;omega
  have hne : w.heap.size ≠ b:=by omega
  clear h;obtain ⟨sb,su,sv,si⟩:=S
  simp only at *
  have c3:=s0.blk.cell 3;have f3:=s0.blk.free 3
  go_enter_defers Tryz.func16,Tryz.ntmps16
  go_wp2_with fail
  generalize w.alloc (.cells #[.int .i64 0] 27) = w0 at *
  by_cases h9 : 1099511627776≤si
  · have hr : bumpD size ⟨sb,su,sv,si⟩ = (0,7,⟨sb,su,sv,si⟩):=by unfold bumpD;rw [if_pos h9]
    have HR:=Lib.hid hr;have hd : decide ((si : Int) < 1099511627776) = false:=decide_eq_false (by omega)
    have hlt9 : ¬ (si : Int) < 1099511627776:=by omega
    clear hr;go_wp2_with fail;refine (must_bad _ _).mono ?_;rintro e w2 ⟨rfl,rfl⟩;go_wp2_with fail;refine leaves_cons (f:=38) (args:=#[.pointer (some ⟨w.heap.size,0,none⟩)]) (by simp) (by simp [go_sem]) ?_;refine (caught_panic w.heap.size 7 [] (.int .i64 0) _ (k0.cell 0) (k0.free 0)).mono ?_;rintro e u' w'' ⟨rfl,rfl,rfl⟩;have k9:=(k0.alloc (.cells #[.int .i64 7] 113)).set_ 0 (.int .i64 7);have c9 : World.cell? _ _ = some (.int .i64 7):=k9.cell 0;have s9:=(s0.below ((Below.refl _ _).alloc (Nat.le_refl _) (.cells #[.int .i64 7] 113))).err hbw hsz hlt hf 0 (.int .i64 7);refine ⟨.tuple #[.int .i64 0,.int .i64 7],by simp [results,Tryz.results16,go_sem,c9],?_⟩;rw [HR.out];exact ⟨rfl,s9⟩
  · have hd : decide ((si : Int) < 1099511627776) = true:=decide_eq_true (by omega)
    have hlt9 : (si : Int) < 1099511627776:=by omega
    by_cases hroom : sb.length + (frm (told 2 (si + 1))).length≤size
    · have hr : bumpD size ⟨sb,su,sv,si⟩ = (si + 1,0,⟨sb ++ frm (told 2 (si + 1)),su,sv,si + 1⟩):=by
        unfold bumpD
        rw [if_neg h9]
        simp only
        rw [if_pos hroom]
      have hw : writeM size sb [] (told 2 (si + 1)) = (0,sb ++ frm (told 2 (si + 1)),[]):=by rw [told_write,if_pos hroom]
      have HR:=Lib.hid hr;have HW:=Lib.hid hw;clear hr hw;go_wp2_with fail;refine (must_yes (b:=decide ((si : Int) < 1099511627776)) hd _ _).mono ?_;rintro e w2 ⟨rfl,rfl⟩;go_wp2_with fail;refine (told_lit 2 2 _ (si + 1) rfl (by first | rfl | omega) (by omega) _).mono ?_;rintro e w2 ⟨A2,n2,c2',rfl,o2,b2⟩;have s2:=s0.below b2;have k2:=k0.below b2 k0.lt;have hle:=ownsRow_le o2.2;go_wp2_with fail;refine (write_any A2 n2 c2' _ (told 2 (si + 1)) _ b g size su sv si sb E w2 s2.blk s2.disk hl hs o2.rd (Nat.le_refl _) hle.1 hle.2).mono ?_;rw [HW.out];rintro e w3 ⟨he,d3⟩;obtain rfl : e = .returned (.tuple #[]):=he;have k3:=d3.kept k2 (s2.nk hsz hnF);obtain ⟨F3,s3⟩:=s2.op d3;have e3 : w3.cell? ⟨b,3,none⟩ = some (.int .i64 (si : Nat)):=s3.blk.cell 3;have z0 : w3.cell? ⟨w.heap.size,0,none⟩ = some (.int .i64 0):=k3.cell 0;have z1 : w3.frozen? ⟨w.heap.size,0,none⟩ = false:=k3.free 0;have g3:=s3.blk.free 3;have s5 : SW w0 F b g size ⟨_,su,sv,si + 1⟩ E F3 (World.setCell _ ⟨b,3,none⟩ (.int .i64 ((si : Int) + 1))):=s3.set_ (u':=su) (v':=sv) (i':=si + 1) (s3.blk.set_ 3 (.int .i64 ((si : Int) + 1)));have e5 : World.cell? _ ⟨b,3,none⟩ = some (.int .i64 ((si : Int) + 1)):=s5.blk.cell 3;have k4:=k3.far (p:=⟨b,3,none⟩) hne (.int .i64 ((si : Int) + 1));have f5:=k4.free 0;have H5:=Lib.hid s5;have K4:=Lib.hid k4;clear s2 s3 s5 s0 k0 k2 k3 k4 d3 o2 hd hlt9;go_wp2_with fail;have c4 : World.cell? _ _ = some (.int .i64 0):=(K4.out.set_ 0 (.int .i64 0)).cell 0;refine leaves_cons (f:=38) (args:=#[.pointer (some ⟨w.heap.size,0,none⟩)]) (by simp) (by simp [go_sem]) ?_
      refine (caught_none _ _).mono ?_;rintro e u' w'' ⟨rfl,rfl,rfl⟩;refine ⟨.tuple #[.int .i64 ((si : Int) + 1),.int .i64 0],by simp [results,Tryz.results16,go_sem,c4],?_⟩;rw [HR.out];exact ⟨rfl,H5.out.err hbw hsz hlt hf 0 (.int .i64 0)⟩
    · have hr : bumpD size ⟨sb,su,sv,si⟩ = (0,7,⟨sb,su,sv,si⟩):=by
        unfold bumpD
        rw [if_neg h9]
        simp only
        rw [if_neg hroom]
      have hw : writeM size sb [] (told 2 (si + 1)) = (7,sb,[]):=by rw [told_write,if_neg hroom]
      have HR:=Lib.hid hr;have HW:=Lib.hid hw;clear hr hw;go_wp2_with fail;refine (must_yes (b:=decide ((si : Int) < 1099511627776)) hd _ _).mono ?_;rintro e w2 ⟨rfl,rfl⟩;go_wp2_with fail;refine (told_lit 2 2 _ (si + 1) rfl (by first | rfl | omega) (by omega) _).mono ?_;rintro e w2 ⟨A2,n2,c2',rfl,o2,b2⟩;have s2:=s0.below b2;have k2:=k0.below b2 k0.lt;have hle:=ownsRow_le o2.2;go_wp2_with fail;refine (write_any A2 n2 c2' _ (told 2 (si + 1)) _ b g size su sv si sb E w2 s2.blk s2.disk hl hs o2.rd (Nat.le_refl _) hle.1 hle.2).mono ?_;rw [HW.out];rintro e w3 ⟨he,d3⟩;obtain rfl : e = .panicked [{ v:=flt ((7 : Nat) : Int),recovered:=false }]:=he;have k3:=d3.kept k2 (s2.nk hsz hnF);obtain ⟨F3,s3⟩:=s2.op d3;go_wp2_with fail;refine leaves_cons (f:=38) (args:=#[.pointer (some ⟨w.heap.size,0,none⟩)]) (by simp) (by simp [go_sem]) ?_;refine (caught_panic w.heap.size 7 [] (.int .i64 0) _ (k3.cell 0) (k3.free 0)).mono ?_;rintro e u' w'' ⟨rfl,rfl,rfl⟩;have k9:=(k3.alloc (.cells #[.int .i64 7] 113)).set_ 0 (.int .i64 7);have c9 : World.cell? _ _ = some (.int .i64 7):=k9.cell 0;have s9:=(s3.below ((Below.refl _ _).alloc (Nat.le_refl _) (.cells #[.int .i64 7] 113))).err hbw hsz hlt hf 0 (.int .i64 7);refine ⟨.tuple #[.int .i64 0,.int .i64 7],by simp [results,Tryz.results16,go_sem,c9],?_⟩;rw [HR.out];exact ⟨rfl,s9⟩
end Sto
end Go.Proofs.YtfpenfgmpbdakaaGreat

namespace Go.Proofs.YtfpenfgmpbdakaaGreat
set_option linter.unusedVariables false
set_option linter.unusedSimpArgs false
set_option maxRecDepth 100000
open Go.RowKit
open Disk
namespace Sto
open _root_.Go.Proofs.YtfpenfgmpbdakaaGreat.Log (writeM LogEnd lwrite_any)
open _root_.Go.Proofs.YtfpenfgmpbdakaaGreat.Frame (frm frms frms_nil frms_cons frms_snoc frms_append frm_length frm_pos Parts)
structure SL (w : World) (F : Nat→Prop) (b g size : Nat) (S : Sd) (w1 : World) : Prop where
  at_ : StoAt w1 F b g size S (.slice none 0 0)
  fs : ∀ k,F k→w.heap.size≤k
  hb : w.heap.size≤b
  bel : Below w.heap.size w w1
theorem SL.op {w w1 w2 : World} {F : Nat→Prop} {b g size : Nat} {S S' : Sd} (h : SL w F b g size S w1) (ho : StoOp w1 F b g size S' (.slice none 0 0) w2) : ∃ F',SL w F' b g size S' w2:=by
  obtain ⟨F',a,o,gr⟩:=ho;refine ⟨F',a,fun k hk=>?_,h.hb,h.bel.trans (o.to_below (fun k hk=>?_) h.bel.size)⟩
  · rcases gr k hk with q | q
    · exact h.fs k q
    · have:=h.bel.size;omega
  · rcases hk with q | rfl
    · exact h.fs k q
    · exact h.hb
theorem SL.below {w w1 w2 : World} {F : Nat→Prop} {b g size : Nat} {S : Sd} (h : SL w F b g size S w1) (hb : Below w1.heap.size w1 w2) : SL w F b g size S w2:=⟨h.at_.below hb,h.fs,h.hb,h.bel.trans (hb.mono h.bel.size)⟩
theorem SL.dl {w w1 : World} {F : Nat→Prop} {b g size : Nat} {S : Sd} (h : SL w F b g size S w1) : DL w F g size S.b [] w1:=⟨h.at_.1,h.fs,h.bel⟩
theorem open_recs (l : List (List UInt8)) (F : Nat→Prop) (g size u i : Nat) (w w1 : World) (hD : DL w F g size (frms l) [] w1) (hx : ∀ x ∈ l,x.length≤4096∧x.head? ≠ some 3) (hm : (frms l).length≤size) (hs : size≤16384) (hr : recsM (0,0) l = some (u,i)) :
    Calls Tryz.prog 12 #[.pointer (some ⟨g,0,none⟩)] w1 fun e w2=>∃ b F',e = .returned (.tuple #[.pointer (some ⟨b,0,none⟩),.int .i64 0])∧SL w F' b g size ⟨frms l,u,u,i⟩ w2:=by
  have hp : Parts (frms l) l []:=⟨by rw [List.append_nil],fun x h=>(hx x h).1,3,rfl⟩;refine (open_any F g size (frms l) w1 hD.1 hm hs (fun l' r' h x hx'=>?_)).mono ?_
  · obtain ⟨rfl,rfl⟩:=hp.same h
    exact (hx x hx').2
  · rintro e w2 ⟨l',r',F',hp',o,gr,h⟩
    obtain ⟨rfl,rfl⟩:=hp.same hp';rw [hr] at h;obtain ⟨b,he,ha,hb⟩:=h;have hz:=hD.2.2.size;exact ⟨b,F',he,ha,fun k hk=>by rcases gr k hk with q | q;exact hD.2.1 k q;omega,by omega,hD.2.2.trans (o.to_below hD.2.1 hz)⟩
theorem told_frm (k : UInt8) (n : Nat) (hn : n < 128) : (frm (told k n)).length = 8:=by
  rw [frm_length]
  have : Vint.enc n = [UInt8.ofNat n]:=by unfold Vint.enc Vint.encF;rw [if_pos hn]
  unfold told
  rw [this]
  rfl
theorem num_told (most n : Nat) (h : n≤most) (h2 : n≤1099511627776) : numM most (Vint.enc n) = some n:=by
  have:=Vint.dec_enc (n:=n) (by unfold Vint.top;exact h2) []
  rw [List.append_nil] at this
  unfold numM
  rw [this]
  simp [h]
theorem rec_told1 (s : Nat × Nat) (n : Nat) (h : n≤96) : recM s (told 1 n) = some (max s.1 n,s.2):=by
  unfold recM told
  simp only [if_pos,num_told 96 n h (by omega)]
  rfl
theorem rec_told2 (s : Nat × Nat) (n : Nat) (h : n≤1099511627776) : recM s (told 2 n) = some (s.1,max s.2 n):=by
  rw [show told 2 n = 2 :: Vint.enc n from rfl,recM_cons,if_neg (by decide),if_pos rfl,num_told _ n h h]
  rfl
theorem al1 : nextD 100 ⟨[],0,0,0⟩ = (1,0,⟨frms [told 1 8],1,8,0⟩):=by
  unfold nextD
  simp only
  rw [if_neg (by omega),if_neg (by omega),if_pos (by rw [told_frm _ _ (by omega)];simp),frms_cons,frms_nil]
  simp
theorem al2 : nextD 100 ⟨frms [told 1 8],1,8,0⟩ = (2,0,⟨frms [told 1 8],2,8,0⟩):=by
  unfold nextD
  simp only
  rw [if_pos (by omega)]
theorem al3 : bumpD 100 ⟨frms [told 1 8],2,8,0⟩ = (1,0,⟨frms [told 1 8,told 2 1],2,8,1⟩):=by
  unfold bumpD
  simp only
  rw [if_neg (by omega),if_pos (by rw [frms_cons,frms_nil,List.append_nil,told_frm _ _ (by omega),told_frm _ _ (by omega)];omega),show [told 1 8,told 2 1] = [told 1 8] ++ [told 2 1] from rfl,frms_snoc]
theorem al4 : recsM (0,0) [told 1 8,told 2 1] = some (8,1):=by
  show (match recM (0,0) (told 1 8) with | none=>none | some s'=>recsM s' [told 2 1]) = some (8,1)
  rw [rec_told1 _ _ (by omega)]
  show (match recM (8,0) (told 2 1) with | none=>none | some s'=>recsM s' []) = some (8,1)
  rw [rec_told2 _ _ (by omega)]
  rfl
theorem al_len : (frms [told 1 8,told 2 1]).length = 16:=by rw [frms_cons,frms_cons,frms_nil,List.append_nil,List.length_append,told_frm _ _ (by omega),told_frm _ _ (by omega)]
theorem al5 : nextD 100 ⟨frms [told 1 8,told 2 1],8,8,1⟩ = (9,0,⟨frms [told 1 8,told 2 1,told 1 16],9,16,1⟩):=by
  unfold nextD
  simp only
  rw [if_neg (by omega),if_neg (by omega),if_pos (by rw [al_len,told_frm _ _ (by omega)];omega),show [told 1 8,told 2 1,told 1 16] = [told 1 8,told 2 1] ++ [told 1 16] from rfl,frms_snoc]
  rfl
theorem al_len2 : (frms [told 1 8,told 2 1,told 1 16]).length = 24:=by rw [show [told 1 8,told 2 1,told 1 16] = [told 1 8,told 2 1] ++ [told 1 16] from rfl,frms_snoc,List.length_append,al_len,told_frm _ _ (by omega)]
theorem al6 : bumpD 100 ⟨frms [told 1 8,told 2 1,told 1 16],9,16,1⟩ = (2,0,⟨frms [told 1 8,told 2 1,told 1 16] ++ frm (told 2 2),9,16,2⟩):=by
  unfold bumpD
  simp only
  rw [if_neg (by omega),if_pos (by rw [al_len2,told_frm _ _ (by omega)];omega)]
set_option maxRecDepth 100000 in
set_option maxHeartbeats 2000000 in
theorem alive15 (w : World) : Calls Tryz.prog 6 #[] w fun e w'=>e = .returned (.bool true)∧Below w.heap.size w w':=by
  go_enter Tryz.func6,Tryz.ntmps6
  go_wp2_with fail;refine (dnew_any 100 w (by omega) (by omega)).mono ?_;rintro e w1 ⟨g,F1,rfl,hD1,hF1,hb1⟩;have L1:=DL.of_new (Below.refl _ w) hD1 hF1 hb1;clear hD1 hb1 hF1;go_wp2_with fail;refine (open_recs [] F1 g 100 0 0 w w1 L1 (by simp) (by simp [frms_nil]) (by omega) rfl).mono ?_;rintro e w2 ⟨b2,F2,rfl,S2⟩;clear L1;go_wp2_with fail;refine (next_any _ _ F2 b2 g 100 w2 S2.at_ (Nat.le_refl 0) (Nat.zero_le _) (by omega) (by simp [frms_nil])).mono ?_;rw [show frms [] = [] from frms_nil,al1];rintro e w3 ⟨rfl,q3⟩;obtain ⟨F3,S3⟩:=S2.op q3;clear S2 q3;go_wp2_with fail;refine (next_any _ _ F3 b2 g 100 w3 S3.at_ (by simp) (by simp) (by omega) (by simp only;rw [frms_cons,frms_nil,List.append_nil,told_frm _ _ (by omega)];omega)).mono ?_;rw [al2];rintro e w4 ⟨rfl,q4⟩;obtain ⟨F4,S4⟩:=S3.op q4;clear S3 q4;go_wp2_with fail;refine (bump_any _ _ F4 b2 g 100 w4 S4.at_ (by simp) (by omega) (by simp only;rw [frms_cons,frms_nil,List.append_nil,told_frm _ _ (by omega)];omega)).mono ?_;rw [al3];rintro e w5 ⟨rfl,q5⟩;obtain ⟨F5,S5⟩:=S4.op q5;clear S4 q5;go_wp2_with fail;refine (open_recs [told 1 8,told 2 1] F5 g 100 8 1 w w5 S5.dl (by intro x hx;rcases List.mem_cons.1 hx with rfl | hx;exact ⟨by have:=told_len 1 8;omega,by simp [told]⟩;obtain rfl:=List.mem_singleton.1 hx;exact ⟨by have:=told_len 2 1;omega,by simp [told]⟩) (by rw [al_len];omega) (by omega) al4).mono ?_;rintro e w6 ⟨b6,F6,rfl,S6⟩;clear S5;go_wp2_with fail;refine (next_any _ _ F6 b6 g 100 w6 S6.at_ (by simp) (by simp) (by omega) (by simp only;rw [al_len];omega)).mono ?_
  rw [al5];rintro e w7 ⟨rfl,q7⟩;obtain ⟨F7,S7⟩:=S6.op q7;clear S6 q7;go_wp2_with fail;refine (bump_any _ _ F7 b6 g 100 w7 S7.at_ (by simp) (by omega) (by simp only;rw [al_len2];omega)).mono ?_;rw [al6];rintro e w8 ⟨rfl,q8⟩;obtain ⟨F8,S8⟩:=S7.op q8;have b8:=S8.bel;clear S7 q8 S8;go_wp2_with fail;refine (next_nil w8).mono ?_;rintro e w9 ⟨rfl,b9⟩;have b9:=b8.trans (b9.mono b8.size);clear b8;go_wp2_with fail;go_ret;exact ⟨rfl,b9⟩
end Sto
end Go.Proofs.YtfpenfgmpbdakaaGreat

namespace Go.Proofs.YtfpenfgmpbdakaaGreat
set_option linter.unusedVariables false
set_option linter.unusedSimpArgs false
set_option maxRecDepth 100000
open Go.RowKit
open Dot Evt
open Disk
namespace Sto.Stp
open _root_.Go.Proofs.YtfpenfgmpbdakaaGreat.Frame (frm frms frms_nil frms_cons frms_snoc frms_append frm_length frm_pos Parts AllF)
structure KI (S : Sd) (evs : List Ev) (rs : List (List UInt8)) : Prop where
  b : S.b = Db.of (frms rs)
  small : ∀ x ∈ rs,x.length≤4096
  says : recsE ⟨0,0,[]⟩ rs = some ⟨S.upto,S.inc,evs⟩
  ev : ∀ x ∈ evs,x.p.length = 7∧rightE x = true
theorem KI.start : KI ⟨⟨[],[]⟩,0,0,0⟩ [] []:=⟨rfl,fun x hx=>(by cases hx),rfl,fun x hx=>(by cases hx)⟩
theorem of_app (rs : List (List UInt8)) (x : List UInt8) : Db.of (frms rs) ++ frm x = Db.of (frms (rs ++ [x])):=by
  show Db.mk (frms rs ++ frm x) [] = _
  rw [← frms_snoc]
  rfl
theorem recE_told1 (s : RS) {n : Nat} (h : n≤96) : recE s (told 1 n) = some ⟨max s.u n,s.i,s.l⟩:=by
  have e:=rec_told1 (s.u,s.i) n h
  show recE s (1 :: Vint.enc n) = _
  rw [recE_cons,if_neg (by decide)];have e : recM (s.u,s.i) (1 :: Vint.enc n) = some (max s.u n,s.i):=e;rw [e]
  rfl
theorem recE_told2 (s : RS) {n : Nat} (h : n≤1099511627776) : recE s (told 2 n) = some ⟨s.u,max s.i n,s.l⟩:=by
  have e:=rec_told2 (s.u,s.i) n h
  show recE s (2 :: Vint.enc n) = _
  rw [recE_cons,if_neg (by decide)];have e : recM (s.u,s.i) (2 :: Vint.enc n) = some (s.u,max s.i n):=e;rw [e]
  rfl
theorem getEv_put {x : Ev} (hp : x.p.length = 7) (hr : rightE x = true) : getEv (putE x).1 = (x,0):=by
  have e:=decE_enc hp hr [];rw [List.append_nil] at e
  unfold getEv putE
  rw [if_pos hr]
  simp only
  rw [e]
  simp [hr]
theorem recE_told3 (s : RS) {x : Ev} (hp : x.p.length = 7) (hr : rightE x = true) (hh : hasE s.l x.d = false) : recE s (told3 x) = some ⟨s.u,s.i,s.l ++ [x]⟩:=by
  unfold told3
  rw [recE_cons,if_pos rfl,getEv_put hp hr,if_pos rfl]
  unfold addE
  rw [if_neg (by simp only [hh];decide)]
theorem KI.next {size : Nat} {S : Sd} {evs : List Ev} {rs : List (List UInt8)} (h : KI S evs rs) (hg : GoodS size S) : (∃ rs',KI (nextD size S).2.2 evs rs')∧(nextD size S).2.2.inc = S.inc ∧
    (((nextD size S).2.1 = 0∧(nextD size S).1 = S.used + 1∧(nextD size S).2.2.used = S.used + 1)∨((nextD size S).2.1 = 7∧(nextD size S).2.2.used = S.used)):=by
  have hU:=hg.p
  unfold nextD
  split
  · exact ⟨⟨rs,h.b,h.small,h.says,h.ev⟩,rfl,.inl ⟨rfl,rfl,rfl⟩⟩
  · split
    · exact ⟨⟨rs,h⟩,rfl,.inr ⟨rfl,rfl⟩⟩
    · split
      · refine ⟨⟨rs ++ [told 1 (min (S.upto + 8) 96)],by show S.b ++ _ = _;rw [h.b,of_app],fun x hx=>?_,?_,h.ev⟩,rfl,.inl ⟨rfl,rfl,rfl⟩⟩
        · rcases List.mem_append.1 hx with q | q
          · exact h.small x q
          · rw [List.mem_singleton.1 q];have:=told_len 1 (min (S.upto + 8) 96);omega
        · rw [recsE_snoc,h.says]
          simp only
          rw [recE_told1 _ (by omega)]
          simp only
          rw [show max S.upto (min (S.upto + 8) 96) = min (S.upto + 8) 96 by omega]
      · exact ⟨⟨rs,h⟩,rfl,.inr ⟨rfl,rfl⟩⟩
theorem KI.bump {size : Nat} {S : Sd} {evs : List Ev} {rs : List (List UInt8)} (h : KI S evs rs) (hg : GoodS size S) : (∃ rs',KI (bumpD size S).2.2 evs rs')∧(bumpD size S).2.2.used = S.used ∧
    (((bumpD size S).2.1 = 0∧(bumpD size S).1 = S.inc + 1∧(bumpD size S).2.2.inc = S.inc + 1)∨((bumpD size S).2.1 = 7∧(bumpD size S).2.2.inc = S.inc)):=by
  unfold bumpD
  split
  · exact ⟨⟨rs,h⟩,rfl,.inr ⟨rfl,rfl⟩⟩
  · split
    · refine ⟨⟨rs ++ [told 2 (S.inc + 1)],by show S.b ++ _ = _;rw [h.b,of_app],fun x hx=>?_,?_,h.ev⟩,rfl,.inl ⟨rfl,rfl,rfl⟩⟩
      · rcases List.mem_append.1 hx with q | q
        · exact h.small x q
        · rw [List.mem_singleton.1 q];have:=told_len 2 (S.inc + 1);omega
      · rw [recsE_snoc,h.says]
        simp only
        rw [recE_told2 _ (by omega)]
        simp only
        rw [show max S.inc (S.inc + 1) = S.inc + 1 by omega]
    · exact ⟨⟨rs,h⟩,rfl,.inr ⟨rfl,rfl⟩⟩
theorem KI.keep {size : Nat} {S : Sd} {evs : List Ev} {rs : List (List UInt8)} (h : KI S evs rs) (hg : GoodS size S) {x : Ev} (hp : x.p.length = 7) : (∃ rs',KI (keepD size S evs x).2.1 (keepD size S evs x).2.2 rs')∧(keepD size S evs x).2.1.used = S.used∧(keepD size S evs x).2.1.inc = S.inc ∧
    (((keepD size S evs x).1 = 0∧(keepD size S evs x).2.2 = evs ++ [x]∧rightE x = true)∨((keepD size S evs x).1 ≠ 0∧(keepD size S evs x).2.2 = evs)):=by
  unfold keepD
  split
  · exact ⟨⟨rs,h⟩,rfl,rfl,.inr ⟨by simp,rfl⟩⟩
  · rename_i hr
    split
    · exact ⟨⟨rs,h⟩,rfl,rfl,.inr ⟨by simp,rfl⟩⟩
    · rename_i hh
      have hr : rightE x = true:=by cases hq : rightE x;exact absurd hq hr;rfl
      have hh : hasE evs x.d = false:=by cases hq : hasE evs x.d;rfl;exact absurd hq hh
      split
      · refine ⟨⟨rs ++ [told3 x],by show S.b ++ _ = _;rw [h.b,of_app],fun y hy=>?_,?_,fun y hy=>?_⟩,rfl,rfl,.inl ⟨rfl,rfl,hr⟩⟩
        · rcases List.mem_append.1 hy with q | q
          · exact h.small y q
          · rw [List.mem_singleton.1 q];have:=told3_len hp hr;omega
        · rw [recsE_snoc,h.says]
          simp only
          rw [recE_told3 _ hp hr hh]
        · rcases List.mem_append.1 hy with q | q
          · exact h.ev y q
          · rw [List.mem_singleton.1 q];exact ⟨hp,hr⟩
      · exact ⟨⟨rs,h⟩,rfl,rfl,.inr ⟨by simp,rfl⟩⟩
theorem recs_events (u i : Nat) (l : List Ev) : ∀ pre : List Ev,(∀ x ∈ l,x.p.length = 7∧rightE x = true)→(∀ (k : Nat) x,l[k]? = some x→hasE (pre ++ l.take k) x.d = false)→recsE ⟨u,i,pre⟩ (l.map told3) = some ⟨u,i,pre ++ l⟩:=by
  induction l with
  | nil=>intro pre _ _;rw [List.append_nil];rfl
  | cons x l ih =>
    intro pre h1 h2;have hx:=h1 x (List.mem_cons_self ..);have h0:=h2 0 x rfl;rw [List.take_zero,List.append_nil] at h0
    show (match recE ⟨u,i,pre⟩ (told3 x) with | none=>none | some s'=>recsE s' (l.map told3)) = _
    rw [recE_told3 _ hx.1 hx.2 h0]
    simp only
    rw [ih (pre ++ [x]) (fun y hy=>h1 y (List.mem_cons_of_mem _ hy)) (fun k y hk=>by
      have:=h2 (k + 1) y (by simpa using hk)
      rw [List.take_succ_cons] at this;rw [List.append_assoc]
      exact this),List.append_assoc]
    rfl
theorem KI.compact {size : Nat} {S : Sd} {evs l : List Ev} {rs : List (List UInt8)} (h : KI S evs rs) (hg : GoodS size S) (hp : ∀ x ∈ l,x.p.length = 7) : (∃ rs',KI (compactD size S evs l).2.1 (compactD size S evs l).2.2 rs')∧(compactD size S evs l).2.1.used = S.used∧(compactD size S evs l).2.1.inc = S.inc ∧
    (((compactD size S evs l).1 = 0∧(compactD size S evs l).2.2 = l∧∀ x ∈ l,rightE x = true)∨((compactD size S evs l).1 ≠ 0∧(compactD size S evs l).2.2 = evs)):=by
  unfold compactD
  split
  · rename_i hgt
    have hr : ∀ x ∈ l,rightE x = true:=fun x hx=>by
      obtain ⟨i,hi,rfl⟩:=List.getElem_of_mem hx;exact (hgt i _ hi (List.getElem?_eq_getElem hi)).1
    split
    · refine ⟨⟨recsC S l,rfl,fun x hx=>?_,?_,fun x hx=>⟨hp x hx,hr x hx⟩⟩,rfl,rfl,.inl ⟨rfl,rfl,hr⟩⟩
      · unfold recsC at hx
        rcases List.mem_cons.1 hx with rfl | hx
        · have:=told_len 1 S.upto;omega
        · rcases List.mem_cons.1 hx with rfl | hx
          · have:=told_len 2 S.inc;omega
          · obtain ⟨y,hy,rfl⟩:=List.mem_map.1 hx
            have:=told3_len (hp y hy) (hr y hy);omega
      · unfold recsC
        show (match recE ⟨0,0,[]⟩ (told 1 S.upto) with | none=>none | some s'=>recsE s' (told 2 S.inc :: l.map told3)) = _
        rw [recE_told1 _ hg.p]
        show (match recE ⟨max 0 S.upto,0,[]⟩ (told 2 S.inc) with | none=>none | some s'=>recsE s' (l.map told3)) = _
        rw [recE_told2 _ hg.i]
        simp only
        rw [recs_events _ _ l [] (fun x hx=>⟨hp x hx,hr x hx⟩) (fun k x hk=>by
          rw [List.nil_append]
          exact (hgt k x (List.getElem?_eq_some_iff.1 hk).1 hk).2),List.nil_append,Nat.zero_max,Nat.zero_max]
    · exact ⟨⟨rs,h⟩,rfl,rfl,.inr ⟨by simp,rfl⟩⟩
  · exact ⟨⟨rs,h⟩,rfl,rfl,.inr ⟨by simp,rfl⟩⟩
def torn2 (r : List UInt8) : Prop:=r = []∨r = [1]∨r = [1,200]
theorem torn_parts {rs : List (List UInt8)} (hs : ∀ x ∈ rs,x.length≤4096) {r : List UInt8} (h : torn2 r) : Parts (frms rs ++ r) rs r:=by
  refine ⟨rfl,hs,?_⟩
  rcases h with rfl | rfl | rfl
  · exact ⟨3,rfl⟩
  · exact ⟨_,rfl⟩
  · exact ⟨_,rfl⟩
theorem KI.opened {S : Sd} {evs : List Ev} {rs : List (List UInt8)} (h : KI S evs rs) {d : Db} {r : List UInt8} (ht : torn2 r) (hd : d = Db.of (frms rs ++ r)) {l : List (List UInt8)} {rr : List UInt8} (hp : Parts d.v l rr) :
    recsE ⟨0,0,[]⟩ l = some ⟨S.upto,S.inc,evs⟩∧KI ⟨mendD d l,S.upto,S.upto,S.inc⟩ evs l:=by
  subst hd;have hp2:=torn_parts h.small ht;obtain ⟨rfl,rfl⟩:=hp2.same hp;refine ⟨h.says,?_,h.small,h.says,h.ev⟩
  show mendD (Db.of (frms rs ++ r)) rs = Db.of (frms rs)
  unfold mendD
  split
  · rfl
  · rename_i hq
    have e : (Db.of (frms rs ++ r)).length = (frms rs).length + r.length:=List.length_append;have hr : r = []:=List.eq_nil_of_length_eq_zero (by omega);rw [hr,List.append_nil]
theorem crash_torn (size : Nat) (b : List UInt8) (n : Nat) : ∃ r,torn2 r∧crashD (appendD size (Db.of b) [1,200]).2 n = Db.of (b ++ r):=by
  unfold appendD
  split
  · show ∃ r,torn2 r∧Db.of (afterL b [(false,[1,200])] n) = Db.of (b ++ r)
    rcases n with _ | _ | n
    · exact ⟨[],.inl rfl,by rw [List.append_nil];rfl⟩
    · exact ⟨[1],.inr (.inl rfl),rfl⟩
    · refine ⟨[1,200],.inr (.inr rfl),?_⟩
      have:=after_ge [(false,[1,200])] b (n + 1 + 1) (by show 2≤n + 1 + 1;omega)
      rw [this]
      rfl
  · exact ⟨[],.inl rfl,by rw [List.append_nil];rfl⟩
end Sto.Stp
end Go.Proofs.YtfpenfgmpbdakaaGreat

namespace Go.Proofs.YtfpenfgmpbdakaaGreat
set_option linter.unusedVariables false
set_option linter.unusedSimpArgs false
set_option maxRecDepth 100000
open Go.RowKit
open Dot Evt
open Disk
namespace Sto.Stp
open _root_.Go.Proofs.YtfpenfgmpbdakaaGreat.Frame (frm frms frms_nil frms_cons frms_snoc frms_append frm_length frm_pos Parts AllF)
structure One (w0 : World) (size : Nat) (S : Sd) (s : SoV) (w : World) : Prop where
  p : PS w0 size S s w
  bel : Below w0.heap.size w0 w
def OneTo (w0 : World) (size : Nat) (s : SoV) (w : World) (S' : Sd) (evs : List Ev) (w' : World) : Prop:=∃ s',s'.b = s.b∧s'.g = s.g∧One w0 size S' s' w'∧s'.evs = evs∧Only s.foot w w'∧∀ k,s'.foot k→s.foot k∨w.heap.size≤k
section
variable {w0 w w1 : World} {size M n2 c2 : Nat} {S S' : Sd} {s : SoV} {evs : List Ev} {G : Nat→Prop}
theorem One.below (h : One w0 size S s w) (hb : Below w.heap.size w w1) : One w0 size S s w1:=⟨h.p.keepO (Only.of_below (fun _=>False) hb) (fun _ _ q=>q),h.bel.trans (hb.mono h.bel.size)⟩
theorem One.far (h : One w0 size S s w) {b : Nat} (hg : w.grownBy w1 (some b)) (hb : ¬ s.foot b) (h0 : w0.heap.size≤b) : One w0 size S s w1:=by
  have ho : Only (fun k=>k = b) w w1:=Only.of_grown hg rfl;exact ⟨h.p.keepO ho (fun k hk e=>hb (by rw [← e];exact hk)),h.bel.trans (ho.to_below (fun k hk=>by rw [hk];exact h0) h.bel.size)⟩
theorem One.op (h : One w0 size S s w) (ho : EOp w s.F s.b s.g size w0.heap.size s.A s.xs S' evs w1) : OneTo w0 size s w S' evs w1:=by
  obtain ⟨s',e1,e2,h1,h2,h3,h4⟩:=h.p.op h.bel.size ho;exact ⟨s',e1,e2,⟨h1,h.bel.trans (h3.to_below h.p.fs h.bel.size)⟩,h2,h3,h4⟩
theorem One.next (h : One w0 size S s w) (hg : GoodS size S) :
    Calls Tryz.prog 14 #[.pointer (some ⟨s.b,0,none⟩)] w fun e w'=>e = .returned (.tuple #[.int .i64 ((nextD size S).1 : Nat),.int .i64 ((nextD size S).2.1 : Nat)])∧OneTo w0 size s w (nextD size S).2.2 s.evs w':=by
  have hl:=hg.len;have h16:=hg.b.2.2.2;refine (next_any S (.slice s.A s.n s.c) s.F s.b s.g size w h.p.at_ hg.u hg.p h16 (by omega)).mono ?_;rintro e w' ⟨he,ho⟩;exact ⟨he,h.op (h.p.eop ho)⟩
theorem One.bump (h : One w0 size S s w) (hg : GoodS size S) :
    Calls Tryz.prog 16 #[.pointer (some ⟨s.b,0,none⟩)] w fun e w'=>e = .returned (.tuple #[.int .i64 ((bumpD size S).1 : Nat),.int .i64 ((bumpD size S).2.1 : Nat)])∧OneTo w0 size s w (bumpD size S).2.2 s.evs w':=by
  have hl:=hg.len;have h16:=hg.b.2.2.2;refine (bump_any S (.slice s.A s.n s.c) s.F s.b s.g size w h.p.at_ hg.i h16 (by omega)).mono ?_;rintro e w' ⟨he,ho⟩;exact ⟨he,h.op (h.p.eop ho)⟩
theorem One.keep (h : One w0 size S s w) (x : EvV) (hx : ∀ w',Below w0.heap.size w0 w'→EvOk w' w0.heap.size x) (hm : x.m≤3000) (hg : GoodS size S) (he : GoodE M s.evs) (hM : M≤100000) :
    Calls Tryz.prog 18 #[.pointer (some ⟨s.b,0,none⟩),.agg x.cs] w fun e w'=>e = .returned (.int .i64 ((keepD size S s.evs x.e).1 : Nat))∧OneTo w0 size s w (keepD size S s.evs x.e).2.1 (keepD size S s.evs x.e).2.2 w':=by
  have hs:=(h.p.small he).1;have hl:=hg.len;have h16:=hg.b.2.2.2;refine (keep_any x S s.F s.b s.g size w0.heap.size s.A s.n s.c s.xs w h.p.at_ h.p.ev (fun w' ho=>?_) (by omega) (by omega) h.bel.size (by omega) (by omega)).mono ?_
  · have hb:=h.bel.trans (ho.to_below (B:=w0.heap.size) (fun k hk=>h.p.fs k (hk.imp id .inl)) h.bel.size)
    exact (hx w' hb).more hb.size
  · rintro e w' ⟨he,ho⟩
    exact ⟨he,h.op ho⟩
theorem One.compact (h : One w0 size S s w) {A2 : Option Addr} {ys : List EvV} (hx : ∀ w',Below w0.heap.size w0 w'→RowEv w' w0.heap.size A2 n2 ys) (hm : ∀ y ∈ ys,y.m≤3000) (hn2 : n2≤100000) (hnc : n2≤c2) (hcm : c2≤maxLen) (hg : GoodS size S) (he : GoodE M s.evs) (hM : M≤100000) :
    Calls Tryz.prog 21 #[.pointer (some ⟨s.b,0,none⟩),.slice A2 n2 c2] w fun e w'=>e = .returned (.int .i64 ((compactD size S s.evs (ys.map (·.e))).1 : Nat))∧OneTo w0 size s w (compactD size S s.evs (ys.map (·.e))).2.1 (compactD size S s.evs (ys.map (·.e))).2.2 w':=by
  have hs:=(h.p.small he).1;have hl:=hg.len;have h16:=hg.b.2.2.2;refine (compact_any S s.F s.b s.g size w0.heap.size s.A s.n s.c s.xs A2 n2 c2 ys w h.p.at_ h.p.ev (fun w' ho=>?_) (fun y hy=>by have:=hm y hy;omega) hn2 hnc hcm h.bel.size (by omega) (by omega) hg.p hg.i).mono ?_
  · have hb:=h.bel.trans (ho.to_below (B:=w0.heap.size) (fun k hk=>h.p.fs k (hk.imp id .inl)) h.bel.size)
    exact (hx w' hb).more hb.size
  · rintro e w' ⟨he,ho⟩
    exact ⟨he,h.op ho⟩
def OpenedTo (w0 : World) (size g : Nat) (F : Nat→Prop) (S : Sd) (evs : List Ev) (w : World) (e : Ending) (w' : World) : Prop :=
  ∃ S' s' rs',e = .returned (.tuple #[.pointer (some ⟨s'.b,0,none⟩),.int .i64 0])∧s'.g = g∧One w0 size S' s' w'∧s'.evs = evs∧Only F w w'∧(∀ k,s'.foot k→F k∨w.heap.size≤k)∧KI S' evs rs'∧GoodS size S'∧S'.used = S.upto∧S'.upto = S.upto∧S'.inc = S.inc
theorem open1 {F : Nat→Prop} {g : Nat} {d : Db} {rs : List (List UInt8)} {r : List UInt8} (hD : DiskD w F g size d) (hf : d.fits size) (hfs : ∀ k,F k→w0.heap.size≤k) (hb : Below w0.heap.size w0 w) (h : KI S evs rs) (hg : GoodS size S) (ht : torn2 r) (hd : d = Db.of (frms rs ++ r)) :
    Calls Tryz.prog 12 #[.pointer (some ⟨g,0,none⟩)] w (OpenedTo w0 size g F S evs w):=by
  refine (opene_any F g size d w hD (Db.fits_len hf) hf.2.2.2).mono ?_;rintro e w' ⟨l,rr,F',hp,o,gr,hm⟩;obtain ⟨h1,h2⟩:=h.opened ht hd hp;rw [h1] at hm;obtain ⟨b,A,n,c,xs,e1,e2,e3,e4,e5⟩:=hm;have hz:=hb.size
  have hff : ∀ k,(⟨F',b,g,A,n,c,xs⟩ : SoV).foot k→F k∨w.heap.size≤k:=fun k hk=>by
    rcases hk with q | q | q
    · exact gr k q
    · exact .inr (by rw [q];exact e5)
    · exact .inr (e3.evlt k q).1
  refine ⟨_,⟨F',b,g,A,n,c,xs⟩,l,e1,rfl,⟨⟨e2,⟨e3.row.mono hz,fun x hx=>⟨(e3.own x hx).1,(e3.own x hx).2.1.mono hz,(e3.own x hx).2.2⟩,e3.nf,e3.nfx⟩,fun k hk=>(hff k hk).elim (hfs k) fun q=>by omega⟩,hb.trans (o.to_below hfs hz)⟩,e4,o,hff,h2,⟨Nat.le_refl _,hg.p,hg.i,Db.mend_fits l hf⟩,rfl,rfl,rfl⟩
end
end Sto.Stp
end Go.Proofs.YtfpenfgmpbdakaaGreat

namespace Go.Proofs.YtfpenfgmpbdakaaGreat
set_option linter.unusedVariables false
set_option linter.unusedSimpArgs false
set_option maxRecDepth 100000
open Go.RowKit
open Go.Maps (Keyed)
open Dot
namespace Dmap
theorem dotK : Keyed Tryz.prog 42:=Keyed.of_law (deep_law_gate laidOut (of_decide_eq_true (by kernel_rfl)) (of_decide_eq_true (by kernel_rfl)) (by kernel_rfl) (by kernel_rfl))
def u1 : DataW Unit:=.lit (.bool true)
def dv (d : Dt) : Value:=.agg #[.int .i64 d.1,.int .i64 d.2]
def okD (d : Dt) : Prop:=(Lit.int .i64 d.1).wf = true∧(Lit.int .i64 d.2).wf = true
def kD (d : Dt) : Lit:=.string (keyBytes [.int .i64 d.1,.int .i64 d.2])
theorem kD_key (d : Dt) : WideAt.IsKeyLit (kD d):=trivial
theorem lits_int {P : Program} {t : TypeId} (h : P.underlying t = some (.int .i64)) {a : Int} (ha : (Lit.int .i64 a).wf = true) (f : Nat) : P.keyLits (f + 1) t [.int .i64 a] = some [.int .i64 a]:=by
  unfold Program.keyLits
  rw [h]
  simp only [ha,and_self,if_true]
theorem lits_two {P : Program} {t e : TypeId} {f1 f2 : Field} (h : P.underlying t = some (.struct #[f1,f2])) (hc : P.cellsOf t = 2) (n1 : (f1.name != "_") = true) (n2 : (f2.name != "_") = true) (t1 : f1.type = e) (t2 : f2.type = e) (o1 : f1.offset = 0) (o2 : f2.offset = 1)
    (he : P.underlying e = some (.int .i64)) (hi : P.cellsOf e = 1) {a b : Int} (ha : (Lit.int .i64 a).wf = true) (hb : (Lit.int .i64 b).wf = true) (f : Nat) : P.keyLits (f + 2) t [.int .i64 a,.int .i64 b] = some [.int .i64 a,.int .i64 b]:=by
  unfold Program.keyLits
  rw [h];have e1:=lits_int he ha f;have e2:=lits_int he hb f
  simp [hc,n1,n2,t1,t2,o1,o2,hi,e1,e2]
theorem keyOf_two {P : Program} {t e : TypeId} {f1 f2 : Field} (h : P.underlying t = some (.struct #[f1,f2])) (hc : P.cellsOf t = 2) (n1 : (f1.name != "_") = true) (n2 : (f2.name != "_") = true) (t1 : f1.type = e) (t2 : f2.type = e) (o1 : f1.offset = 0) (o2 : f2.offset = 1)
    (he : P.underlying e = some (.int .i64)) (hi : P.cellsOf e = 1) (hk : P.keyType t = true) {f : Nat} (hf : P.types.size + 1 = f + 2) {a b : Int} (hv : (Value.agg #[.int .i64 a,.int .i64 b]).formed P t = true) (ha : (Lit.int .i64 a).wf = true) (hb : (Lit.int .i64 b).wf = true) :
    keyOf P t (.agg #[.int .i64 a,.int .i64 b]) = some (.string (keyBytes [.int .i64 a,.int .i64 b])):=by
  have e:=lits_two h hc n1 n2 t1 t2 o1 o2 he hi ha hb f
  unfold keyOf
  rw [h,hf]
  show (if (P.keyType t && (Value.agg #[.int .i64 a,.int .i64 b]).formed P t) = true then (P.keyLits (f + 2) t [.int .i64 a,.int .i64 b]).map fun ls=>Lit.string (keyBytes ls) else none) = _
  rw [hk,hv,e]
  rfl
theorem keyOf_dot {d : Dt} (h : okD d) : keyOf Tryz.prog 42 (dv d) = some (kD d):=by
  obtain ⟨f,hf⟩ : ∃ f,(Tryz.prog).types.size + 1 = f + 2:=by
    have h0 : 0 < (Tryz.prog).types.size:=of_decide_eq_true (by kernel_rfl)
    generalize (Tryz.prog).types.size = n at h0
    exact ⟨n - 1,by omega⟩
  exact keyOf_two Tryz.underlying42 (by kernel_rfl) (by decide) (by decide) rfl rfl rfl rfl Tryz.underlying3 (by kernel_rfl) (by kernel_rfl) hf (by kernel_rfl) h.1 h.2
def DMap (w : World) (b n : Nat) (l : List Dt) : Prop:=w.ownsMap Tryz.prog 42 (plainElem Tryz.prog 4) b n (Maps.setOf u1 (l.map kD))∧∀ d ∈ l,okD d
section
variable {w w1 : World} {b n : Nat} {l : List Dt} {F : Nat→Prop}
theorem DMap.lt (h : DMap w b n l) : b < w.heap.size:=h.1.lt
theorem DMap.made (w : World) : DMap (w.alloc (.map #[] 0)) w.heap.size 0 []:=⟨World.ownsMap_made w _ _ _,fun d hd=>by cases hd⟩
theorem DMap.block (h : DMap w b n l) (hb : w1.heap[b]? = w.heap[b]?) : DMap w1 b n l:=by
  obtain ⟨⟨es,clock,h1,h2⟩,h3⟩:=h;exact ⟨⟨es,clock,hb.trans h1,h2⟩,h3⟩
theorem DMap.only (h : DMap w b n l) (ho : Only F w w1) (hF : ¬ F b) : DMap w1 b n l:=h.block (ho.block b h.lt hF)
theorem DMap.below (h : DMap w b n l) (hb : Below w.heap.size w w1) : DMap w1 b n l:=h.block (hb.block b h.lt)
theorem at_fold (u : DataW Unit) (k : Lit) : ∀ (acc : List Lit) (m : DataW Unit),Maps.IsMap m→(∀ x ∈ acc,WideAt.IsKeyLit x)→((∀ z,m.atKey k z = u)∨∀ z,m.atKey k z = z) →
    (∀ z,(acc.foldl (fun m x=>m.put x u) m).atKey k z = u)∨∀ z,(acc.foldl (fun m x=>m.put x u) m).atKey k z = z:=by
  intro acc
  induction acc with
  | nil=>intro m _ _ h;exact h
  | cons x acc ih =>
    intro m hm hk h;refine ih (m.put x u) (hm.put x u) (fun y hy=>hk y (List.mem_cons_of_mem _ hy)) ?_
    by_cases e : k = x
    · subst e
      exact .inl fun z=>Maps.atKey_put_same hm (hk _ (List.mem_cons_self ..)) u z
    · rcases h with q | q
      · exact .inl fun z=>by rw [Maps.atKey_put_other e];exact q z
      · exact .inr fun z=>by rw [Maps.atKey_put_other e];exact q z
theorem at_setOf (u : DataW Unit) (k : Lit) (acc : List Lit) (h : ∀ x ∈ acc,WideAt.IsKeyLit x) : (∀ z,(Maps.setOf u acc).atKey k z = u)∨∀ z,(Maps.setOf u acc).atKey k z = z :=
  at_fold u k acc _ Maps.isMap_empty h (.inr fun z=>rfl)
theorem bool_inv {v : Value} {d : DataW Unit} {ps : List MemPlace} (h : plainElem Tryz.prog 4 v = some (d,ps)) : ∃ x,v = .bool x∧d = .lit (.bool x):=by
  unfold plainElem at h
  rw [Tryz.underlying4] at h
  cases v <;> simp at h
  exact ⟨_,rfl,h.1.symm⟩
theorem zeroB (w : World) : (zeroValue 4).run Tryz.prog w = .ok (.bool false) w:=by kernel_rfl
theorem DMap.look (h : DMap w b n l) {key : Value} {kl : Lit} (hkey : keyOf Tryz.prog 42 key = some kl) (hhas : Maps.has (Maps.setOf u1 (l.map kD)) kl = true) :
    (Instr.lookup 70 (.map (some b)) key false).run Tryz.prog w = .ok (.bool true) w:=by
  obtain ⟨v,ps,hrun,hv⟩:=h.1.lookup dotK Tryz.underlying70 (zeroB w) (plainElem_bool Tryz.underlying4 false) hkey;obtain ⟨x,rfl,hx⟩:=bool_inv hv
  rcases at_setOf u1 kl (l.map kD) (fun y hy=>by obtain ⟨d,_,rfl⟩:=List.mem_map.1 hy;exact kD_key d) with q | q
  · rw [q] at hx
    unfold u1 at hx
    injection hx with hx
    injection hx with hx
    rw [hrun,hx]
  · rw [Maps.has_false_of_atKey q] at hhas
    cases hhas
theorem DMap.mem (h : DMap w b n l) {key : Value} {kl : Lit} (hkey : keyOf Tryz.prog 42 key = some kl) (hhas : Maps.has (Maps.setOf u1 (l.map kD)) kl = true) : ∃ d ∈ l,key = dv d:=by
  rw [Maps.has_setOf _ _ _ (fun y hy=>by obtain ⟨d,_,rfl⟩:=List.mem_map.1 hy;exact kD_key d)] at hhas;obtain ⟨y,hy,hs⟩:=List.any_eq_true.1 hhas;obtain ⟨d,hd,rfl⟩:=List.mem_map.1 hy;have e:=WideAt.sameKey_eq hs;exact ⟨d,hd,dotK.inj hkey (by rw [keyOf_dot (h.2 d hd),e])⟩
theorem wpList_putD {ops : Array Oper} {rest : List Oper} {o : Oper} {a : Act} {Q : Exit→Act→World→Prop} (hg : o.guard = none) (m x : Operand) (hop : o.op = Op.mapUpdate 70 m x (.const (.bool true)))
    (hm : a.eval m = .map (some b)) (h : DMap w b n l) (hn : n < maxLen) (d : Dt) (hx : a.eval x = dv d) (hd : okD d)
    (hK : ∀ w',DMap w' b (n + 1) (l ++ [d])→w.grownBy w' (some b)→wpList Tryz.prog ops Q rest (a.put o.dst undef) w') : wpList Tryz.prog ops Q (o :: rest) a w:=by
  refine wpList_mapUpdate_own w hg m x _ _ hop _ _ dotK Tryz.underlying70 _ b n _ hm h.1 hn _ _ (kD d) hx rfl (keyOf_dot hd) u1 [] (plainElem_bool Tryz.underlying4 true) ?_;intro w' h1 h2;refine hK w' ⟨?_,fun y hy=>?_⟩ h2
  · rw [List.map_append,List.map_cons,List.map_nil,Maps.setOf_snoc]
    exact h1
  · rcases List.mem_append.1 hy with q | q
    · exact h.2 y q
    · rw [List.mem_singleton.1 q];exact hd
theorem wpList_lookD {ops : Array Oper} {rest : List Oper} {o : Oper} {a : Act} {Q : Exit→Act→World→Prop} (hg : o.guard = none) (m x : Operand) (hop : o.op = Op.lookup 70 m x false)
    (hm : a.eval m = .map (some b)) (h : DMap w b n l) {key : Value} {kl : Lit} (hx : a.eval x = key) (hkey : keyOf Tryz.prog 42 key = some kl) (hhas : Maps.has (Maps.setOf u1 (l.map kD)) kl = true)
    (hK : wpList Tryz.prog ops Q rest (a.put o.dst (.bool true)) w) : wpList Tryz.prog ops Q (o :: rest) a w:=by
  refine wpList_plain hg fun K' hK'=>?_
  have hrun:=h.look hkey hhas
  unfold Oper.wp
  simp [execOp,hop,hm,hx,hrun,Result.andThen]
  exact hK' _ _ hK
theorem wpList_lenD {ops : Array Oper} {rest : List Oper} {o : Oper} {a : Act} {Q : Exit→Act→World→Prop} (hg : o.guard = none) (m : Operand) (hop : o.op = Op.call { callee:=Callee.builtin Builtin.len,args:=#[m],argTypes:=#[70] })
    (hm : a.eval m = .map (some b)) (h : DMap w b n l) (hK : wpList Tryz.prog ops Q rest (a.put o.dst (.int .i64 (Maps.size (Maps.setOf u1 (l.map kD))))) w) : wpList Tryz.prog ops Q (o :: rest) a w:=by
  refine wpList_plain hg fun K' hK'=>?_
  have hrun:=h.1.len Tryz.underlying70 o.type
  unfold Oper.wp
  simp [execOp,hop,resolve,invoke,builtin,hm,hrun,Result.andThen]
  exact hK' _ _ hK
end
end Dmap
end Go.Proofs.YtfpenfgmpbdakaaGreat

namespace Go.Proofs.YtfpenfgmpbdakaaGreat
set_option linter.unusedVariables false
set_option linter.unusedSimpArgs false
set_option maxRecDepth 100000
open Go.ChangeShapes Go.WideShapes Go.ChangeAt Go.RowKit Go.Deep
def Sz {H : Type} (t : TypeId) (d : DataW H) : Prop:=∀ n ∈ d.weights Tryz.prog t,n≤reachBytes
theorem sz_arg {H : Type} {ts : List TypeId} {ds : List (DataW H)} (h : (DataW.weightsEach Tryz.prog ts ds).all (·≤reachBytes) = true) {j : Nat} {t : TypeId} {d : DataW H} (ht : ts[j]? = some t) (hd : ds[j]? = some d) : Sz t d:=fun n hn=>by
  have:=List.all_eq_true.1 h n (DataW.weights_mem_each ht hd n hn)
  simpa using this
theorem weightsAll_mem {H : Type} {P : Program} {e : TypeId} {l : List (DataW H)} {d : DataW H} (hd : d ∈ l) : ∀ n ∈ d.weights P e,n ∈ DataW.weightsAll P e l:=by
  induction l with
  | nil=>cases hd
  | cons a r ih =>
    intro n hn
    simp only [DataW.weightsAll,List.mem_append]
    rcases List.mem_cons.1 hd with h | h
    · subst h;exact .inl hn
    · exact .inr (ih h n hn)
section
variable {H : Type} {enc : TypeId × Value→H} {W : World} {base : Nat} {sp : Nat→Bool} {held : Bool} {fuel : Nat} {cs : List Value} {x : DataW H × List MemPlace}
theorem rdz_field {t : TypeId} {fs : Array Field} (ht : (Tryz.prog).underlying t = some (.struct fs)) (hf : DataW.trod enc Tryz.prog W base sp held fuel t cs = some x) (hs : Sz t x.1) (j T o m : Nat)
    (hj : (fs[j]?).map (fun f=>(f.type,f.offset)) = some (T,o)) (hm : (Tryz.prog).cellsOf T = m) : ∃ n y,DataW.trod enc Tryz.prog W base sp held n T ((cs.drop o).take m) = some y∧Sz T y.1:=by
  obtain ⟨xs,n,_,hx,_,hxl,hg⟩:=DataW.trod_struct ht hf;obtain ⟨f,hf1,hf2⟩:=Option.map_eq_some_iff.1 hj
  injection hf2 with h1 h2
  have hjl : j < xs.length:=by
    rw [hxl];exact (Array.getElem?_eq_some_iff.1 hf1).1
  have h:=hg j f hf1;rw [h1,h2,hm,List.getElem?_eq_getElem hjl] at h;refine ⟨n,_,h,fun k hk=>hs k ?_⟩;rw [hx]
  simp only [DataW.weights,ht]
  refine DataW.weights_mem_each (j:=j) (t:=T) (d:=xs[j].1) ?_ ?_ k hk
  · rw [List.getElem?_map,Array.getElem?_toList,hf1];simp [h1]
  · rw [List.getElem?_map,List.getElem?_eq_getElem hjl];rfl
theorem rdz_slice {t e : TypeId} {m : Nat} (ht : (Tryz.prog).underlying t = some (.slice e)) (hm : (Tryz.prog).cellsOf e = m) (hf : DataW.trod enc Tryz.prog W base sp held fuel t cs = some x) (hs : Sz t x.1) :
    ∃ (a : Option Addr) (n cap : Nat),cs = [.slice a n cap]∧n≤cap∧cap≤maxLen∧n * (Tryz.prog).bytesOf e≤reachBytes∧∀ i,i < n→∃ (ad : Addr) (cs' : List Value) (fuel' : Nat) (x' : DataW H × List MemPlace),a = some ad∧cs'.length = m∧(∀ j,j < m→W.cell? ((ad.add (i * m)).add j) = cs'[j]?)∧DataW.trod enc Tryz.prog W base sp held fuel' e cs' = some x'∧Sz e x'.1:=by
  rcases open_slice ht hf with ⟨h0,_⟩ | ⟨a,len,cap,k,n,D,Pl,hcs,hb,hl,hc,hk,hx,hi⟩
  · exact ⟨none,0,0,h0,Nat.le_refl _,Nat.zero_le _,by simp,fun i h=>absurd h (Nat.not_lt_zero _)⟩
  · refine ⟨some a,len,cap,hcs,hl,hc,?_,fun i h=>?_⟩
    · have:=hs ((len + (k - len)) * (Tryz.prog).bytesOf e) (by rw [hx];simp [DataW.weights,ht])
      refine Nat.le_trans (Nat.mul_le_mul_right _ ?_) this
      omega
    · have hik : i < k:=by rw [hk];split <;> omega
      obtain ⟨cs',hc',ht'⟩:=hi i hik;rw [hm] at hc';obtain ⟨_,hcl,hat⟩:=World.cells?_some hc';refine ⟨a,cs',n,_,rfl,hcl,fun j hj=>hat j hj,ht',fun q hq=>hs q ?_⟩;rw [hx]
      simp only [DataW.weights,ht]
      refine List.mem_cons_of_mem _ (List.mem_append_left _ (weightsAll_mem (List.mem_map.2 ⟨i,by simpa using h,rfl⟩) q hq))
theorem bytesOf8 : (Tryz.prog).bytesOf 5 = 1:=by kernel_rfl
theorem rdz_bytes (hf : DataW.trod enc Tryz.prog W base sp held fuel 22 cs = some x) (hs : Sz 22 x.1) :
    ∃ (a : Option Addr) (n cap : Nat) (bs : List UInt8),cs = [.slice a n cap]∧RdB W W.heap.size a n bs∧n≤cap∧cap≤maxLen∧n≤reachBytes:=by
  obtain ⟨a,n,c,bs,h1,h2,h3,h4⟩:=rd_bytes hf;obtain ⟨a',n',c',k1,k2,k3,k4,_⟩:=rdz_slice Tryz.underlying22 (m:=1) (by kernel_rfl) hf hs;rw [h1] at k1
  injection k1 with k1 _
  injection k1 with _ k1 _
  rw [bytesOf8,Nat.mul_one] at k4;exact ⟨a,n,c,bs,h1,h2,h3,h4,by omega⟩
end
end Go.Proofs.YtfpenfgmpbdakaaGreat

namespace Go.Proofs.YtfpenfgmpbdakaaGreat
set_option linter.unusedVariables false
set_option linter.unusedSimpArgs false
open Go.ChangeShapes Go.WideShapes Go.ChangeAt Go.RowKit Go.Deep
open Dot
set_option maxRecDepth 100000
theorem cellsIq : (Tryz.prog).cellsOf 3 = 1:=by kernel_rfl
theorem cellsD : (Tryz.prog).cellsOf 42 = 2:=by kernel_rfl
theorem cellsDs : (Tryz.prog).cellsOf 45 = 1:=by kernel_rfl
section
variable {H : Type} {enc : TypeId × Value→H} {W : World} {base : Nat} {sp : Nat→Bool} {held : Bool} {fuel : Nat} {cs : List Value} {x : DataW H × List MemPlace}
theorem rd_dot (hf : DataW.trod enc Tryz.prog W base sp held fuel 42 cs = some x) : ∃ d : Dt,cs = [.int .i64 d.1,.int .i64 d.2]:=by
  have hl:=rd_len Tryz.underlying42 cellsD hf;obtain ⟨_,_,g0⟩:=rd_field Tryz.underlying42 hf 0 3 0 1 rfl cellsIq;obtain ⟨_,_,g1⟩:=rd_field Tryz.underlying42 hf 1 3 1 1 rfl cellsIq;obtain ⟨x0,e0,_⟩:=rd_int g0;obtain ⟨x1,e1,_⟩:=rd_int g1
  match cs,hl with
  | [a,b],_ =>
    simp at e0 e1
    exact ⟨(x0,x1),by rw [e0,e1]⟩
theorem rd_dots (hf : DataW.trod enc Tryz.prog W base sp held fuel 45 cs = some x) : ∃ (A : Option Addr) (n c : Nat) (l : List Dt),cs = [.slice A n c]∧RdD W W.heap.size A n l∧n≤maxLen:=by
  obtain ⟨a,n,c,hcs,hnc,hcm,hg⟩:=rd_slice Tryz.underlying45 cellsD hf
  have key : ∀ i,i < n→∃ (ad : Addr) (d : Dt),a = some ad∧DotAt W W.heap.size (ad.add (i * 2)) d:=fun i hi=>by
    obtain ⟨ad,cs',f',x',e,hl,hc,ht⟩:=hg i hi;obtain ⟨d,rfl⟩:=rd_dot ht;have h0:=hc 0 (by omega);have h1:=hc 1 (by omega);rw [add_add] at h0 h1;rw [Nat.add_zero] at h0;rw [add_next] at h1;exact ⟨ad,d,e,World.block_lt_of_cell? W _ h0,h0,h1⟩
  have hex : ∀ i,∃ d : Dt,i < n→∃ ad,a = some ad∧DotAt W W.heap.size (ad.add (i * 2)) d:=fun i=>by
    by_cases hi : i < n
    · obtain ⟨ad,d,h⟩:=key i hi
      exact ⟨d,fun _=>⟨ad,h⟩⟩
    · exact ⟨(0,0),fun h=>absurd h hi⟩
  refine ⟨a,n,c,(List.range n).map fun i=>(hex i).choose,hcs,⟨by simp,fun i d hi=>?_⟩,Nat.le_trans hnc hcm⟩
  have hi' : i < n:=by
    have:=(List.getElem?_eq_some_iff.1 hi).1
    simpa using this
  rw [List.getElem?_map,List.getElem?_range hi'] at hi
  injection hi with hi
  rw [← hi];exact (hex i).choose_spec hi'
end
end Go.Proofs.YtfpenfgmpbdakaaGreat

namespace Go.Proofs.YtfpenfgmpbdakaaGreat
set_option linter.unusedVariables false
set_option linter.unusedSimpArgs false
open Go.ChangeShapes Go.WideShapes Go.ChangeAt Go.RowKit Go.Deep
open Dot Evt
set_option maxRecDepth 100000
theorem cellsI' : (Tryz.prog).cellsOf 3 = 1:=by kernel_rfl
theorem cellsP : (Tryz.prog).cellsOf 44 = 7:=by kernel_rfl
theorem cellsE : (Tryz.prog).cellsOf 47 = 14:=by kernel_rfl
section
variable {H : Type} {enc : TypeId × Value→H} {W : World} {base : Nat} {sp : Nat→Bool} {held : Bool} {fuel : Nat} {cs : List Value} {x : DataW H × List MemPlace}
theorem rd_pol (hf : DataW.trod enc Tryz.prog W base sp held fuel 44 cs = some x) : ∃ p : List Int,p.length = 7∧cs = (pc p).toList:=by
  have hl:=rd_len Tryz.underlying44 cellsP hf;obtain ⟨_,_,g0⟩:=rd_field Tryz.underlying44 hf 0 3 0 1 rfl cellsI';obtain ⟨_,_,g1⟩:=rd_field Tryz.underlying44 hf 1 3 1 1 rfl cellsI';obtain ⟨_,_,g2⟩:=rd_field Tryz.underlying44 hf 2 3 2 1 rfl cellsI';obtain ⟨_,_,g3⟩:=rd_field Tryz.underlying44 hf 3 3 3 1 rfl cellsI';obtain ⟨_,_,g4⟩:=rd_field Tryz.underlying44 hf 4 3 4 1 rfl cellsI';obtain ⟨_,_,g5⟩:=rd_field Tryz.underlying44 hf 5 3 5 1 rfl cellsI';obtain ⟨_,_,g6⟩:=rd_field Tryz.underlying44 hf 6 3 6 1 rfl cellsI';obtain ⟨x0,e0,_⟩:=rd_int g0;obtain ⟨x1,e1,_⟩:=rd_int g1;obtain ⟨x2,e2,_⟩:=rd_int g2;obtain ⟨x3,e3,_⟩:=rd_int g3;obtain ⟨x4,e4,_⟩:=rd_int g4;obtain ⟨x5,e5,_⟩:=rd_int g5;obtain ⟨x6,e6,_⟩:=rd_int g6
  match cs,hl with
  | [a0,a1,a2,a3,a4,a5,a6],_ =>
    simp at e0 e1 e2 e3 e4 e5 e6
    exact ⟨[x0,x1,x2,x3,x4,x5,x6],rfl,by rw [e0,e1,e2,e3,e4,e5,e6];rfl⟩
theorem rd_ev (hf : DataW.trod enc Tryz.prog W base sp held fuel 47 cs = some x) : ∃ (e : Ev) (A : Option Addr) (n c : Nat),e.p.length = 7∧cs = (ec e (.slice A n c)).toList∧RdD W W.heap.size A n e.l∧n≤maxLen:=by
  have hl:=rd_len Tryz.underlying47 cellsE hf;obtain ⟨_,_,g0⟩:=rd_field Tryz.underlying47 hf 0 42 0 2 rfl cellsD;obtain ⟨_,_,g1⟩:=rd_field Tryz.underlying47 hf 1 3 2 1 rfl cellsI';obtain ⟨_,_,g2⟩:=rd_field Tryz.underlying47 hf 2 3 3 1 rfl cellsI';obtain ⟨_,_,g3⟩:=rd_field Tryz.underlying47 hf 3 3 4 1 rfl cellsI';obtain ⟨_,_,g4⟩:=rd_field Tryz.underlying47 hf 4 3 5 1 rfl cellsI';obtain ⟨_,_,g5⟩:=rd_field Tryz.underlying47 hf 5 44 6 7 rfl cellsP;obtain ⟨_,_,g6⟩:=rd_field Tryz.underlying47 hf 6 45 13 1 rfl cellsDs;obtain ⟨d,e0⟩:=rd_dot g0;obtain ⟨x1,e1,_⟩:=rd_int g1;obtain ⟨x2,e2,_⟩:=rd_int g2;obtain ⟨x3,e3,_⟩:=rd_int g3;obtain ⟨x4,e4,_⟩:=rd_int g4;obtain ⟨p,hp,e5⟩:=rd_pol g5;obtain ⟨A,n,c,l,e6,hr,hn⟩:=rd_dots g6;refine ⟨⟨d,x1,x2,x3,x4,p,l⟩,A,n,c,hp,?_,hr,hn⟩
  match cs,hl with
  | [a0,a1,a2,a3,a4,a5,a6,a7,a8,a9,a10,a11,a12,a13],_ =>
    simp [pc] at e0 e1 e2 e3 e4 e5 e6
    obtain ⟨rfl,rfl⟩:=e0;obtain ⟨rfl,rfl,rfl,rfl,rfl,rfl,rfl⟩:=e5;subst e1 e2 e3 e4 e6
    simp [ec]
end
section
variable {H : Type} {enc : TypeId × Value→H} {W : World} {base : Nat} {sp : Nat→Bool} {held : Bool} {r : Reach} {b0 : Nat} {v : Value} {d : DataW H} {p : List MemPlace}
end
end Go.Proofs.YtfpenfgmpbdakaaGreat

namespace Go.Proofs.YtfpenfgmpbdakaaGreat
set_option linter.unusedVariables false
set_option linter.unusedSimpArgs false
open Go.ChangeShapes Go.WideShapes Go.ChangeAt Go.RowKit Go.Deep
open Dot Evt
set_option maxRecDepth 100000
theorem bytesDt : (Tryz.prog).bytesOf 42 = 16:=by kernel_rfl
theorem bytesEv : (Tryz.prog).bytesOf 47 = 128:=by kernel_rfl
section
variable {H : Type} {enc : TypeId × Value→H} {W : World} {base : Nat} {sp : Nat→Bool} {held : Bool} {fuel : Nat} {cs : List Value} {x : DataW H × List MemPlace}
theorem rdz_ev (hf : DataW.trod enc Tryz.prog W base sp held fuel 47 cs = some x) (hs : Sz 47 x.1) : ∃ e : EvV,cs = e.cs.toList∧EvOk W W.heap.size e:=by
  obtain ⟨e,A,n,c,h1,h2,h3,_⟩:=rd_ev hf;obtain ⟨_,_,g6,z6⟩:=rdz_field Tryz.underlying47 hf hs 6 45 13 1 rfl cellsDs;obtain ⟨a3,l3,c3,e1,_,_,e4,_⟩:=rdz_slice Tryz.underlying45 cellsD g6 z6;rw [bytesDt] at e4;have hr : reachBytes = 140737488351232:=rfl;rw [h2] at e1;have e2 : ((ec e (.slice A n c)).toList.drop 13).take 1 = [.slice A n c]:=rfl;rw [e2] at e1
  injection e1 with e1 _
  injection e1 with _ e1 _
  exact ⟨⟨e,A,n,c⟩,h2,h1,h3,by show n≤_;omega⟩
theorem rdz_evs (hf : DataW.trod enc Tryz.prog W base sp held fuel 48 cs = some x) (hs : Sz 48 x.1) : ∃ (A : Option Addr) (n c : Nat) (xs : List EvV),cs = [.slice A n c]∧RowEv W W.heap.size A n xs∧n≤10000000000000:=by
  obtain ⟨a,n,c,h1,_,_,h3,h4⟩:=rdz_slice Tryz.underlying48 cellsE hf hs;rw [bytesEv] at h3;have hr : reachBytes = 140737488351232:=rfl
  have key : ∀ i,i < n→∃ e : EvV,EvOk W W.heap.size e∧∃ ad,a = some ad∧ad.block < W.heap.size∧∀ (j : Nat) v,e.cs[j]? = some v→W.cell? ((ad.add (i * 14)).add j) = some v:=fun i hi=>by
    obtain ⟨ad,cs',f',x',e1,hl,hc,ht,hz⟩:=h4 i hi;obtain ⟨e,h5,h6⟩:=rdz_ev ht hz
    have hlt : ad.block < W.heap.size:=by
      have e6:=hc 0 (by omega);rw [List.getElem?_eq_getElem (by omega)] at e6
      have:=World.block_lt_of_cell? W _ e6
      rwa [block_add,block_add] at this
    refine ⟨e,h6,ad,e1,hlt,fun j v hv=>?_⟩
    have hj : j < 14:=by
      have:=(Array.getElem?_eq_some_iff.1 hv).1
      rwa [e.size] at this
    rw [hc j hj,h5,Array.getElem?_toList,hv]
  have hex : ∀ i,∃ e : EvV,i < n→EvOk W W.heap.size e∧∃ ad,a = some ad∧ad.block < W.heap.size∧∀ (j : Nat) v,e.cs[j]? = some v→W.cell? ((ad.add (i * 14)).add j) = some v:=fun i=>by
    by_cases hi : i < n
    · obtain ⟨e,h⟩:=key i hi
      exact ⟨e,fun _=>h⟩
    · exact ⟨⟨exZ,none,0,0⟩,fun h=>absurd h hi⟩
  refine ⟨a,n,c,(List.range n).map fun i=>(hex i).choose,h1,⟨by simp,fun i d hi=>?_⟩,by omega⟩
  have hi' : i < n:=by
    have:=(List.getElem?_eq_some_iff.1 hi).1
    simpa using this
  rw [List.getElem?_map,List.getElem?_range hi'] at hi
  injection hi with hi
  rw [← hi];exact (hex i).choose_spec hi'
end
section
variable {H : Type} {enc : TypeId × Value→H} {W : World} {base : Nat} {sp : Nat→Bool} {held : Bool} {r : Reach} {b0 : Nat} {v : Value} {d : DataW H} {p : List MemPlace}
end
end Go.Proofs.YtfpenfgmpbdakaaGreat

namespace Go.Proofs.YtfpenfgmpbdakaaGreat
set_option linter.unusedVariables false
set_option linter.unusedSimpArgs false
open Go.ChangeShapes Go.WideShapes Go.ChangeAt Go.RowKit Go.Deep
open Dot Evt
set_option maxRecDepth 100000
namespace Sto
def oc (k n : Int) (x : Ev) (s1 s2 s3 : Value) : Array Value:=#[.int .i64 k,.int .i64 n,.int .i64 x.d.1,.int .i64 x.d.2,.int .i64 x.t,.int .i64 x.k,.int .i64 x.w,.int .i64 x.v,.int .i64 (x.p.getD 0 0),.int .i64 (x.p.getD 1 0),.int .i64 (x.p.getD 2 0),.int .i64 (x.p.getD 3 0),.int .i64 (x.p.getD 4 0),.int .i64 (x.p.getD 5 0),.int .i64 (x.p.getD 6 0),s1,s2,s3]
theorem oc_one (k n : Int) (x : Ev) (A A2 A3 : Option Addr) (n1 c1 n2 c2 n3 c3 : Nat) : (oc k n x (.slice A n1 c1) (.slice A2 n2 c2) (.slice A3 n3 c3)).all (·.oneCell') = true:=by kernel_rfl
theorem rowO : RowT Tryz.prog 50 18:=⟨_,Tryz.underlying50,rfl,by kernel_rfl⟩
structure OpV where
  k : Int
  n : Int
  e : EvV
  AL : Option Addr
  nl : Nat
  cl : Nat
  xs : List EvV
  AB : Option Addr
  nb : Nat
  cb : Nat
  bs : List UInt8
def OpV.cs (o : OpV) : Array Value:=oc o.k o.n o.e.e (.slice o.e.A o.e.m o.e.c) (.slice o.AL o.nl o.cl) (.slice o.AB o.nb o.cb)
theorem OpV.size (o : OpV) : o.cs.size = 18:=rfl
theorem OpV.one (o : OpV) : o.cs.all (·.oneCell') = true:=oc_one ..
structure OpOk (w : World) (B : Nat) (o : OpV) : Prop where
  e : EvOk w B o.e
  l : RowEv w B o.AL o.nl o.xs
  l1 : o.nl≤o.cl
  l2 : o.cl≤maxLen
  l3 : o.nl≤10000000000000
  b : RdB w B o.AB o.nb o.bs
  b1 : o.nb≤o.cb
  b2 : o.cb≤maxLen
  b3 : o.nb≤140737488351232
  n1 : -9223372036854775808≤o.n
  n2 : o.n≤9223372036854775807
def RowOp (w : World) (B : Nat) (A : Option Addr) (n : Nat) (ls : List OpV) : Prop :=
  n = ls.length∧∀ i o,ls[i]? = some o→OpOk w B o∧∃ ad,A = some ad∧ad.block < B∧∀ (j : Nat) v,o.cs[j]? = some v→w.cell? ((ad.add (i * 18)).add j) = some v
theorem OpOk.below {w w' : World} {B : Nat} {o : OpV} (h : OpOk w B o) (hb : Below B w w') : OpOk w' B o:=⟨h.e.below hb,h.l.below hb,h.l1,h.l2,h.l3,h.b.below hb,h.b1,h.b2,h.b3,h.n1,h.n2⟩
theorem RowOp.below {w w' : World} {B n : Nat} {A : Option Addr} {ls : List OpV} (h : RowOp w B A n ls) (hb : Below B w w') : RowOp w' B A n ls:=⟨h.1,fun i x hi=>by
  obtain ⟨h1,ad,e,h2,h3⟩:=h.2 i x hi
  exact ⟨h1.below hb,ad,e,h2,fun j v hv=>(hb.cell (by rw [block_add,block_add];exact h2)).trans (h3 j v hv)⟩⟩
theorem cellsOp15 : (Tryz.prog).cellsOf 50 = 18:=by kernel_rfl
theorem bytesOp15 : (Tryz.prog).bytesOf 50 = 192:=by kernel_rfl
theorem cellsEs15 : (Tryz.prog).cellsOf 48 = 1:=by kernel_rfl
theorem cellsBs15 : (Tryz.prog).cellsOf 22 = 1:=by kernel_rfl
theorem cellsI15 : (Tryz.prog).cellsOf 3 = 1:=by kernel_rfl
section
variable {H : Type} {enc : TypeId × Value→H} {W : World} {base : Nat} {sp : Nat→Bool} {held : Bool} {fuel : Nat} {cs : List Value} {x : DataW H × List MemPlace}
theorem rdz_op (hf : DataW.trod enc Tryz.prog W base sp held fuel 50 cs = some x) (hs : Sz 50 x.1) : ∃ o : OpV,cs = o.cs.toList∧OpOk W W.heap.size o:=by
  have hlen:=rd_len Tryz.underlying50 cellsOp15 hf;obtain ⟨_,_,g0⟩:=rd_field Tryz.underlying50 hf 0 3 0 1 rfl cellsI15;obtain ⟨_,_,g1⟩:=rd_field Tryz.underlying50 hf 1 3 1 1 rfl cellsI15;obtain ⟨_,_,g2,z2⟩:=rdz_field Tryz.underlying50 hf hs 2 47 2 14 rfl cellsE;obtain ⟨_,_,g3,z3⟩:=rdz_field Tryz.underlying50 hf hs 3 48 16 1 rfl cellsEs15;obtain ⟨_,_,g4,z4⟩:=rdz_field Tryz.underlying50 hf hs 4 22 17 1 rfl cellsBs15;obtain ⟨k,e0,_⟩:=rd_int g0;obtain ⟨n,e1,hn⟩:=rd_int g1;obtain ⟨e,e2,he⟩:=rdz_ev g2 z2;obtain ⟨AL,nl,cl,xs,e3,hl,hl3⟩:=rdz_evs g3 z3;obtain ⟨a',n',c',e3',hc1,hc2,_⟩:=rdz_slice Tryz.underlying48 cellsE g3 z3;obtain ⟨AB,nb,cb,bs,e4,hb,hb1,hb2,hb3⟩:=rdz_bytes g4 z4;rw [e3] at e3'
  injection e3' with e3' _
  injection e3' with _ q1 q2
  have hr : reachBytes = 140737488351232:=rfl;refine ⟨⟨k,n,e,AL,nl,cl,xs,AB,nb,cb,bs⟩,?_,he,hl,by show nl≤cl;rw [q1,q2];exact hc1,by show cl≤maxLen;rw [q2];exact hc2,hl3,hb,hb1,hb2,by show nb≤_;omega,hn.1,hn.2⟩
  match cs,hlen with
  | [a0,a1,a2,a3,a4,a5,a6,a7,a8,a9,a10,a11,a12,a13,a14,a15,a16,a17],_ =>
    have e2 : [a2,a3,a4,a5,a6,a7,a8,a9,a10,a11,a12,a13,a14,a15] = e.cs.toList:=e2;have e0 : [a0] = [Value.int .i64 k]:=e0;have e1 : [a1] = [Value.int .i64 n]:=e1;have e3 : [a16] = [Value.slice AL nl cl]:=e3;have e4 : [a17] = [Value.slice AB nb cb]:=e4
    show [a0] ++ ([a1] ++ ([a2,a3,a4,a5,a6,a7,a8,a9,a10,a11,a12,a13,a14,a15] ++ ([a16] ++ [a17]))) = _
    rw [e0,e1,e2,e3,e4]
    rfl
theorem rdz_ops (hf : DataW.trod enc Tryz.prog W base sp held fuel 23 cs = some x) (hs : Sz 23 x.1) : ∃ (A : Option Addr) (n c : Nat) (ls : List OpV),cs = [.slice A n c]∧RowOp W W.heap.size A n ls∧n≤10000000000000:=by
  obtain ⟨a,n,c,h1,h2,h3,h5,h4⟩:=rdz_slice Tryz.underlying23 cellsOp15 hf hs;rw [bytesOp15] at h5;have hr : reachBytes = 140737488351232:=rfl
  obtain ⟨l,q1,q2⟩:=list_of (α:=OpV) (P:=fun i o=>OpOk W W.heap.size o∧∃ ad,a = some ad∧ad.block < W.heap.size∧∀ (j : Nat) v,o.cs[j]? = some v→W.cell? ((ad.add (i * 18)).add j) = some v) n (fun i hi=>by
    obtain ⟨ad,cs',f',x',e1,e2,e3,e4,e5⟩:=h4 i hi;obtain ⟨o,ho,hk⟩:=rdz_op e4 e5
    have hlt : ad.block < W.heap.size:=by
      have e6:=e3 0 (by omega);rw [List.getElem?_eq_getElem (by omega)] at e6
      have:=World.block_lt_of_cell? W _ e6
      rwa [block_add,block_add] at this
    refine ⟨o,hk,ad,e1,hlt,fun j v hv=>?_⟩
    have hj : j < 18:=by
      have:=(Array.getElem?_eq_some_iff.1 hv).1
      rwa [o.size] at this
    rw [e3 j hj,ho,Array.getElem?_toList,hv])
  exact ⟨a,n,c,l,h1,⟨q1.symm,q2⟩,by omega⟩
end
section
variable {H : Type} {enc : TypeId × Value→H} {W : World} {base : Nat} {sp : Nat→Bool} {held : Bool} {r : Reach} {b0 : Nat} {v : Value} {d : DataW H} {p : List MemPlace}
theorem open_ops15 (hv : Value.okWide Tryz.prog W r b0 23 v) (h : DataW.Trod enc Tryz.prog W base sp held 23 v d p) (hs : Sz 23 d) :
    ∃ (A : Option Addr) (n c : Nat) (ls : List OpV),v = .slice A n c∧RowOp W W.heap.size A n ls∧n≤10000000000000:=by
  obtain ⟨a0,len0,cap0,rfl⟩:=okWide_slice Tryz.underlying23 hv;obtain ⟨fuel,hf⟩:=h;obtain ⟨A,n,c,xs,h1,h2⟩:=rdz_ops hf hs
  simp [Value.cells] at h1
  obtain ⟨rfl,rfl,rfl⟩:=h1;exact ⟨_,_,_,xs,rfl,h2⟩
end
end Sto
end Go.Proofs.YtfpenfgmpbdakaaGreat

namespace Go.Proofs.YtfpenfgmpbdakaaGreat
set_option linter.unusedVariables false
set_option linter.unusedSimpArgs false
set_option maxRecDepth 100000
open Go.RowKit
open Dot Evt
namespace Sto
def Great15 (w : World) (n : Nat) (ls : List OpV) (e : Ending) (w' : World) : Prop:=(∃ G,e = .returned (.bool G)∧(G = false→n≤100∧∀ o ∈ ls,o.e.m≤2000∧evSum o.xs≤3000))∧Below w.heap.size w w'
set_option maxHeartbeats 8000000 in
theorem great15_any (A : Option Addr) (n c : Nat) (ls : List OpV) (w : World) (hr : RowOp w w.heap.size A n ls) (hn : n≤10000000000000) :
    Calls Tryz.prog 7 #[.slice A n c] w (Great15 w n ls):=by
  have HN:=Lib.hid hr.1
  have HRK:=Lib.hid fun (w' : World) (hb : Below w.heap.size w w')=>hr.below hb
  clear hr
  by_cases hbig : 100 < n
  · have hd : (100 : Int) < (n : Int):=by omega
    go_enter Tryz.func7,Tryz.ntmps7
    go_wp2_with fail
    go_loopw [3,8] (fun s i wr=>∃ (k : Nat) (z : Int),k≤n∧i = .int .i64 (k : Nat)∧s = .int .i64 z∧Below w.heap.size w wr) (fun _ i _=>n - (intOf i).toNat)
    case atStart=>exact ⟨0,0,by omega,rfl,rfl,Below.refl _ _⟩
    case round =>
    obtain ⟨k,z,hk,rfl,rfl,gb⟩:=hrel
    by_cases hlt : k < n
    case neg =>
      have hkk : ¬ (k : Int) < (n : Int):=by omega
      go_wp2_with fail;go_ret;exact ⟨⟨true,rfl,fun h=>by cases h⟩,gb⟩
    have hkl : k < ls.length:=by rw [← HN.out];exact hlt
    obtain ⟨hok,ad,hA,hab,hcs⟩:=(HRK.out wr gb).2 k _ (List.getElem?_eq_getElem hkl);have e1 : ls[k]? = some ls[k]:=List.getElem?_eq_getElem hkl
    generalize ls[k] = o at *
    subst hA;obtain ⟨cs,hcx⟩ : ∃ cs,cs = o.cs:=⟨_,rfl⟩;rw [← hcx] at hcs;have SZ:=Lib.hid (show cs.size = 18 by rw [hcx];rfl);have OZ:=Lib.hid (show cs.all (·.oneCell') = true by rw [hcx];exact o.one);have X15:=Lib.hid (show cs[15]? = some (.slice o.e.A o.e.m o.e.c) by rw [hcx];rfl);have X16:=Lib.hid (show cs[16]? = some (.slice o.AL o.nl o.cl) by rw [hcx];rfl);have X17:=Lib.hid (show cs[17]? = some (.slice o.AB o.nb o.cb) by rw [hcx];rfl);have HCS:=Lib.hid hcs;have HOK:=Lib.hid hok;have HE1:=Lib.hid e1;have hm13 : o.e.m≤10000000000000:=hok.e.2.2;have hnl13:=hok.l3;have hnb:=hok.b3
    have hk0 : (0 : Int)≤(k : Int):=by omega
    have hkm : (k : Int) < (n : Int):=by omega
    clear hcs hcx hok e1
    go_upto_region 5 with first
      | ((with_reducible refine wpList_lda rowO HCS.out SZ.out ?_ ?_);rotate_left;(rfl))
      | ((with_reducible refine wpList_st rowO (Blk.new _ _ _) SZ.out ?_ OZ.out ?_ ?_ ?_);(rfl);rotate_left;(rfl);(rfl);intro w6 k6 g6 z6)
    have bA : Below wr.heap.size wr w6:=new_below g6;obtain ⟨gr,hgr⟩ : ∃ gr,gr = wr.heap.size:=⟨_,rfl⟩;rw [← hgr] at k6 ⊢;have gb6:=gb.trans (bA.mono gb.size);have t15 : w6.cell? ⟨gr,15,none⟩ = some (.slice o.e.A o.e.m o.e.c):=(k6.cell 15).trans X15.out;have t16 : w6.cell? ⟨gr,16,none⟩ = some (.slice o.AL o.nl o.cl):=(k6.cell 16).trans X16.out;have t17 : w6.cell? ⟨gr,17,none⟩ = some (.slice o.AB o.nb o.cb):=(k6.cell 17).trans X17.out;have HGT:=Lib.hid (egreat_any o.AL o.nl o.cl o.xs w.heap.size w6 (by omega) (HOK.out.l.below (bA.mono gb.size)) gb6.size);have hlg:=k6.lt;obtain ⟨q,hq⟩ : ∃ q,q = o.nb / 20:=⟨_,rfl⟩
    have hqt : ((o.nb : Nat) : Int).tdiv 20 = (q : Int):=by rw [Int.tdiv_eq_ediv_of_nonneg (by omega)];omega
    have hqd : ((o.nb : Nat) : Int) / 20 = (q : Int):=by omega
    have hqb : ¬ 10000 < o.nb→q≤500:=by omega
    obtain ⟨em,hem⟩ : ∃ em,em = o.e.m:=⟨_,rfl⟩;obtain ⟨nl,hnl⟩ : ∃ nl,nl = o.nl:=⟨_,rfl⟩;obtain ⟨nb,hnb'⟩ : ∃ nb,nb = o.nb:=⟨_,rfl⟩;rw [← hem] at t15 hm13;rw [← hnl] at t16 hnl13 HGT;rw [← hnb'] at t17 hnb hqt hqd hqb;have HEM:=Lib.hid hem;have HNL:=Lib.hid hnl;clear g6 z6 hgr bA gb HCS k6 hq hem hnl hnb'
    by_cases hb9 : 10000 < nb
    all_goals
      go_upto_region 6 with fail
      go_wp2_with fail;refine HGT.out.mono ?_;rintro e w7 ⟨⟨G,rfl,hG⟩,b7⟩;have gb7:=gb6.trans (b7.mono gb6.size);have t16 : w7.cell? ⟨gr,16,none⟩ = some (.slice o.AL nl o.cl):=(b7.cell (p:=⟨gr,16,none⟩) hlg).trans t16;clear b7 hG
      cases G
      · go_wp2_with fail
        go_roundw
        case rel=>exact ⟨k + 1,_,by omega,by go_num,rfl,gb7⟩
        case measure=>simp [intOf];omega
      · go_wp2_with fail
        go_ret;exact ⟨⟨true,rfl,fun h=>by cases h⟩,gb7⟩
  have hd : ¬ (100 : Int) < (n : Int):=by omega
  go_enter Tryz.func7,Tryz.ntmps7
  go_wp2_with fail
  go_loopw [3,8] (fun s i wr=>∃ (k z : Nat),k≤n∧i = .int .i64 (k : Nat)∧s = .int .i64 (z : Nat)∧z≤k * 20000000000501∧(∀ j o,j < k→ls[j]? = some o→o.e.m≤z∧evSum o.xs≤3000)∧Below w.heap.size w wr) (fun _ i _=>n - (intOf i).toNat)
  case atStart=>exact ⟨0,0,by omega,rfl,rfl,by omega,fun j o hj=>by omega,Below.refl _ _⟩
  case round =>
  obtain ⟨k,z,hk,rfl,rfl,hz,hol,gb⟩:=hrel;have HOL:=Lib.hid hol
  have hz2 : z≤2000000000050100:=by omega
  clear hol
  by_cases hlt : k < n
  case neg =>
    have hkk : ¬ (k : Int) < (n : Int):=by omega
    have hkn : k = n:=by omega
    have hall : ∀ o ∈ ls,o.e.m≤z∧evSum o.xs≤3000:=fun o ho=>by
      obtain ⟨j,hj,rfl⟩:=List.getElem_of_mem ho;exact HOL.out j _ (by rw [hkn,HN.out];exact hj) (List.getElem?_eq_getElem hj)
    have HALL:=Lib.hid hall;clear hall hkn
    by_cases h2 : 2000 < z
    · have h2i : (2000 : Int) < (z : Int):=by omega
      go_wp2_with fail;go_ret;exact ⟨⟨true,rfl,fun h=>by cases h⟩,gb⟩
    · have h2d : decide ((2000 : Int) < (z : Int)) = false:=decide_eq_false (by omega)
      have h1d : decide ((100 : Int) < (n : Int)) = false:=decide_eq_false (by omega);have H2:=Lib.hid (And.intro h2 hd);clear h2 hd;go_wp2_with fail;go_ret;exact ⟨⟨false,rfl,fun _=>⟨by have:=H2.out.2;omega,fun o ho=>⟨by have:=(HALL.out o ho).1;have:=H2.out.1;omega,(HALL.out o ho).2⟩⟩⟩,gb⟩
  have hkl : k < ls.length:=by rw [← HN.out];exact hlt
  obtain ⟨hok,ad,hA,hab,hcs⟩:=(HRK.out wr gb).2 k _ (List.getElem?_eq_getElem hkl);have e1 : ls[k]? = some ls[k]:=List.getElem?_eq_getElem hkl
  generalize ls[k] = o at *
  subst hA;obtain ⟨cs,hcx⟩ : ∃ cs,cs = o.cs:=⟨_,rfl⟩;rw [← hcx] at hcs;have SZ:=Lib.hid (show cs.size = 18 by rw [hcx];rfl);have OZ:=Lib.hid (show cs.all (·.oneCell') = true by rw [hcx];exact o.one);have X15:=Lib.hid (show cs[15]? = some (.slice o.e.A o.e.m o.e.c) by rw [hcx];rfl);have X16:=Lib.hid (show cs[16]? = some (.slice o.AL o.nl o.cl) by rw [hcx];rfl);have X17:=Lib.hid (show cs[17]? = some (.slice o.AB o.nb o.cb) by rw [hcx];rfl);have HCS:=Lib.hid hcs;have HOK:=Lib.hid hok;have HE1:=Lib.hid e1;have hm13 : o.e.m≤10000000000000:=hok.e.2.2;have hnl13:=hok.l3;have hnb:=hok.b3
  have hk0 : (0 : Int)≤(k : Int):=by omega
  have hkm : (k : Int) < (n : Int):=by omega
  clear hcs hcx hok e1
  go_upto_region 5 with first
    | ((with_reducible refine wpList_lda rowO HCS.out SZ.out ?_ ?_);rotate_left;(rfl))
    | ((with_reducible refine wpList_st rowO (Blk.new _ _ _) SZ.out ?_ OZ.out ?_ ?_ ?_);(rfl);rotate_left;(rfl);(rfl);intro w6 k6 g6 z6)
  have bA : Below wr.heap.size wr w6:=new_below g6;obtain ⟨gr,hgr⟩ : ∃ gr,gr = wr.heap.size:=⟨_,rfl⟩;rw [← hgr] at k6 ⊢;have gb6:=gb.trans (bA.mono gb.size);have t15 : w6.cell? ⟨gr,15,none⟩ = some (.slice o.e.A o.e.m o.e.c):=(k6.cell 15).trans X15.out;have t16 : w6.cell? ⟨gr,16,none⟩ = some (.slice o.AL o.nl o.cl):=(k6.cell 16).trans X16.out;have t17 : w6.cell? ⟨gr,17,none⟩ = some (.slice o.AB o.nb o.cb):=(k6.cell 17).trans X17.out;have HGT:=Lib.hid (egreat_any o.AL o.nl o.cl o.xs w.heap.size w6 (by omega) (HOK.out.l.below (bA.mono gb.size)) gb6.size);have hlg:=k6.lt;obtain ⟨q,hq⟩ : ∃ q,q = o.nb / 20:=⟨_,rfl⟩
  have hqt : ((o.nb : Nat) : Int).tdiv 20 = (q : Int):=by rw [Int.tdiv_eq_ediv_of_nonneg (by omega)];omega
  have hqd : ((o.nb : Nat) : Int) / 20 = (q : Int):=by omega
  have hqb : ¬ 10000 < o.nb→q≤500:=by omega
  obtain ⟨em,hem⟩ : ∃ em,em = o.e.m:=⟨_,rfl⟩;obtain ⟨nl,hnl⟩ : ∃ nl,nl = o.nl:=⟨_,rfl⟩;obtain ⟨nb,hnb'⟩ : ∃ nb,nb = o.nb:=⟨_,rfl⟩;rw [← hem] at t15 hm13;rw [← hnl] at t16 hnl13 HGT;rw [← hnb'] at t17 hnb hqt hqd hqb;have HEM:=Lib.hid hem;have HNL:=Lib.hid hnl;clear g6 z6 hgr bA gb HCS k6 hq hem hnl hnb';have hz9 : z≤k * 20000000000501:=hz;have HZ:=Lib.hid hz;clear hz hz9
  by_cases hb9 : 10000 < nb
  · go_upto_region 6 with fail
    go_wp2_with fail;refine HGT.out.mono ?_;rintro e w7 ⟨⟨G,rfl,hG⟩,b7⟩;have gb7:=gb6.trans (b7.mono gb6.size);have t16 : w7.cell? ⟨gr,16,none⟩ = some (.slice o.AL nl o.cl):=(b7.cell (p:=⟨gr,16,none⟩) hlg).trans t16;have HGG:=Lib.hid hG;clear b7 hG
    cases G
    · have hgs:=HGG.out rfl
      have HGS:=Lib.hid hgs;clear hgs;go_wp2_with fail
      go_roundw
      case rel=>exact ⟨k + 1,z + (1 + em + 500) + nl,by omega,by go_num,by go_num,by have:=HZ.out;omega,fun j y hj hy=>by
        by_cases e : j = k
        · subst e
          rw [HE1.out] at hy
          injection hy with hy
          rw [← hy,← HEM.out];exact ⟨by omega,HGS.out⟩
        · have:=HOL.out j y (by omega) hy
          exact ⟨by omega,this.2⟩,gb7⟩
      case measure=>simp [intOf];omega
    · go_wp2_with fail
      go_ret;exact ⟨⟨true,rfl,fun h=>by cases h⟩,gb7⟩
  · have hq5:=hqb hb9
    go_upto_region 6 with fail
    go_wp2_with fail;refine HGT.out.mono ?_;rintro e w7 ⟨⟨G,rfl,hG⟩,b7⟩;have gb7:=gb6.trans (b7.mono gb6.size);have t16 : w7.cell? ⟨gr,16,none⟩ = some (.slice o.AL nl o.cl):=(b7.cell (p:=⟨gr,16,none⟩) hlg).trans t16;have HGG:=Lib.hid hG;clear b7 hG
    cases G
    · have hgs:=HGG.out rfl
      have HGS:=Lib.hid hgs;clear hgs;go_wp2_with fail
      go_roundw
      case rel=>exact ⟨k + 1,z + (1 + em + q) + nl,by omega,by go_num,by go_num,by have:=HZ.out;omega,fun j y hj hy=>by
        by_cases e : j = k
        · subst e
          rw [HE1.out] at hy
          injection hy with hy
          rw [← hy,← HEM.out];exact ⟨by omega,HGS.out⟩
        · have:=HOL.out j y (by omega) hy
          exact ⟨by omega,this.2⟩,gb7⟩
      case measure=>simp [intOf];omega
    · go_wp2_with fail
      go_ret;exact ⟨⟨true,rfl,fun h=>by cases h⟩,gb7⟩
end Sto
end Go.Proofs.YtfpenfgmpbdakaaGreat

namespace Go.Proofs.YtfpenfgmpbdakaaGreat.StoreKeeps
set_option linter.unusedVariables false
set_option linter.unusedSimpArgs false
set_option maxRecDepth 100000
open Go.ChangeShapes Go.WideShapes Go.ChangeAt Go.RowKit Go.Deep
open Dot Evt
open Go.Proofs.YtfpenfgmpbdakaaGreat.Sto.Stp Go.Proofs.YtfpenfgmpbdakaaGreat.Disk Go.Proofs.YtfpenfgmpbdakaaGreat.Dmap
open Go.Proofs.YtfpenfgmpbdakaaGreat.Sto (alive15 great15_any OpV OpOk RowOp rowO events_any inc_any open_ops15 Great15 sc)
open Go.Proofs.YtfpenfgmpbdakaaGreat.Frame (frm frms frms_nil frms_cons frms_snoc frms_append frm_length frm_pos Parts)
set_option linter.unusedVariables false
set_option linter.unusedSimpArgs false
theorem op_ev {w : World} {g : Nat} {T : TypeId} {o : OpV} (k : Blk w g T o.cs) : w.rangeAt g 2 o.e.cs.toList:=fun j v hv=>by
  have hv : o.e.cs[j]? = some v:=by simpa using hv
  have hj : j < 14:=by
    have:=(Array.getElem?_eq_some_iff.1 hv).1
    rwa [o.e.size] at this
  rw [k.cell,← hv]
  match j,hj with
  | 0,_=>rfl
  | 1,_=>rfl
  | 2,_=>rfl
  | 3,_=>rfl
  | 4,_=>rfl
  | 5,_=>rfl
  | 6,_=>rfl
  | 7,_=>rfl
  | 8,_=>rfl
  | 9,_=>rfl
  | 10,_=>rfl
  | 11,_=>rfl
  | 12,_=>rfl
  | 13,_=>rfl
theorem evSum_mem (xs : List EvV) : ∀ x ∈ xs,x.m≤evSum xs:=by
  unfold evSum
  induction xs with
  | nil=>simp
  | cons y l ih =>
    intro x hx
    simp only [List.map_cons,List.sum_cons]
    rcases List.mem_cons.1 hx with rfl | h
    · omega
    · have:=ih x h;omega
theorem evSum_len (xs : List EvV) : xs.length≤evSum xs:=by
  unfold evSum
  induction xs with
  | nil=>simp
  | cons x l ih=>simp at ih ⊢;omega
theorem ev_two {w : World} {g o : Nat} {T : TypeId} {cs : Array Value} (k : Blk w g T cs) {x y : Int} (h0 : cs[o]? = some (.int .i64 x)) (h1 : cs[o + 1]? = some (.int .i64 y)) : w.rangeAt g o (#[Value.int .i64 x,.int .i64 y] : Array Value).toList:=fun j v hv=>by
  rw [k.cell]
  match j,hv with
  | 0,hv=>rw [Nat.add_zero,h0,← hv];rfl
  | 1,hv=>rw [h1,← hv];rfl
  | j + 2,hv=>simp at hv
theorem rowDt2 : RowT Tryz.prog 42 2:=⟨_,Tryz.underlying42,rfl,by kernel_rfl⟩
theorem dot_one (x y : Int) : (#[Value.int .i64 x,.int .i64 y] : Array Value).all (·.oneCell') = true:=by kernel_rfl
theorem okD_right {x : Ev} (h : rightE x = true) : okD x.d:=by
  unfold rightE at h
  simp only [Bool.and_eq_true] at h
  have h1:=h.1.1.1.1.1
  unfold mayB at h1
  simp only [Bool.and_eq_true,decide_eq_true_eq] at h1
  have hmin : IntKind.i64.min = -9223372036854775808:=rfl;have hmax : IntKind.i64.max = 9223372036854775807:=rfl;exact ⟨by simp only [Lit.wf,Bool.and_eq_true,decide_eq_true_eq];omega,by simp only [Lit.wf,Bool.and_eq_true,decide_eq_true_eq];omega⟩
theorem build200 (w : World) : (Instr.buildSlice 22 2 #[(0,.int .u8 1),(1,.int .u8 200)]).run Tryz.prog w = .ok (.slice (some ⟨w.heap.size,0,none⟩) 2 2) (w.alloc (.cells #[.int .u8 1,.int .u8 200] 5)):=by kernel_rfl
theorem one_only {w0 w w1 : World} {size : Nat} {S : Sd} {s : SoV} {G : Nat→Prop} (h : One w0 size S s w) (ho : Only G w w1) (hG : ∀ k,s.foot k→¬ G k) (h0 : ∀ k,G k→w0.heap.size≤k) : One w0 size S s w1:=⟨h.p.keepO ho hG,h.bel.trans (ho.to_below h0 h.bel.size)⟩
structure St4 (w0 : World) (size g m lastn incn B : Nat) (S : Sd) (s : SoV) (rs : List (List UInt8)) (nB : Nat) (w : World) : Prop where
  sg : s.g = g
  one : One w0 size S s w
  gs : GoodS size S
  ge : GoodE m s.evs
  ki : KI S s.evs rs
  dm : DMap w B nB (s.evs.map (·.d))
  nb : nB≤m
  nf : ¬ s.foot B
  hB : w0.heap.size≤B
  la : lastn≤S.used
  ic : incn≤S.inc
theorem St4.below {w0 w w1 : World} {size g m lastn incn B nB : Nat} {S : Sd} {s : SoV} {rs : List (List UInt8)} (h : St4 w0 size g m lastn incn B S s rs nB w) (hb : Below w.heap.size w w1) : St4 w0 size g m lastn incn B S s rs nB w1 :=
  ⟨h.sg,h.one.below hb,h.gs,h.ge,h.ki,h.dm.below hb,h.nb,h.nf,h.hB,h.la,h.ic⟩
theorem St4.only {w0 w w1 : World} {size g m lastn incn B nB : Nat} {S : Sd} {s : SoV} {rs : List (List UInt8)} {G : Nat→Prop} (h : St4 w0 size g m lastn incn B S s rs nB w) (ho : Only G w w1) (hG : ∀ k,s.foot k→¬ G k) (h0 : ∀ k,G k→w0.heap.size≤k) (hB : ¬ G B) : St4 w0 size g m lastn incn B S s rs nB w1 :=
  ⟨h.sg,one_only h.one ho hG h0,h.gs,h.ge,h.ki,h.dm.only ho hB,h.nb,h.nf,h.hB,h.la,h.ic⟩
theorem St4.same {w0 w w1 : World} {size g m m' lastn incn lastn' incn' B nB : Nat} {S S' : Sd} {s s' : SoV} {rs rs' : List (List UInt8)} (h : St4 w0 size g m lastn incn B S s rs nB w) (e2 : s'.g = s.g) (h1 : One w0 size S' s' w1) (h2 : s'.evs = s.evs) (h3 : Only s.foot w w1) (h4 : ∀ k,s'.foot k→s.foot k∨w.heap.size≤k)
    (hg : GoodS size S') (hk : KI S' s.evs rs') (hm : m≤m') (hl : lastn'≤S'.used) (hi : incn'≤S'.inc) : St4 w0 size g m' lastn' incn' B S' s' rs' nB w1 :=
  ⟨e2.trans h.sg,h1,hg,by rw [h2];exact ⟨Nat.le_trans h.ge.1 hm,h.ge.2⟩,by rw [h2];exact hk,by rw [h2];exact h.dm.only h3 h.nf,Nat.le_trans h.nb hm,fun q=>(h4 _ q).elim h.nf fun y=>by have:=h.dm.lt;omega,h.hB,hl,hi⟩
set_option maxHeartbeats 32000000 in
theorem walk (size0 : Int) (A0 : Option Addr) (n0 c0 : Nat) (ls : List OpV) (w0 : World) (m1 : -9223372036854775808≤size0) (m2 : size0≤9223372036854775807) (hr : RowOp w0 w0.heap.size A0 n0 ls) (hn0 : n0≤10000000000000) :
    Calls Tryz.prog 4 #[.int .i64 size0,.slice A0 n0 c0] w0 fun e w'=>e = .returned (.bool true)∧Below w0.heap.size w0 w':=by
  have hmm:=@run_makeMap Tryz.prog
  have HRK:=Lib.hid fun (w' : World) (hb : Below w0.heap.size w0 w')=>hr.below hb
  have HN:=Lib.hid hr.1
  have HGR:=Lib.hid fun (w' : World) (hb : Below w0.heap.size w0 w')=>(great15_any A0 n0 c0 ls w' (by
    have h:=hr.below hb
    exact ⟨h.1,fun i o hi=>by
      obtain ⟨q1,ad,q2,q3,q4⟩:=h.2 i o hi;have hz:=hb.size
      exact ⟨⟨q1.e.more hz,q1.l.more hz,q1.l1,q1.l2,q1.l3,q1.b.more hz,q1.b1,q1.b2,q1.b3,q1.n1,q1.n2⟩,ad,q2,by omega,q4⟩⟩) hn0)
  clear hr m1 m2
  go_enter Tryz.func4,Tryz.ntmps4
  go_wp2_with fail;refine (alive15 w0).mono ?_;rintro e w1 ⟨rfl,b1'⟩;go_wp2_with fail;refine (HGR.out w1 b1').mono ?_;rintro e w2 ⟨⟨G,rfl,hG⟩,b2'⟩;have gb:=b1'.trans (b2'.mono b1'.size);have HGG:=Lib.hid hG;clear b1' b2' hG HGR
  cases G
  case true =>
    go_wp2_with fail;go_ret;exact ⟨rfl,gb⟩
  have hgg:=HGG.out rfl;have HG:=Lib.hid hgg;have hn100:=hgg.1;clear hgg HGG
  by_cases hsz : 1≤size0∧size0≤16384
  case neg =>
    have HB:=Lib.hid (dnew_bad size0 w2 (by omega));go_wp2_with fail;refine HB.out.mono ?_;rintro e w3 ⟨rfl,rfl⟩;go_wp2_with fail;go_ret;exact ⟨rfl,gb⟩
  obtain ⟨size,rfl⟩ : ∃ size : Nat,size0 = (size : Int):=⟨size0.toNat,by omega⟩
  have hs1 : 1≤size:=by omega
  have hs2 : size≤16384:=by omega
  clear hsz;go_wp2_with fail;refine (dnew_any size w2 hs1 hs2).mono ?_;rintro e w3 ⟨g,F1,rfl,hD1,hF1,hb3⟩;have ok0 : (Db.mk [] []).ok:=Db.of_ok (b:=[]) (Nat.zero_le _);have fit0 : (Db.mk [] []).fits size:=Db.of_fits (b:=[]) hs2 (Nat.zero_le _);have hop:=open1 (w0:=w0) (F:=F1) (g:=g) (d:=⟨[],[]⟩) (r:=[]) ⟨hD1,ok0⟩ fit0 (fun k hk=>Nat.le_trans gb.size (hF1 k hk)) (gb.trans (hb3.mono gb.size)) KI.start ⟨Nat.le_refl 0,Nat.zero_le _,Nat.zero_le _,fit0⟩ (.inl rfl) rfl;have HOP:=Lib.hid hop;clear hD1 hF1 hb3 gb ok0 fit0 hop;go_wp2_with fail;refine HOP.out.mono ?_;rintro e w4 ⟨S,s,rs,rfl,hsg,h1,hev,_,_,hki,hgs,_,_,_⟩;have hst : St4 w0 size g 20000 0 0 w4.heap.size S s rs 0 (w4.alloc (.map #[] 0)):=⟨hsg,h1.below ((Below.refl _ _).alloc (Nat.le_refl _) _),hgs,by rw [hev];exact ⟨Nat.zero_le _,fun e he=>by cases he⟩,by rw [hev];exact hki,by rw [hev];exact DMap.made w4,Nat.zero_le _,fun q=>Nat.lt_irrefl _ (h1.p.lt _ q),h1.bel.size,Nat.zero_le _,Nat.zero_le _⟩;have HST:=Lib.hid hst;clear hsg h1 hev hki hgs hst HOP;go_wp2_with fail
  go_loopw [7,8,9,10,11,14,15,16,17,20,45] (fun sv fv kv lv iv _ _ _ _ _ i wr=>∃ (k lastn incn B : Nat) (S : Sd) (s : SoV) (rs : List (List UInt8)) (nB : Nat),k≤n0∧i = .int .i64 (k : Nat)∧sv = .pointer (some ⟨s.b,0,none⟩)∧fv = .int .i64 0∧kv = .map (some B)∧lv = .int .i64 (lastn : Nat)∧iv = .int .i64 (incn : Nat)∧St4 w0 size g (20000 + k) lastn incn B S s rs nB wr) (fun _ _ _ _ _ _ _ _ _ _ i _=>n0 - (intOf i).toNat)
  case atStart=>exact ⟨0,0,0,w4.heap.size,S,s,rs,0,by omega,rfl,rfl,rfl,rfl,rfl,rfl,HST.out⟩
  case round =>
  clear HST;obtain ⟨k,lastn,incn,B,S,s,rs,nB,hk,rfl,rfl,rfl,rfl,rfl,rfl,hst⟩:=hrel;have HS0:=Lib.hid hst;clear hst
  by_cases hlt : k < n0
  case neg =>
    have hkn : ¬ (k : Int) < (n0 : Int):=by omega
    go_wp2_with fail;go_ret;exact ⟨rfl,HS0.out.one.bel⟩
  have hkl : k < ls.length:=by rw [← HN.out];exact hlt
  obtain ⟨hok,ad,hA,hab,hcs⟩:=(HRK.out wr HS0.out.one.bel).2 k _ (List.getElem?_eq_getElem hkl);have hgo:=HG.out.2 _ (List.getElem_mem hkl)
  have hokw:=fun (w : World) (hb : Below w0.heap.size w0 w)=>((HRK.out w hb).2 k _ (List.getElem?_eq_getElem hkl)).1
  generalize ls[k] = o at *
  subst hA;obtain ⟨cs,hcx⟩ : ∃ cs,cs = o.cs:=⟨_,rfl⟩;rw [← hcx] at hcs;have SZ:=Lib.hid (show cs.size = 18 by rw [hcx];rfl);have OZ:=Lib.hid (show cs.all (·.oneCell') = true by rw [hcx];exact o.one);have X0:=Lib.hid (show cs[0]? = some (.int .i64 o.k) by rw [hcx];rfl);have X1:=Lib.hid (show cs[1]? = some (.int .i64 o.n) by rw [hcx];rfl);have X2:=Lib.hid (show cs[2]? = some (.int .i64 o.e.e.d.1) by rw [hcx];rfl);have X3:=Lib.hid (show cs[3]? = some (.int .i64 o.e.e.d.2) by rw [hcx];rfl);have X16:=Lib.hid (show cs[16]? = some (.slice o.AL o.nl o.cl) by rw [hcx];rfl);have HCS:=Lib.hid hcs;have HCX:=Lib.hid hcx;have HOK:=Lib.hid hokw;have HGO:=Lib.hid hgo
  have hk0 : (0 : Int)≤(k : Int):=by omega
  have hkm : (k : Int) < (n0 : Int):=by omega
  clear hcs hcx hok hokw hgo
  go_upto_region 16 with first
    | ((with_reducible refine wpList_lda rowO HCS.out SZ.out ?_ ?_);rotate_left;(rfl))
    | ((with_reducible refine wpList_st rowO (Blk.new _ _ _) SZ.out ?_ OZ.out ?_ ?_ ?_);(rfl);rotate_left;(rfl);(rfl);intro w6 k6 g6 z6)
  have bA : Below wr.heap.size wr w6:=new_below g6;have HFT:=Lib.hid (show ∀ q,s.foot q→q < wr.heap.size from HS0.out.one.p.lt);have HBL:=Lib.hid HS0.out.dm.lt;obtain ⟨gr,hgr⟩ : ∃ gr,gr = wr.heap.size:=⟨_,rfl⟩;rw [← hgr] at k6 ⊢;have HS:=Lib.hid (HS0.out.below bA);have HFG:=Lib.hid (show ∀ q,s.foot q→q < gr from fun q hq=>by rw [hgr];exact HFT.out q hq);have HBG:=Lib.hid (show B < gr by rw [hgr];exact HBL.out);have HK6:=Lib.hid k6;have t0 : w6.cell? ⟨gr,0,none⟩ = some (.int .i64 o.k):=(k6.cell 0).trans X0.out;clear g6 z6 hgr bA HCS HFT HS0 HBL k6
  go_upto_block 2 with fail
  go_cut [7,8,9,10,11,14,15,16,17] (fun sv fv kv lv iv _ _ _ _ wx=>∃ (lastn incn B : Nat) (S : Sd) (s : SoV) (rs : List (List UInt8)) (nB : Nat),sv = .pointer (some ⟨s.b,0,none⟩)∧fv = .int .i64 0∧kv = .map (some B)∧lv = .int .i64 (lastn : Nat)∧iv = .int .i64 (incn : Nat)∧St4 w0 size g (20000 + (k + 1)) lastn incn B S s rs nB wx)
  case first =>
    by_cases h1 : o.k = 1
    · have e1 : (o.k == 1) = true:=by rw [beq_iff_eq];exact h1
      have hgd:=next_out size S HS.out.gs;have hop:=HS.out.one.next HS.out.gs;have hki:=HS.out.ki.next HS.out.gs
      generalize nextD size S = R at *
      obtain ⟨K,y,S'⟩:=R
      dsimp only at hgd hop hki
      have HGD:=Lib.hid hgd;have HOP:=Lib.hid hop;have HKI:=Lib.hid hki;clear h1 hgd hop hki;go_wp2_with fail;refine HOP.out.mono ?_;rintro e w9 ⟨rfl,s',e1',e2',h1',h2',h3',h4'⟩;obtain ⟨⟨rs',hk'⟩,hin,hcase⟩:=HKI.out;have HE1:=Lib.hid e1'
      rcases hcase with ⟨rfl,hK,hU⟩ | ⟨rfl,hU⟩
      · have hst:=HS.out.same (m':=20000 + (k + 1)) (lastn':=K) (incn':=incn) e2' h1' h2' h3' h4' HGD.out hk' (by omega) (by omega) (by rw [hin];exact HS.out.ic)
        have HNW:=Lib.hid hst;have hla:=HS.out.la
        have q1 : ¬ (K : Int)≤(lastn : Int):=by omega
        have q2 : ¬ (96 : Int) < (K : Int):=by have:=HGD.out.u;have:=HGD.out.p;omega
        have q3 : ¬ (S'.upto : Int) < (K : Int):=by have:=HGD.out.u;omega
        have hup:=upto_any s'.b s'.g S'.used S'.upto S'.inc _ w9 h1'.p.at_.2.1;rw [e1'] at hup;have HUP:=Lib.hid hup;clear e1' e2' h1' h2' h3' h4' hk' hin hK hU hst hla hup HKI HOP;go_wp2_with fail;refine HUP.out.mono ?_;rintro e wa ⟨rfl,rfl⟩;clear HUP;go_wp2_with fail;go_meet;exact ⟨K,incn,B,S',s',rs',nB,by rw [HE1.out],rfl,rfl,rfl,rfl,HNW.out⟩
      · have hst:=HS.out.same (m':=20000 + (k + 1)) (lastn':=lastn) (incn':=incn) e2' h1' h2' h3' h4' HGD.out hk' (by omega) (by rw [hU];exact HS.out.la) (by rw [hin];exact HS.out.ic)
        have HNW:=Lib.hid hst;clear e1' e2' h1' h2' h3' h4' hk' hin hU hst HKI HOP;go_wp2_with fail;go_meet;exact ⟨lastn,incn,B,S',s',rs',nB,by rw [HE1.out],rfl,rfl,rfl,rfl,HNW.out⟩
    by_cases h2 : o.k = 2
    · have e2 : (o.k == 2) = true:=by rw [beq_iff_eq];exact h2
      have hgd:=bump_out size S HS.out.gs;have hop:=HS.out.one.bump HS.out.gs;have hki:=HS.out.ki.bump HS.out.gs
      generalize bumpD size S = R at *
      obtain ⟨K,y,S'⟩:=R
      dsimp only at hgd hop hki
      have HGD:=Lib.hid hgd;have HOP:=Lib.hid hop;have HKI:=Lib.hid hki;clear h2 hgd hop hki;go_wp2_with fail;refine HOP.out.mono ?_;rintro e w9 ⟨rfl,s',e1',e2',h1',h2',h3',h4'⟩;obtain ⟨⟨rs',hk'⟩,hus,hcase⟩:=HKI.out;have HE1:=Lib.hid e1'
      rcases hcase with ⟨rfl,hK,hU⟩ | ⟨rfl,hU⟩
      · have hst:=HS.out.same (m':=20000 + (k + 1)) (lastn':=lastn) (incn':=K) e2' h1' h2' h3' h4' HGD.out hk' (by omega) (by rw [hus];exact HS.out.la) (by omega)
        have HNW:=Lib.hid hst;have hic:=HS.out.ic
        have q1 : ¬ (K : Int)≤(incn : Int):=by omega
        have hup:=inc_any s'.b s'.g S'.used S'.upto S'.inc _ w9 h1'.p.at_.2.1;rw [e1',show S'.inc = K by omega] at hup;have HUP:=Lib.hid hup;clear e1' e2' h1' h2' h3' h4' hk' hus hK hU hst hic hup HKI HOP;go_wp2_with fail;refine HUP.out.mono ?_;rintro e wa ⟨rfl,rfl⟩;clear HUP;go_wp2_with fail;go_meet;exact ⟨lastn,K,B,S',s',rs',nB,by rw [HE1.out],rfl,rfl,rfl,rfl,HNW.out⟩
      · have hst:=HS.out.same (m':=20000 + (k + 1)) (lastn':=lastn) (incn':=incn) e2' h1' h2' h3' h4' HGD.out hk' (by omega) (by rw [hus];exact HS.out.la) (by rw [hU];exact HS.out.ic)
        have HNW:=Lib.hid hst;clear e1' e2' h1' h2' h3' h4' hk' hus hU hst HKI HOP;go_wp2_with fail;go_meet;exact ⟨lastn,incn,B,S',s',rs',nB,by rw [HE1.out],rfl,rfl,rfl,rfl,HNW.out⟩
    by_cases h3 : o.k = 3
    · have e3 : (o.k == 3) = true:=by rw [beq_iff_eq];exact h3
      have hem : o.e.m≤3000:=by have:=HGO.out.1;omega
      have hoe:=(HOK.out w6 HS.out.one.bel).e
      have hxl : o.e.e.l.length≤3000:=by have:=hoe.2.1.1;omega
      have hgd:=keep_out size S s.evs o.e.e HS.out.gs HS.out.ge hxl;have hop:=HS.out.one.keep o.e (fun w' hb=>(HOK.out w' hb).e) hem HS.out.gs HS.out.ge (by omega);have hki:=HS.out.ki.keep HS.out.gs hoe.1
      have hrg:=(by
        have h:=HK6.out;rw [HCX.out] at h
        exact op_ev h : w6.rangeAt gr 2 o.e.cs.toList)
      have SE:=Lib.hid o.e.size
      generalize keepD size S s.evs o.e.e = R at *
      obtain ⟨y,S',E'⟩:=R
      dsimp only at hgd hop hki
      generalize o.e.cs = CE at *
      have HGD:=Lib.hid hgd;have HOP:=Lib.hid hop;have HKI:=Lib.hid hki;clear h3 hgd hop hki hem hoe hxl
      go_wp2_with ((with_reducible refine wpList_ldr rowE hrg SE.out ?_ ?_);rotate_left;(rfl))
      refine HOP.out.mono ?_;rintro e w9 ⟨rfl,s',e1',e2',h1',h2',h3',h4'⟩;obtain ⟨⟨rs',hk'⟩,hus,hin,hcase⟩:=HKI.out;have HE1:=Lib.hid e1';clear hrg
      rcases hcase with ⟨rfl,hE,hR⟩ | ⟨hy,hE⟩
      · have k9:=HK6.out.only h3' (fun q=>Nat.lt_irrefl _ (HFG.out _ q))
        have hrd:=ev_two (o:=2) k9 X2.out X3.out;have HDM:=Lib.hid (HS.out.dm.only h3' HS.out.nf)
        have hnf : ¬ s'.foot B:=fun q=>(h4' _ q).elim HS.out.nf fun y=>by have:=HS.out.dm.lt;omega
        have hfin:=fun (w : World) (hd : DMap w B (nB + 1) (s.evs.map (·.d) ++ [o.e.e.d])) (hg : w9.grownBy w (some B))=>(⟨e2'.trans HS.out.sg,h1'.far hg hnf HS.out.hB,HGD.out.1,by rw [h2',← Nat.add_assoc];exact HGD.out.2,by rw [h2'];exact hk',by rw [h2',hE,List.map_append];exact hd,by have:=HS.out.nb;omega,hnf,HS.out.hB,by rw [hus];exact HS.out.la,by rw [hin];exact HS.out.ic⟩ : St4 w0 size g (20000 + (k + 1)) lastn incn B S' s' rs' (nB + 1) w)
        have HFN:=Lib.hid hfin;have HOD:=Lib.hid (okD_right hR)
        have hnb : nB < 9223372036854775807:=by have:=HS.out.nb;omega
        clear e1' e2' h1' h2' h3' h4' hk' hus hin hE hR hnf hfin HKI HOP k9
        go_wp2_with first
          | ((with_reducible refine wpList_ldr rowDt2 hrd rfl ?_ ?_);rotate_left;(rfl))
          | (at_mapUpdate;refine wpList_putD rfl _ _ rfl rfl HDM.out (by unfold maxLen;omega) o.e.e.d rfl HOD.out ?_;intro wb hdm' hg')
        have HNW:=Lib.hid (HFN.out wb hdm' hg');clear hdm' hg' hrd HDM HFN;go_wp2_with fail;go_meet;exact ⟨lastn,incn,B,S',s',rs',nB + 1,by rw [HE1.out],rfl,rfl,rfl,rfl,HNW.out⟩
      · have hst:=HS.out.same (m':=20000 + (k + 1)) (lastn':=lastn) (incn':=incn) e2' h1' (h2'.trans hE) h3' h4' HGD.out.1 (by rw [hE] at hk';exact hk') (by omega) (by rw [hus];exact HS.out.la) (by rw [hin];exact HS.out.ic)
        have HNW:=Lib.hid hst
        have q0 : ((y : Int) == 0) = false:=by rw [beq_eq_false_iff_ne];omega
        clear e1' e2' h1' h2' h3' h4' hk' hus hin hE hst hy HKI HOP;go_wp2_with fail;go_meet;exact ⟨lastn,incn,B,S',s',rs',nB,by rw [HE1.out],rfl,rfl,rfl,rfl,HNW.out⟩
    by_cases h4 : o.k = 4
    · have e4 : (o.k == 4) = true:=by rw [beq_iff_eq];exact h4
      have hok6:=HOK.out w6 HS.out.one.bel
      have hnl : o.nl≤3000:=by have:=hok6.l.1;have:=evSum_len o.xs;have:=HGO.out.2;omega
      have hxm : ∀ y ∈ o.xs,y.m≤3000:=fun y hy=>by have:=evSum_mem o.xs y hy;have:=HGO.out.2;omega
      have hp7 : ∀ x ∈ o.xs.map (·.e),x.p.length = 7∧x.l.length≤3000:=fun e he=>by
        obtain ⟨y,hy,rfl⟩:=List.mem_map.1 he;obtain ⟨i,hi,rfl⟩:=List.getElem_of_mem hy;have hq:=(hok6.l.2 i _ (List.getElem?_eq_getElem hi)).1;exact ⟨hq.1,by rw [← hq.2.1.1];exact hxm _ hy⟩
      have hgl : GoodE (20000 + k) (o.xs.map (·.e)):=⟨by rw [List.length_map,← hok6.l.1];omega,fun e he=>(hp7 e he).2⟩;have hgd:=compact_out size S s.evs (o.xs.map (·.e)) HS.out.gs HS.out.ge hgl;have hop:=HS.out.one.compact (c2:=o.cl) (fun w' hb=>(HOK.out w' hb).l) hxm (by omega) hok6.l1 hok6.l2 HS.out.gs HS.out.ge (by omega);have hki:=HS.out.ki.compact HS.out.gs (fun x hx=>(hp7 x hx).1);have HNL:=Lib.hid hok6.l.1
      generalize compactD size S s.evs (o.xs.map (·.e)) = R at *
      obtain ⟨y,S',E'⟩:=R
      dsimp only at hgd hop hki
      have t16 : w6.cell? ⟨gr,16,none⟩ = some (.slice o.AL o.nl o.cl):=(HK6.out.cell 16).trans X16.out;have HGD:=Lib.hid hgd;have HOP:=Lib.hid hop;have HKI:=Lib.hid hki;have HNL3:=Lib.hid hnl;clear h4 hgd hop hki hnl hxm hp7 hgl hok6;go_wp2_with fail;refine HOP.out.mono ?_;rintro e w9 ⟨rfl,s',e1',e2',h1',h2',h3',h4'⟩;obtain ⟨⟨rs',hk'⟩,hus,hin,hcase⟩:=HKI.out;have HE1:=Lib.hid e1';clear t16
      rcases hcase with ⟨rfl,hE,hR⟩ | ⟨hy,hE⟩
      · have k9:=HK6.out.only h3' (fun q=>Nat.lt_irrefl _ (HFG.out _ q))
        have t16 : w9.cell? ⟨gr,16,none⟩ = some (.slice o.AL o.nl o.cl):=(k9.cell 16).trans X16.out;have HB9:=Lib.hid h1'.bel
        have hfin:=fun (w : World) (hd : DMap w w9.heap.size o.nl (o.xs.map fun y=>y.e.d)) (hb : Below w9.heap.size w9 w)=>(⟨e2'.trans HS.out.sg,h1'.below hb,HGD.out.1,by rw [h2',← Nat.add_assoc];exact HGD.out.2,by rw [h2'];exact hk',by rw [h2',hE,List.map_map];exact hd,by have:=HNL3.out;omega,fun q=>Nat.lt_irrefl _ (h1'.p.lt _ q),h1'.bel.size,by rw [hus];exact HS.out.la,by rw [hin];exact HS.out.ic⟩ : St4 w0 size g (20000 + (k + 1)) lastn incn w9.heap.size S' s' rs' o.nl w)
        have HFN:=Lib.hid hfin;have HRG:=Lib.hid hR;clear e1' e2' h1' h2' h3' h4' hk' hus hin hE hR hfin HKI HOP;have bal : Below w9.heap.size w9 (w9.alloc (.map #[] 0)):=(Below.refl _ _).alloc (Nat.le_refl _) _;have HBA:=Lib.hid bal;have t16' : (w9.alloc (.map #[] 0)).cell? ⟨gr,16,none⟩ = some (.slice o.AL o.nl o.cl):=((k9.below bal k9.lt).cell 16).trans X16.out;clear bal k9;go_wp2_with fail
        go_loopw [115] (fun i wq=>∃ q : Nat,q≤o.nl∧i = .int .i64 (q : Nat)∧DMap wq w9.heap.size q ((o.xs.map fun y=>y.e.d).take q)∧Below w9.heap.size w9 wq) (fun i _=>o.nl - (intOf i).toNat)
        case atStart=>exact ⟨0,by omega,rfl,DMap.made w9,HBA.out⟩
        case round =>
        obtain ⟨q,hq,rfl,hdm,hbq⟩:=hrel;have HDM:=Lib.hid hdm;have HBQ:=Lib.hid hbq;clear hdm hbq
        by_cases hql : q < o.nl
        case neg =>
          obtain rfl : q = o.nl:=by omega
          have HNW:=Lib.hid (HFN.out _ (by have h:=HDM.out;rw [List.take_of_length_le (by rw [List.length_map,← HNL.out];exact Nat.le_refl _)] at h;exact h) HBQ.out)
          have hnn : ¬ (o.nl : Int) < (o.nl : Int):=by omega
          clear t16 t16';go_wp2_with fail;go_meet;exact ⟨lastn,incn,w9.heap.size,S',s',rs',o.nl,by rw [HE1.out],rfl,rfl,rfl,rfl,HNW.out⟩
        have hqx : q < o.xs.length:=by rw [← HNL.out];exact hql
        obtain ⟨hoke,ade,hAe,habe,hce⟩:=(HOK.out wr (HB9.out.trans (HBQ.out.mono HB9.out.size))).l.2 q _ (List.getElem?_eq_getElem hqx);have hrt:=HRG.out _ (List.mem_map_of_mem (f:=(·.e)) (List.getElem_mem hqx))
        have hsn : (o.xs.map fun y=>y.e.d).take (q + 1) = (o.xs.map fun y=>y.e.d).take q ++ [o.xs[q].e.d]:=by
          have h:=take_snoc (o.xs.map fun y=>y.e.d) (k:=q) (by rw [List.length_map];exact hqx);rw [h,List.getElem_map]
        generalize o.xs[q] = x at *
        obtain ⟨ce,hcex⟩ : ∃ ce,ce = x.cs:=⟨_,rfl⟩;rw [← hcex] at hce;have SZE:=Lib.hid (show ce.size = 14 by rw [hcex];rfl);have OZE:=Lib.hid (show ce.all (·.oneCell') = true by rw [hcex];exact x.one);have XE0:=Lib.hid (show ce[0]? = some (.int .i64 x.e.d.1) by rw [hcex];rfl);have XE1:=Lib.hid (show ce[1]? = some (.int .i64 x.e.d.2) by rw [hcex];rfl);have HCE:=Lib.hid hce;have HSN:=Lib.hid hsn;have HOD:=Lib.hid (okD_right hrt);have HAE:=Lib.hid hAe
        have hq0 : (0 : Int)≤(q : Int):=by omega
        have hqm : (q : Int) < (o.nl : Int):=by omega
        have hq3 : q≤3000:=by have:=HNL3.out;omega
        rw [hAe];clear hce hcex hrt hsn hoke hAe t16 t16'
        go_upto_region 38 with first
          | ((with_reducible refine wpList_lda rowE HCE.out SZE.out ?_ ?_);rotate_left;(rfl))
          | ((with_reducible refine wpList_st rowE (Blk.new _ _ _) SZE.out ?_ OZE.out ?_ ?_ ?_);(rfl);rotate_left;(rfl);(rfl);intro wu ku gu zu)
        have bu : Below wr.heap.size wr wu:=new_below gu;have hdu:=HDM.out.below bu;have hbu:=HBQ.out.trans (bu.mono HBQ.out.size);have hrd:=ev_two (o:=0) ku XE0.out XE1.out;have HDU:=Lib.hid (And.intro hdu hbu);obtain ⟨gu',hgu⟩ : ∃ gu',gu' = wr.heap.size:=⟨_,rfl⟩;rw [← hgu] at hrd ku ⊢;clear gu zu bu hdu hbu ku hgu
        go_wp2_with first
          | ((with_reducible refine wpList_ldr rowDt2 hrd rfl ?_ ?_);rotate_left;(rfl))
          | (at_mapUpdate;refine wpList_putD rfl _ _ rfl rfl HDU.out.1 (by unfold maxLen;omega) x.e.d rfl HOD.out ?_;intro wv hdm' hg')
        have HDV:=Lib.hid hdm';have HBV:=Lib.hid (HDU.out.2.grown hg' HDU.out.2.size (fun z hz=>by injection hz with hz;omega));clear hdm' hg' hrd;go_wp2_with fail
        go_roundw
        case rel=>exact ⟨q + 1,by omega,by go_num,by rw [HSN.out];exact HDV.out,HBV.out⟩
        case measure=>simp [intOf];omega
      · have hst:=HS.out.same (m':=20000 + (k + 1)) (lastn':=lastn) (incn':=incn) e2' h1' (h2'.trans hE) h3' h4' HGD.out.1 (by rw [hE] at hk';exact hk') (by omega) (by rw [hus];exact HS.out.la) (by rw [hin];exact HS.out.ic)
        have HNW:=Lib.hid hst
        have q0 : ((y : Int) == 0) = false:=by rw [beq_eq_false_iff_ne];omega
        clear e1' e2' h1' h2' h3' h4' hk' hus hin hE hst hy HKI HOP;go_wp2_with fail;go_meet;exact ⟨lastn,incn,B,S',s',rs',nB,by rw [HE1.out],rfl,rfl,rfl,rfl,HNW.out⟩
    by_cases h5 : o.k = 5
    · have e5 : (o.k == 5) = true:=by rw [beq_iff_eq];exact h5
      have e6 : (o.k == 6) = false:=by rw [beq_eq_false_iff_ne];omega
      have hat:=HS.out.one.p.at_.1;rw [HS.out.sg] at hat;have HOP:=Lib.hid (open1 (d:=S.b) (r:=[]) hat HS.out.gs.b (fun q hq=>HS.out.one.p.fs q (.inl hq)) HS.out.one.bel HS.out.ki HS.out.gs (.inl rfl) (by rw [List.append_nil];exact HS.out.ki.b));clear h5 hat;go_wp2_with fail;refine HOP.out.mono ?_;rintro e wz ⟨S',s',rs',rfl,hsg',h1',h2',h3',h4',hk',hg',hu',hp',hi'⟩;have hst : St4 w0 size g (20000 + (k + 1)) lastn incn B S' s' rs' nB wz:=⟨hsg',h1',hg',by rw [h2'];exact ⟨by have:=HS.out.ge.1;omega,HS.out.ge.2⟩,by rw [h2'];exact hk',by rw [h2'];exact HS.out.dm.only h3' (fun q=>HS.out.nf (.inl q)),by have:=HS.out.nb;omega,fun q=>(h4' _ q).elim (fun q=>HS.out.nf (.inl q)) fun y=>by have:=HS.out.dm.lt;omega,HS.out.hB,by rw [hu'];exact Nat.le_trans HS.out.la HS.out.gs.u,by rw [hi'];exact HS.out.ic⟩;have HNW:=Lib.hid hst;clear hsg' h1' h2' h3' h4' hk' hg' hu' hp' hi' hst HOP;go_wp2_with fail;go_meet;exact ⟨lastn,incn,B,S',s',rs',nB,rfl,rfl,rfl,rfl,rfl,HNW.out⟩
    by_cases h6 : o.k = 6
    · have e6 : (o.k == 6) = true:=by rw [beq_iff_eq];exact h6
      have bal : Below w6.heap.size w6 (w6.alloc (.cells #[.int .u8 1,.int .u8 200] 5)):=(Below.refl _ _).alloc (Nat.le_refl _) _;have HS7:=Lib.hid (HS.out.below bal);have K7:=Lib.hid (HK6.out.below bal HK6.out.lt);have kb:=Blk.new w6 5 #[.int .u8 1,.int .u8 200]
      have hrd : RdB (w6.alloc (.cells #[.int .u8 1,.int .u8 200] 5)) (w6.heap.size + 1) (some ⟨w6.heap.size,0,none⟩) 2 [1,200]:=⟨rfl,fun j u hu=>by
        match j,hu with
        | 0,hu=>exact ⟨_,rfl,Nat.lt_succ_self _,by injection hu with hu;rw [← hu];exact kb.cell 0⟩
        | 1,hu=>exact ⟨_,rfl,Nat.lt_succ_self _,by injection hu with hu;rw [← hu];exact kb.cell 1⟩
        | j + 2,hu=>simp at hu⟩
      have hat:=HS7.out.one.p.at_.1;rw [HS.out.sg] at hat;have hao:=append_out [1,200] HS.out.gs.b;have HAO:=Lib.hid hao;have HAP:=Lib.hid (dappend_any (some ⟨w6.heap.size,0,none⟩) 2 2 _ [1,200] s.F g size S.b _ hat hs2 hao.2 hrd)
      have h1c:=fun (w : World) (k : Blk w gr 50 cs)=>((k.cell 1).trans X1.out : w.cell? ⟨gr,1,none⟩ = some (.int .i64 o.n))
      have H1C:=Lib.hid h1c;have hn2:=(HOK.out w6 HS.out.one.bel).n2;have HN2:=Lib.hid hn2;have HBS:=Lib.hid build200;clear h6 hat hao hrd kb bal h1c hn2
      go_wp2_with first
        | (refine wpList_bs rfl 22 2 _ rfl (HBS.out _) ?_)
      generalize w6.alloc (.cells #[.int .u8 1,.int .u8 200] 5) = w7 at *
      refine HAP.out.mono ?_;rintro e w8 ⟨rfl,F2,hd8,o8,gr8⟩;have K8:=Lib.hid (K7.out.only o8 (fun q=>Nat.lt_irrefl _ (HFG.out _ (.inl q))));have HDM8:=Lib.hid (HS7.out.dm.only o8 (fun q=>HS7.out.nf (.inl q)))
      have hfs8 : ∀ q,F2 q→w0.heap.size≤q:=fun q hq=>(gr8 q hq).elim (fun y=>HS7.out.one.p.fs q (.inl y)) fun y=>by have:=HS7.out.one.bel.size;omega
      have HB8:=Lib.hid (HS7.out.one.bel.trans (o8.to_below (fun q hq=>HS7.out.one.p.fs q (.inl hq)) HS7.out.one.bel.size));have HF8:=Lib.hid (And.intro hfs8 (And.intro (show ¬ F2 gr from fun q=>(gr8 _ q).elim (fun y=>Nat.lt_irrefl _ (HFG.out _ (.inl y))) fun y=>by have:=K7.out.lt;omega) (show ¬ F2 B from fun q=>(gr8 _ q).elim (fun y=>HS7.out.nf (.inl y)) fun y=>by have:=HS7.out.dm.lt;omega)));have t1:=H1C.out w8 K8.out;have HCR:=Lib.hid (dcrash_any o.n F2 g size _ w8 hd8 hs2 HAO.out.1 HN2.out)
      generalize (appendD size S.b [1,200]).1 = q1 at *
      clear hd8 o8 gr8 hfs8 HAP;go_wp2_with fail;refine HCR.out.mono ?_;rintro e w9 ⟨rfl,F3,hd9,o9,gr9⟩;obtain ⟨r,htr,hcr⟩:=crash_torn size (frms rs) o.n.toNat;rw [← HS.out.ki.b] at hcr;have hcf:=crash_fits (size:=size) o.n.toNat hs2 HAO.out.1;have HDM9:=Lib.hid (HDM8.out.only o9 HF8.out.2.2)
      have hfs9 : ∀ q,F3 q→w0.heap.size≤q:=fun q hq=>(gr9 q hq).elim (HF8.out.1 q) fun y=>by have:=HB8.out.size;omega
      have HNF:=Lib.hid (show ¬ F3 B from fun q=>(gr9 _ q).elim HF8.out.2.2 fun y=>by have:=HDM8.out.lt;omega);have hb9:=HB8.out.trans (o9.to_below HF8.out.1 HB8.out.size);have HOP:=Lib.hid (open1 (r:=r) hd9 hcf hfs9 hb9 HS.out.ki HS.out.gs htr hcr);clear hd9 o9 gr9 htr hcr hcf hfs9 hb9 HCR t1 K8 HDM8 HF8;go_wp2_with fail;refine HOP.out.mono ?_;rintro e wz ⟨S',s',rs',rfl,hsg',h1',h2',h3',h4',hk',hg',hu',hp',hi'⟩;have hst : St4 w0 size g (20000 + (k + 1)) lastn incn B S' s' rs' nB wz:=⟨hsg',h1',hg',by rw [h2'];exact ⟨by have:=HS.out.ge.1;omega,HS.out.ge.2⟩,by rw [h2'];exact hk',by rw [h2'];exact HDM9.out.only h3' HNF.out,by have:=HS.out.nb;omega,fun q=>(h4' _ q).elim HNF.out fun y=>by have:=HDM9.out.lt;omega,HS.out.hB,by rw [hu'];exact Nat.le_trans HS.out.la HS.out.gs.u,by rw [hi'];exact HS.out.ic⟩;have HNW:=Lib.hid hst;clear hsg' h1' h2' h3' h4' hk' hg' hu' hp' hi' hst HOP;go_wp2_with fail;go_meet;exact ⟨lastn,incn,B,S',s',rs',nB,rfl,rfl,rfl,rfl,rfl,HNW.out⟩
    have hst:=HS.out;have HNW:=Lib.hid (⟨hst.sg,hst.one,hst.gs,⟨by have:=hst.ge.1;omega,hst.ge.2⟩,hst.ki,hst.dm,by have:=hst.nb;omega,hst.nf,hst.hB,hst.la,hst.ic⟩ : St4 w0 size g (20000 + (k + 1)) lastn incn B S s rs nB w6);clear hst;go_wp2_with fail;go_meet;exact ⟨lastn,incn,B,S,s,rs,nB,rfl,rfl,rfl,rfl,rfl,HNW.out⟩
  case rest =>
    obtain ⟨lastn,incn,B,S,s,rs,nB,rfl,rfl,rfl,rfl,rfl,hst⟩:=hcut;have HST:=Lib.hid hst;clear HS HFG HBG HK6 t0 hst X0 X1 X2 X3 X16 HCX HOK HGO SZ OZ;have bal : Below wc.heap.size wc (wc.alloc (.map #[] 0)):=(Below.refl _ _).alloc (Nat.le_refl _) _;have HS1:=Lib.hid (HST.out.below bal);have HD0:=Lib.hid (DMap.made wc);have hsm:=HS1.out.one.p.small HS1.out.ge;have HSN:=Lib.hid hsm.1;have HEV:=Lib.hid (events_any s.b s.g S.used S.upto S.inc s.A s.n s.c s.xs _ HS1.out.one.p.at_.2.1 (by omega) (HS1.out.one.p.ev.row.row (fun y hy=>(HS1.out.one.p.ev.own y hy).ok)) (fun y hy=>by have:=hsm.2 y hy;omega));clear bal hsm;go_wp2_with fail;refine HEV.out.mono ?_;rintro e we ⟨AE,cE,ys,rfl,oE,oy,hye,bE⟩;obtain ⟨l,hl⟩ : ∃ l,l = s.evs.map (·.d):=⟨_,rfl⟩
    have hyl : l = ys.map fun y=>y.e.d:=by
      rw [hl]
      unfold SoV.evs
      rw [← hye,List.map_map]
      rfl
    have hyr : ∀ y ∈ ys,rightE y.e = true:=fun y hy=>(HST.out.ki.ev y.e (by
      have h : y.e ∈ ys.map (·.e):=List.mem_map_of_mem hy;rw [hye] at h
      exact h)).2
    have hlen : l.length = s.n:=by rw [hyl,List.length_map,← oE.1]
    have hb2 : wc.heap.size < (wc.alloc (.map #[] 0)).heap.size:=by simp
    have HL:=Lib.hid hl;have HYL:=Lib.hid hyl;have HYR:=Lib.hid hyr;have HLN:=Lib.hid hlen;have HOE:=Lib.hid (And.intro oE oy);have HDE:=Lib.hid (HD0.out.below (bE.mono (by simp)));have HSE:=Lib.hid (HS1.out.below bE);have HB2:=Lib.hid (show ∀ z,z = wc.heap.size→z < (wc.alloc (.map #[] 0)).heap.size from fun z hz=>by rw [hz];exact hb2);have HLE:=Lib.hid (And.intro hb2 bE.size);clear hl hyl hyr hlen oE oy hye bE hb2 HEV HD0 HS1;go_wp2_with fail
    go_loopw [147] (fun i wq=>∃ q : Nat,q≤s.n∧i = .int .i64 (q : Nat)∧DMap wq wc.heap.size q (l.take q)∧Only (fun z=>z = wc.heap.size) we wq) (fun i _=>s.n - (intOf i).toNat)
    case atStart=>exact ⟨0,by omega,rfl,HDE.out,Only.refl _ _⟩
    case round =>
    obtain ⟨q,hq,rfl,hdm,hoq⟩:=hrel;have HDM:=Lib.hid hdm;have HOQ:=Lib.hid hoq;clear hdm hoq
    by_cases hql : q < s.n
    case pos =>
      have hqx : q < ys.length:=by rw [← HOE.out.1.1];exact hql
      obtain ⟨hoke,ade,hAe,habe,hce⟩:=((OwnEv.onlyG HOE.out.1 HOQ.out HB2.out).row (fun y hy=>EvOwn.ok (EvOwn.onlyG (HOE.out.2 y hy) HOQ.out HB2.out))).2 q _ (List.getElem?_eq_getElem hqx);have hrt:=HYR.out _ (List.getElem_mem hqx)
      have hsn : l.take (q + 1) = l.take q ++ [ys[q].e.d]:=by
        have h:=take_snoc (ys.map fun y=>y.e.d) (k:=q) (by rw [List.length_map];exact hqx);rw [HYL.out,h,List.getElem_map]
      generalize ys[q] = x at *
      obtain ⟨ce,hcex⟩ : ∃ ce,ce = x.cs:=⟨_,rfl⟩;rw [← hcex] at hce;have SZE:=Lib.hid (show ce.size = 14 by rw [hcex];rfl);have OZE:=Lib.hid (show ce.all (·.oneCell') = true by rw [hcex];exact x.one);have XE0:=Lib.hid (show ce[0]? = some (.int .i64 x.e.d.1) by rw [hcex];rfl);have XE1:=Lib.hid (show ce[1]? = some (.int .i64 x.e.d.2) by rw [hcex];rfl);have HCE:=Lib.hid hce;have HSN2:=Lib.hid hsn;have HOD:=Lib.hid (okD_right hrt)
      have hq0 : (0 : Int)≤(q : Int):=by omega
      have hqm : (q : Int) < (s.n : Int):=by omega
      have hq3 : q≤100000:=by have:=HSN.out;omega
      rw [hAe];clear hce hcex hrt hsn hoke hAe
      go_upto_region 52 with first
        | ((with_reducible refine wpList_lda rowE HCE.out SZE.out ?_ ?_);rotate_left;(rfl))
        | ((with_reducible refine wpList_st rowE (Blk.new _ _ _) SZE.out ?_ OZE.out ?_ ?_ ?_);(rfl);rotate_left;(rfl);(rfl);intro wu ku gu zu)
      have bu : Below wr.heap.size wr wu:=new_below gu;have hdu:=HDM.out.below bu;have hou:=HOQ.out.then_below (bu.mono HOQ.out.size);have hrd:=ev_two (o:=0) ku XE0.out XE1.out;have HDU:=Lib.hid (And.intro hdu hou);obtain ⟨gu',hgu⟩ : ∃ gu',gu' = wr.heap.size:=⟨_,rfl⟩;rw [← hgu] at hrd ku ⊢;clear gu zu bu hdu hou ku hgu
      go_wp2_with first
        | ((with_reducible refine wpList_ldr rowDt2 hrd rfl ?_ ?_);rotate_left;(rfl))
        | (at_mapUpdate;refine wpList_putD rfl _ _ rfl rfl HDU.out.1 (by unfold maxLen;omega) x.e.d rfl HOD.out ?_;intro wv hdm' hg')
      have HDV:=Lib.hid hdm';have HOV:=Lib.hid (HDU.out.2.trans (Only.of_grown (F:=fun z=>z = wc.heap.size) hg' rfl) (Grows.refl _ _));clear hdm' hg' hrd;go_wp2_with fail
      go_roundw
      case rel=>exact ⟨q + 1,by omega,by go_num,by rw [HSN2.out];exact HDV.out,HOV.out⟩
      case measure=>simp [intOf];omega
    obtain rfl : q = s.n:=by omega
    have hnn : ¬ (s.n : Int) < (s.n : Int):=by omega
    have HDT:=Lib.hid (show DMap wr wc.heap.size s.n l by have h:=HDM.out;rw [List.take_of_length_le (Nat.le_of_eq HLN.out)] at h;exact h);have hsr:=HSE.out.only HOQ.out (fun z hz e=>by have:=HST.out.one.p.lt z hz;omega) (fun z hz=>by rw [hz];exact HST.out.one.bel.size) (fun e=>by have:=HST.out.dm.lt;omega);have HSR:=Lib.hid hsr;have HDK:=Lib.hid (show DMap wr B nB l by rw [HL.out];exact hsr.dm);have HIN:=Lib.hid (inc_any s.b s.g S.used S.upto S.inc _ wr hsr.one.p.at_.2.1);have HUP:=Lib.hid (upto_any s.b s.g S.used S.upto S.inc _ wr hsr.one.p.at_.2.1)
    have q1 : ¬ (S.inc : Int) < (incn : Int):=by have:=hsr.ic;omega
    have q2 : ¬ (S.upto : Int) < (lastn : Int):=by have:=hsr.la;have:=hsr.gs.u;omega
    clear hsr HDM HSE HDE HOE HST HYL HYR HLN HOQ HB2 HLE
    go_wp2_with first
      | (at_len;refine wpList_lenD rfl _ rfl rfl HDT.out ?_)
      | (at_len;refine wpList_lenD rfl _ rfl rfl HDK.out ?_)
    refine HIN.out.mono ?_;rintro e w9 ⟨rfl,rfl⟩;go_wp2_with fail;refine HUP.out.mono ?_;rintro e w9 ⟨rfl,rfl⟩;clear HIN HUP
    go_wp2_with first
      | (at_range;refine wpList_range_own _ rfl _ _ rfl _ _ dotK Tryz.underlying70 _ B nB _ rfl HDK.out.1 ?_;intro wz hrg0 hg0 hs0)
    go_frame
    have hd1 : decide (S.inc < incn) = false:=decide_eq_false (by omega);have hd2 : decide (S.upto < lastn) = false:=decide_eq_false (by omega)
    simp only [hd1,hd2,Bool.or_false]
    clear hd1 hd2 q1 q2;have bz : Below wr.heap.size wr wz:=(Below.refl _ _).grown hg0 (Nat.le_refl _) (fun z hz=>by cases hz);obtain ⟨r0,hr0⟩ : ∃ r0,r0 = wr.heap.size:=⟨_,rfl⟩;have HSZ:=Lib.hid (HSR.out.below bz);have HDZ:=Lib.hid (HDT.out.below bz);have HKZ:=Lib.hid (HDK.out.below bz);have HLT:=Lib.hid (And.intro (show ∀ z,s.foot z→z < r0 from fun z hz=>by rw [hr0];exact HSR.out.one.p.lt z hz) (And.intro (show B < r0 by rw [hr0];exact HDK.out.lt) (And.intro (show wc.heap.size < r0 by rw [hr0];exact HDT.out.lt) (show w0.heap.size≤r0 by rw [hr0];exact HSR.out.one.bel.size))));rw [← hr0] at hrg0 ⊢;have HRG:=Lib.hid hrg0;clear hr0 hrg0 hg0 hs0 bz HSR HDT HDK
    go_loopw [23] (fun _ wq=>∃ (left : Lit→Bool) (cnt : Nat),wq.ranges Tryz.prog 42 (plainElem Tryz.prog 4) B r0 nB (Maps.setOf u1 (l.map kD)) left cnt∧(∀ kl,left kl = true→Maps.has (Maps.setOf u1 (l.map kD)) kl = true)∧Only (fun z=>z = r0) wz wq) (fun _ wq=>wq.rangeLeft B r0)
    case atStart=>exact ⟨_,_,HRG.out,fun kl h=>h,Only.refl _ _⟩
    case round =>
    obtain ⟨left,cnt,hrg,hsub,hoz⟩:=hrel;have HRQ:=Lib.hid hrg;have HSU:=Lib.hid hsub;have HOZ:=Lib.hid hoz;clear hrg hsub hoz HRG
    go_wp2_with (at_next;refine wpList_next_ranges wr rfl _ rfl _ dotK _ (fun x : Value=>x) (fun x : Value=>x) (fun key _ _=>⟨key,rfl⟩) (fun v _ _=>⟨v,rfl⟩) B r0 nB _ left cnt rfl HRQ.out ?_ ?_)
    · intro hc0 hl0
      have HNW:=Lib.hid (HSZ.out.only HOZ.out (fun z hz e=>by have:=HLT.out.1 z hz;omega) (fun z hz=>by rw [hz];exact HLT.out.2.2.2) (fun e=>by have:=HLT.out.2.1;omega));clear hc0 hl0;go_wp2_with fail
      go_roundw
      case rel=>exact ⟨k + 1,lastn,incn,B,S,s,rs,nB,by omega,by go_num,rfl,rfl,rfl,rfl,rfl,HNW.out⟩
      case measure=>simp [intOf];omega
    · intro x c kl y1 y2 wn cnt1 hkey hlk hv hat hrg1 hlt1 hg1 hs1 hen
      obtain ⟨d,hd,rfl⟩:=HKZ.out.mem hkey (HSU.out kl hlk);have HKEY:=Lib.hid hkey;have HHAS:=Lib.hid (HSU.out kl hlk);have HR1:=Lib.hid hrg1;have HLT1:=Lib.hid hlt1;have HO1:=Lib.hid (HOZ.out.trans (Only.of_grown (F:=fun z=>z = r0) hg1 rfl) (Grows.refl _ _));have HSU1:=Lib.hid (show ∀ z : Lit,(left z && !z.sameKey kl) = true→Maps.has (Maps.setOf u1 (l.map kD)) z = true from fun z hz=>HSU.out z (by simp only [Bool.and_eq_true] at hz;exact hz.1));have hRL:=HRQ.out.left_eq;have HRL:=Lib.hid hRL
      unfold Dmap.dv at hen
      obtain ⟨cd,hcd⟩ : ∃ cd,cd = (#[Value.int .i64 d.1,.int .i64 d.2] : Array Value):=⟨_,rfl⟩;have SD:=Lib.hid (show cd.size = 2 by rw [hcd];rfl);have OD:=Lib.hid (show cd.all (·.oneCell') = true by rw [hcd];exact dot_one _ _);rw [← hcd] at hen;have HCD:=Lib.hid hcd;clear hkey hlk hv hat hrg1 hlt1 hg1 hs1 hcd hRL
      go_upto_region 59 with first
        | ((with_reducible refine wpList_st rowDt2 (Blk.new _ _ _) SD.out ?_ OD.out ?_ ?_ ?_);(rfl);rotate_left;(rfl);(rfl);intro wu ku gu zu)
      have bu : Below wn.heap.size wn wu:=new_below gu;have gn:=(World.grownBy_alloc wn (.cells #[.int .i64 0,.int .i64 0] 42) none).andThen gu (fun j hj=>.inl (by injection hj with hj;omega));have HR2:=Lib.hid (HR1.out.kept gn (by simp) (by simp));have ho2:=HO1.out.then_below (bu.mono HO1.out.size);have HO2:=Lib.hid ho2;have HDU:=Lib.hid (HDZ.out.only ho2 (fun e=>by have:=HLT.out.2.2.1;omega));obtain ⟨gu',hgu⟩ : ∃ gu',gu' = wn.heap.size:=⟨_,rfl⟩;rw [← hgu] at ku ⊢;have HKY:=Lib.hid (by have h:=HKEY.out;unfold Dmap.dv at h;rw [← HCD.out] at h;exact h : keyOf Tryz.prog 42 (.agg cd) = some kl);clear gu zu bu gn ho2 hgu hen
      go_wp2_with first
        | ((with_reducible refine wpList_ld rowDt2 ku SD.out ?_ ?_);rotate_left;(rfl))
        | (at_lookup;refine wpList_lookD rfl _ _ rfl rfl HDU.out rfl HKY.out HHAS.out ?_)
      go_roundw
      case rel=>exact ⟨_,cnt1,HR2.out,HSU1.out,HO2.out⟩
      case measure=>rw [HR2.out.left_eq,HRL.out];exact HLT1.out
set_option maxRecDepth 100000 in
theorem lifted (os : Os) (started : os.Started) (H : Type) (enc : TypeId × Value→H) :
    ReturnsInHanded {} Tryz.checked os 4 .any (Rows.storeKeepsSpec.pre6 enc Tryz.prog Tryz.f4 Rows.storeKeepsRow.domain false) (Rows.storeKeepsSpec.post enc Tryz.prog Tryz.f4 false true false false):=by
  refine returnsInHanded_of_change_sized (C:=Tryz.checked) own started (by kernel_rfl) Tryz.func4
    (ChangeSpec.witness6 (enc:=enc) (C:=Tryz.checked) false ⟨#[],#[.int .i64 0,.slice none 0 0],[]⟩ 8 (by kernel_rfl) (by kernel_rfl) (by kernel_rfl) (by kernel_rfl)) ?_
  intro W base args ds gs before hval0 hW hcnd hsz0 _;have hsz : (DataW.weightsEach Tryz.prog (Tryz.f4.params.toList ++ []) (ds ++ gs)).all (·≤reachBytes) = true:=hsz0;have hval : ∀ (j : Nat) t v,Tryz.f4.params[j]? = some t→args[j]? = some v→Value.okWide Tryz.prog W .any base t v:=hval0;have hW':=hW;obtain ⟨p,q,hA0,hV,rfl,hfz,hnd⟩:=hW;have hA : DataW.TrodAll enc Tryz.prog W 0 (fun _=>true) true Tryz.f4.params.toList args.toList ds p:=hA0;rw [Tryz.params4] at hA hval hsz;obtain ⟨v0,vs0,d0,ds0,p0,q0,hargs,rfl,rfl,h0,r0⟩:=trodAll_cons hA;obtain ⟨v1,vs1,d1,ds1,p1,q1,rfl,rfl,rfl,h1,r1⟩:=trodAll_cons r0;obtain ⟨rfl,rfl,rfl⟩:=trodAll_nil r1
  obtain rfl : args = #[v0,v1]:=by cases args;simp_all
  obtain ⟨rfl,rfl⟩:=trodVars_none hV
  have lt0 : ∀ x ∈ p0,x.block < W.heap.size:=by obtain ⟨m,hm⟩:=h0;exact DataW.trod_lt m _ _ _ hm
  have k0:=h0
  have lt1 : ∀ x ∈ p1,x.block < W.heap.size:=by obtain ⟨m,hm⟩:=h1;exact DataW.trod_lt m _ _ _ hm
  have k1:=h1;obtain ⟨x0,rfl,rfl,rfl,wf0⟩:=open_int Tryz.underlying3 (hval 0 3 v0 rfl rfl) h0
  have hb0 : -9223372036854775808≤x0∧x0≤9223372036854775807:=by
    have hmin : IntKind.i64.min = -9223372036854775808:=rfl;have hmax : IntKind.i64.max = 9223372036854775807:=rfl
    simp only [Lit.wf,Bool.and_eq_true,decide_eq_true_eq] at wf0
    omega
  have sz1 : Sz 23 d1:=sz_arg (j:=1) hsz rfl rfl;obtain ⟨A1,n1,c1,l1,rfl,hk1,p11⟩:=open_ops15 (hval 1 23 v1 rfl rfl) h1 sz1;clear hA0 hval0
  refine (walk x0 A1 n1 c1 l1 W hb0.1 hb0.2 hk1 p11).mono fun e W' ⟨he,bel⟩=>?_
  subst he;exact ⟨_,rfl,_,_,_,[],_,[],hW',trodAll_mk1 (shut_bool Tryz.underlying4 _),(trodAll_cons_mk (Below.trod laidOut (by kernel_rfl) (of_decide_eq_true (by kernel_rfl)) k0 bel lt0) (trodAll_cons_mk (Below.trod laidOut (by kernel_rfl) (of_decide_eq_true (by kernel_rfl)) k1 bel lt1) trodAll_mk0)),rfl,bel.frame _,fun h=>by cases h⟩
theorem proved : Rows.StoreKeepsSaid :=
  OpenClaim.holds_of_wide 4 Tryz.f4 rfl rfl rfl rfl rfl rfl rfl ⟨rfl,rfl,rfl,rfl,rfl⟩ rfl rfl rfl rfl rfl (by kernel_rfl) Tryz.func4 (by kernel_rfl)
    (of_decide_eq_true (by kernel_rfl)) (by unfold Func.isWrapper;first | (rw [if_pos (by decide +kernel)];kernel_rfl) | (rw [if_neg (by decide +kernel)];exact ⟨rfl,rfl⟩))
    (fun os started H enc _=>lifted os started H enc)
#print axioms proved
end Go.Proofs.YtfpenfgmpbdakaaGreat.StoreKeeps
