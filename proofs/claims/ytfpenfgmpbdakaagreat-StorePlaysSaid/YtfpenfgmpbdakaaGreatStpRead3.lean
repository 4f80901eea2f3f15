import Derived.Test.YtfpenfgmpbdakaaGreatLogRef
import Derived.Test.YtfpenfgmpbdakaaGreatSls
import Derived.Test.YtfpenfgmpbdakaaGreatFoot
import Derived.Test.YtfpenfgmpbdakaaGreatFactsD
import Derived.Test.YtfpenfgmpbdakaaGreatEvThrW
import Derived.Test.YtfpenfgmpbdakaaGreatVintRead
import Derived.Test.YtfpenfgmpbdakaaGreatVintMath
import Derived.Test.YtfpenfgmpbdakaaGreatEvMath
import Derived.Test.YtfpenfgmpbdakaaGreatEvMem
import Derived.Test.YtfpenfgmpbdakaaGreatEvNoP
import Derived.Test.YtfpenfgmpbdakaaGreatStoWalks
namespace Go.Proofs.YtfpenfgmpbdakaaGreat
set_option linter.unusedVariables false
set_option linter.unusedSimpArgs false
set_option maxRecDepth 100000
open Go.RowKit
open Dot Evt
namespace Sto
theorem rnumber_any (kd : UInt8) (n : Nat) (hn : n≤1099511627776) (w : World) :
    Calls Tryz.prog 51 #[.int .u8 (kd.toNat : Int),.int .i64 n] w (GiveB w (told kd n)):=by
  have hal:=fun w0 : World=>(Below.refl w0.heap.size w0).alloc (Nat.le_refl _)
  go_enter Tryz.func51,Tryz.ntmps51
  go_wp2_with fail;refine (rput_ok _ 1 1 [kd] n (World.heap _).size _ (by exact (RdB.made _ [kd] _ _ _ rfl).size) (Nat.le_refl _) (by omega) hn).mono ?_;rintro e w1 ⟨A,n1,c1,rfl,ho,h1⟩;go_wp2_with fail;go_ret;exact ⟨_,_,_,rfl,ho.mono (by simp),(hal _ _).trans (h1.mono (by simp))⟩
theorem rnumber_lit (kd : UInt8) (z m : Int) (n : Nat) (hz : (kd.toNat : Int) = z) (hm : m = (n : Nat)) (hn : n≤1099511627776) (w : World) :
    Calls Tryz.prog 51 #[.int .u8 z,.int .i64 m] w (GiveB w (told kd n)):=by
  subst hz hm;exact rnumber_any kd n hn w
theorem rrecord_any (x : EvV) (w : World) (hx : EvOk w w.heap.size x) (hr : rightE x.e = true) (hm : x.m≤10000000000000) :
    Calls Tryz.prog 56 #[.agg x.cs] w (GiveB w (told3 x.e)):=by
  have HP:=Lib.hid fun (w' : World) (hb : Below w.heap.size w w')=>rput07_any x.e hx.1 x.A x.m x.c w' ((hx.2.1.below hb).more hb.size) hm
  obtain ⟨cs,hcs⟩ : ∃ cs,cs = x.cs:=⟨_,rfl⟩
  have hcs2 : ec x.e (.slice x.A x.m x.c) = cs:=by rw [hcs];rfl
  have SZ:=Lib.hid (show cs.size = 14 by rw [hcs];rfl);rw [hcs2] at HP;rw [← hcs]
  have hp : putE x.e = (encE x.e,0):=by unfold putE;rw [hr];rfl
  have hlen:=encE_len hx.1 hr
  have ht : told3 x.e = 3 :: encE x.e:=by unfold told3;rw [hp]
  rw [hp] at HP;rw [ht]
  generalize encE x.e = PB at *
  clear hx hcs hcs2 hp hr ht hm
  go_enter Tryz.func56,Tryz.ntmps56
  go_upto_region 1 with fail
  refine nameW ?_;intro W hW
  have kb : Blk W w.heap.size 47 cs:=by rw [hW];exact Blk.new _ _ _
  have gb : Below w.heap.size w W:=by rw [hW];exact (Below.refl _ _).alloc (Nat.le_refl _) _
  clear hW
  go_wp2_with ((with_reducible refine wpList_ld rowE kb SZ.out ?_ ?_);rotate_left;(rfl))
  refine (HP.out W gb).mono ?_;rintro e w1 ⟨A,n1,c1,rfl,ho,b1⟩;have gb1:=gb.trans (b1.mono gb.size);have HO:=Lib.hid ho
  have hn1 : n1≤100000000:=by rw [ho.1];omega
  clear ho b1 kb gb;have hba : Below w1.heap.size w1 (w1.alloc (.cells #[.int .u8 3] 5)):=(Below.refl _ _).alloc (Nat.le_refl _) _
  go_wp2_with (at_builtin;refine wpList_appB rfl (.tmp 10) (.tmp 11) rfl rfl (OwnB.made w1 w1.heap.size [3] #[.int .u8 3] 1 rfl rfl (Nat.le_refl _) (by unfold maxLen;omega)) rfl (HO.out.rd.below hba) (by omega) (by simp) ?_)
  intro A' c' w3 o3 _ _ b3;go_wp2_with fail;go_ret;exact ⟨_,_,_,rfl,o3.mono gb1.size,gb1.trans ((hba.trans b3).mono gb1.size)⟩
set_option maxHeartbeats 2000000 in
theorem rhas_any (A : Option Addr) (n c : Nat) (xs : List EvV) (d0 d1 : Int) (w0 : World) (hr : RowEv w0 w0.heap.size A n xs) (hn : n≤10000000000000) :
    Calls Tryz.prog 45 #[.slice A n c,.agg #[.int .i64 d0,.int .i64 d1]] w0 fun e w'=>e = .returned (.bool (hasE (xs.map (·.e)) (d0,d1)))∧Below w0.heap.size w0 w':=by
  have HN:=Lib.hid hr.1
  have HRK:=Lib.hid fun (w' : World) (hb : Below w0.heap.size w0 w')=>hr.below hb
  have HNB:=Lib.hid hn
  have hx : hasE (xs.map (·.e)) (d0,d1) = xs.any fun z=>decide (z.e.d = (d0,d1)):=by unfold hasE;rw [List.any_map];rfl
  rw [hx]
  obtain ⟨R,hR⟩ : ∃ R,R = xs.any fun z=>decide (z.e.d = (d0,d1)):=⟨_,rfl⟩
  rw [← hR];have HR:=Lib.hid hR;clear hr hR hn hx
  go_enter Tryz.func45,Tryz.ntmps45
  go_upto_region 1 with fail
  refine nameW ?_;intro W hW;obtain ⟨g,hg⟩ : ∃ g,g = w0.heap.size:=⟨_,rfl⟩;rw [← hg]
  have kd : Blk W g 42 #[.int .i64 d0,.int .i64 d1]:=by rw [hW,hg];exact Blk.new _ _ _
  have gW : Below w0.heap.size w0 W:=by rw [hW];exact (Below.refl _ _).alloc (Nat.le_refl _) _
  clear hW hg;go_wp2_with fail
  go_loopw [4,9] (fun _ i wr=>∃ k : Nat,k≤n∧i = .int .i64 (k : Nat)∧(∀ j x,j < k→xs[j]? = some x→x.e.d ≠ (d0,d1))∧Below W.heap.size W wr) (fun _ i _=>n - (intOf i).toNat)
  case atStart=>exact ⟨0,by omega,rfl,fun j x hj=>by omega,Below.refl _ _⟩
  case round =>
  obtain ⟨k,hkn,rfl,hall,gr⟩:=hrel;have HA:=Lib.hid hall;have gb : Below w0.heap.size w0 wr:=gW.trans (gr.mono gW.size);have kd:=kd.below gr kd.lt;clear hall
  by_cases hlt : k < n
  · have hkl : k < xs.length:=by rw [← HN.out];exact hlt
    have hkb : k < 10000000000000:=by have:=HNB.out;omega
    obtain ⟨hok,ad,hA,hab,hcs⟩:=(HRK.out wr gb).2 k _ (List.getElem?_eq_getElem hkl);have e1 : xs[k]? = some xs[k]:=List.getElem?_eq_getElem hkl;have hmem : xs[k] ∈ xs:=List.getElem_mem hkl
    generalize xs[k] = x at *
    subst hA;obtain ⟨cs,hcx⟩ : ∃ cs,cs = x.cs:=⟨_,rfl⟩;rw [← hcx] at hcs;have HSZ:=Lib.hid (show cs.size = 14 by rw [hcx];rfl);have HCS:=Lib.hid hcs;have H1C:=Lib.hid (show cs.all (·.oneCell') = true by rw [hcx];exact x.one);have X0:=Lib.hid (show cs[0]? = some (.int .i64 x.e.d.1) by rw [hcx];rfl);have X1:=Lib.hid (show cs[1]? = some (.int .i64 x.e.d.2) by rw [hcx];rfl);have E1:=Lib.hid e1;have HM:=Lib.hid hmem
    have hk0 : (0 : Int)≤(k : Int):=by omega
    have hkm : (k : Int) < (n : Int):=by omega
    clear hcs hok hcx e1 hmem
    go_upto_region 4 with first
      | ((with_reducible refine wpList_lda rowE HCS.out HSZ.out ?_ ?_);rotate_left;(rfl))
      | ((with_reducible refine wpList_st rowE (Blk.new _ _ _) HSZ.out ?_ H1C.out ?_ ?_ ?_);(rfl);rotate_left;(rfl);(rfl);intro w6 k6 g6 z6)
    have bA : Below wr.heap.size wr w6:=new_below g6;have kd6:=kd.below bA kd.lt;have gr6 : Below W.heap.size W w6:=gr.trans (bA.mono gr.size);obtain ⟨ge,hge⟩ : ∃ ge,ge = wr.heap.size:=⟨_,rfl⟩;rw [← hge] at k6 ⊢;have c0:=(k6.cell 0).trans X0.out;have c1:=(k6.cell 1).trans X1.out;have t0 : w6.cell? ⟨g,0,none⟩ = some (.int .i64 d0):=kd6.cell 0;have t1 : w6.cell? ⟨g,1,none⟩ = some (.int .i64 d1):=kd6.cell 1;obtain ⟨b,hb⟩ : ∃ b,b = decide (x.e.d = (d0,d1)):=⟨_,rfl⟩;have HB:=Lib.hid hb;have GB:=Lib.hid (gb.trans (bA.mono gb.size));clear hge k6 g6 z6 bA gr gb kd kd6
    cases b
    case true =>
      have hd:=of_decide_eq_true hb.symm
      have hrr : R = true:=by rw [HR.out];exact List.any_eq_true.2 ⟨x,HM.out,HB.out.symm⟩
      subst hrr
      have a1 : x.e.d.1 = d0:=by rw [hd]
      have a2 : x.e.d.2 = d1:=by rw [hd]
      rw [a1] at c0;rw [a2] at c1;clear hb hd a1 a2;go_wp2_with fail;go_ret;exact ⟨rfl,GB.out⟩
    case false =>
      have hd:=of_decide_eq_false hb.symm
      have hne : x.e.d.1 ≠ d0∨x.e.d.2 ≠ d1:=by
        by_cases q : x.e.d.1 = d0
        · exact .inr fun q2=>hd (Prod.ext q q2)
        · exact .inl q
      generalize x.e.d.1 = y0 at *
      generalize x.e.d.2 = y1 at *
      clear hb hd
      rcases hne with q | q
      all_goals
        go_wp2_with fail
        go_roundw
        case rel=>exact ⟨k + 1,by omega,by go_num,fun j y hj hy=>by
          by_cases e : j = k
          · subst e
            rw [E1.out] at hy
            injection hy with hy
            rw [← hy];exact of_decide_eq_false HB.out.symm
          · exact HA.out j y (by omega) hy,gr6⟩
        case measure=>simp [intOf];omega
  · obtain rfl : k = n:=by omega
    have hrr : R = false:=by
      rw [HR.out,List.any_eq_false];intro x hx;obtain ⟨j,hj,e⟩:=List.getElem_of_mem hx
      have:=HA.out j x (by rw [HN.out];exact hj) (by rw [List.getElem?_eq_getElem hj,e])
      simpa using this
    subst hrr
    have hkk : ¬ (k : Int) < (k : Int):=by omega
    go_wp2_with fail;go_ret;exact ⟨rfl,gb⟩
end Sto
end Go.Proofs.YtfpenfgmpbdakaaGreat

namespace Go.Proofs.YtfpenfgmpbdakaaGreat
set_option linter.unusedVariables false
set_option linter.unusedSimpArgs false
set_option maxRecDepth 100000
open Go.RowKit
open Disk
namespace Sto.Stp
open _root_.Go.Proofs.YtfpenfgmpbdakaaGreat.Log (writeM rewriteM mendM RLogEnd RMendEnd rlwrite_any rlrewrite_any rlmend_any rlread_any ReadL)
open _root_.Go.Proofs.YtfpenfgmpbdakaaGreat.Frame (frm frms frms_nil frms_cons frms_snoc frms_append frm_length frm_pos Parts AllF)
def RefD (w : World) (F : Nat→Prop) (g size : Nat) (d : Db) : Prop:=RefAt w F g size d.lasts (exp d.ws)∧d.ok
def RefOpD (w : World) (F : Nat→Prop) (g size : Nat) (d : Db) (w' : World) : Prop:=∃ F',RefD w' F' g size d∧Only F w w'∧Grows F F' w
section
variable {w w1 : World} {F : Nat→Prop} {g size : Nat} {d : Db}
theorem RefD.lt (h : RefD w F g size d) : ∀ k,F k→k < w.heap.size:=h.1.lt
theorem RefD.keep (h : RefD w F g size d) (hk : Keeps F w w1) : RefD w1 F g size d:=⟨h.1.keep hk,h.2⟩
theorem RefD.below (h : RefD w F g size d) (hb : Below w.heap.size w w1) : RefD w1 F g size d:=⟨h.1.below hb,h.2⟩
theorem RefOpD.of (h : RefOp w F g size d.lasts (exp d.ws) w1) (ok : d.ok) : RefOpD w F g size d w1:=by
  obtain ⟨F',h1,h2,h3⟩:=h;exact ⟨F',⟨h1,ok⟩,h2,h3⟩
theorem RefOpD.kept {k : Nat} {t : TypeId} {cs : Array Value} (h : RefOpD w F g size d w1) (kb : Blk w k t cs) (hn : ¬ F k) : Blk w1 k t cs:=by
  obtain ⟨F',_,o,_⟩:=h;exact kb.only o hn
end
def RDLogEnd (w : World) (F : Nat→Prop) (g size : Nat) (r : Nat × Db) (e : Ending) (w' : World) : Prop:=e = .returned (.int .i64 (r.1 : Nat))∧RefOpD w F g size r.2 w'
theorem rlwriteD_any (A : Option Addr) (n c B : Nat) (bs : List UInt8) (F : Nat→Prop) (g size : Nat) (d : Db) (w : World) (hD : RefD w F g size d) (hs : size≤16384) (hb : RdB w B A n bs) (hB : B≤w.heap.size) :
    Calls Tryz.prog 50 #[.pointer (some ⟨g,0,none⟩),.slice A n c] w (RDLogEnd w F g size (writeD size d bs)):=by
  have h1:=hD.2.1;have h2:=hD.2.2.2;refine (rlwrite_any A n c B bs F g size d.lasts d.ws w hD.1 (by omega) (by omega) hs hb hB).mono ?_;rintro e w' ⟨he,ho⟩;rw [writeD_eq] at he ho;exact ⟨he,RefOpD.of ho (writeD_ok bs hs hD.2)⟩
theorem rlrewriteD_any (A : Option Addr) (n c B : Nat) (ls : List (List UInt8)) (F : Nat→Prop) (g size : Nat) (d : Db) (w : World) (hD : RefD w F g size d) (hs : size≤16384)
    (hb : RdS w B A n ls) (hB : B≤w.heap.size) (hn : n≤1000000) :
    Calls Tryz.prog 59 #[.pointer (some ⟨g,0,none⟩),.slice A n c] w (RDLogEnd w F g size (rewriteD size d ls)):=by
  have h1:=hD.2.1;have h2:=hD.2.2.2;refine (rlrewrite_any A n c B ls F g size d.lasts d.ws w hD.1 (by omega) (by omega) hs hb hB hn).mono ?_;rintro e w' ⟨he,ho⟩;rw [rewriteD_eq] at he ho;exact ⟨he,RefOpD.of ho (rewriteD_ok ls hs hD.2)⟩
theorem rlmendD_any (F : Nat→Prop) (g size : Nat) (d : Db) (w : World) (hD : RefD w F g size d) (hs : size≤16384) (hfit : d.length≤size) :
    Calls Tryz.prog 42 #[.pointer (some ⟨g,0,none⟩)] w fun e w'=>∃ l r,Parts d.v l r∧e = .returned (.tuple #[])∧RefOpD w F g size (mendD d l) w':=by
  have h1:=hD.2.1;have h2:=hD.2.2.2;refine (rlmend_any F g size d.lasts d.ws w hD.1 (by omega) (by omega) hs hfit).mono ?_;rintro e w' ⟨l,r,hp,he,ho⟩;rw [mendD_eq] at ho;exact ⟨l,r,hp,he,RefOpD.of ho (mendD_ok l hs hfit hD.2)⟩
theorem rlreadD_any (F : Nat→Prop) (g size : Nat) (d : Db) (w : World) (hD : RefD w F g size d) :
    Calls Tryz.prog 43 #[.pointer (some ⟨g,0,none⟩)] w (ReadL w d.v):=by
  have h1:=hD.2.1;exact rlread_any F g size d.lasts d.ws w hD.1 (by omega)
end Sto.Stp
end Go.Proofs.YtfpenfgmpbdakaaGreat

namespace Go.Proofs.YtfpenfgmpbdakaaGreat
set_option linter.unusedVariables false
set_option linter.unusedSimpArgs false
set_option maxRecDepth 100000
open Go.RowKit
open Disk
namespace Sto.Stp
open _root_.Go.Proofs.YtfpenfgmpbdakaaGreat.Log (writeM RLogEnd rlwrite_any)
open _root_.Go.Proofs.YtfpenfgmpbdakaaGreat.Frame (frm frms frms_nil frms_cons frms_snoc frms_append frm_length frm_pos Parts AllF)
def RStoAt (w : World) (F : Nat→Prop) (b g size : Nat) (S : Sd) (E : Value) : Prop:=RefD w F g size S.b∧Blk w b 67 (sc g S.used S.upto S.inc E)∧¬ F b
def RStoOp (w : World) (F : Nat→Prop) (b g size : Nat) (S : Sd) (E : Value) (w' : World) : Prop:=∃ F',RStoAt w' F' b g size S E∧Only (fun k=>F k∨k = b) w w'∧Grows F F' w
structure RSW (w : World) (F : Nat→Prop) (b g size : Nat) (S : Sd) (E : Value) (F1 : Nat→Prop) (w1 : World) : Prop where
  disk : RefD w1 F1 g size S.b
  blk : Blk w1 b 67 (sc g S.used S.upto S.inc E)
  only : Only (fun k=>F k∨k = b) w w1
  grows : Grows F F1 w
  nf : ¬ F b
  lt : b < w.heap.size
  fl : ∀ k,F k→k < w.heap.size
section
variable {w w0 w1 w2 : World} {F F1 : Nat→Prop} {b g size : Nat} {S : Sd} {E : Value} {l : Db}
theorem RStoAt.sw (h : RStoAt w F b g size S E) : RSW w F b g size S E F w:=⟨h.1,h.2.1,Only.refl _ _,Grows.refl _ _,h.2.2,h.2.1.lt,h.1.lt⟩
theorem RStoAt.below (h : RStoAt w F b g size S E) (hb : Below w.heap.size w w1) : RStoAt w1 F b g size S E:=⟨h.1.below hb,h.2.1.below hb h.2.1.lt,h.2.2⟩
theorem RSW.nb (h : RSW w F b g size S E F1 w1) : ¬ F1 b:=fun hk=>by
  rcases h.grows _ hk with q | q
  · exact h.nf q
  · have:=h.lt;omega
theorem RSW.below (h : RSW w F b g size S E F1 w1) (hb : Below w1.heap.size w1 w2) : RSW w F b g size S E F1 w2 :=
  ⟨h.disk.below hb,h.blk.below hb h.blk.lt,h.only.then_below (hb.mono h.only.size),h.grows,h.nf,h.lt,h.fl⟩
theorem RSW.op (h : RSW w F b g size S E F1 w1) (ho : RefOpD w1 F1 g size l w2) : ∃ F2,RSW w F b g size { S with b:=l } E F2 w2:=by
  obtain ⟨F2,o1,o2,o3⟩:=ho;refine ⟨F2,o1,h.blk.only o2 h.nb,?_,?_,h.nf,h.lt,h.fl⟩
  · refine h.only.trans (o2.mono (G:=fun k=>F1 k∨k = b) fun k hk=>.inl (.inl hk)) fun k hk=>?_
    rcases hk with hk | hk
    · rcases h.grows k hk with q | q
      · exact .inl (.inl q)
      · exact .inr q
    · exact .inl (.inr hk)
  · exact h.grows.trans o3 h.only.size
theorem RSW.set_ {u' v' i' : Nat} (h : RSW w F b g size S E F1 w1) {i : Nat} {x : Value} (hk : Blk (w1.setCell ⟨b,i,none⟩ x) b 67 (sc g u' v' i' E)) : RSW w F b g size ⟨S.b,u',v',i'⟩ E F1 (w1.setCell ⟨b,i,none⟩ x) :=
  ⟨h.disk.keep ⟨by simp [World.setCell],fun k hk=>Below.heap_setCell w1 _ _ k (fun e=>h.nb (by have e : k = b:=e;rw [← e];exact hk))⟩,hk,h.only.setCell (.inl (.inr rfl)) x,h.grows,h.nf,h.lt,h.fl⟩
theorem RSW.drew (h : RSW w F b g size S E F1 w1) : RSW w F b g size S E F1 w1.drew:=h.below (Below.refl _ _).drew
theorem RSW.drewN (h : RSW w F b g size S E F1 w1) (n : Nat) : RSW w F b g size S E F1 (w1.drewN n):=h.below (below_drewN (Below.refl _ _) n)
theorem RSW.nk (h : RSW w F b g size S E F1 w1) {k : Nat} (hk : k < w.heap.size) (hF : ¬ F k) : ¬ F1 k:=fun q=>by
  rcases h.grows _ q with x | x
  · exact hF x
  · omega
theorem RSW.fin (h : RSW w0 F b g size S E F1 w1) (hb : Below w.heap.size w w0) (hl : b < w.heap.size) (hf : ∀ k,F k→k < w.heap.size) : RStoOp w F b g size S E w1 :=
  ⟨F1,⟨h.disk,h.blk,h.nb⟩,(Only.of_below _ hb).trans h.only (Grows.refl _ _),fun k hk=>(h.grows k hk).imp id fun q=>by have:=hb.size;omega⟩
theorem RSW.keeps {t : TypeId} {cs : Array Value} (h : RSW w0 F b g size S E F1 w1) {k : Nat} (kb : Blk w0 k t cs) (hk : k ≠ b) (hf : ¬ F k) : Blk w1 k t cs:=kb.only h.only (by rintro (q | q);exact hf q;exact hk q)
end
theorem rwrite_any (A : Option Addr) (n c B : Nat) (bs : List UInt8) (F : Nat→Prop) (g size : Nat) (lasts : Db) (w : World) (hD : RefD w F g size lasts) (hm : lasts.length≤16384) (hs : size≤16384) (hb : RdB w B A n bs) (hB : B≤w.heap.size) (l : Db) (k : Nat) (hw : writeD size lasts bs = (k,l)) :
    Calls Tryz.prog 50 #[.pointer (some ⟨g,0,none⟩),.slice A n c] w fun e w'=>e = .returned (.int .i64 (k : Nat))∧RefOpD w F g size l w':=by
  have h:=rlwriteD_any A n c B bs F g size lasts w hD hs hb hB;rw [hw] at h;exact h
def RNumOp (w : World) (F : Nat→Prop) (b g size : Nat) (E : Value) (r : Nat × Nat × Sd) (e : Ending) (w' : World) : Prop:=e = .returned (.tuple #[.int .i64 (r.1 : Nat),.int .i64 (r.2.1 : Nat)])∧RStoOp w F b g size r.2.2 E w'
set_option maxHeartbeats 2000000 in
theorem rbump_any (S : Sd) (E : Value) (F : Nat→Prop) (b g size : Nat) (ws : World) (h : RStoAt ws F b g size S E) (hi : S.inc≤1099511627776) (hs : size≤16384) (hl : S.b.length≤16384) :
    Calls Tryz.prog 17 #[.pointer (some ⟨b,0,none⟩)] ws (RNumOp ws F b g size E (bumpD size S)):=by
  have s0:=h.sw;have hlt : b < ws.heap.size:=h.2.1.lt;have hf : ∀ k,F k→k < ws.heap.size:=h.1.lt;clear h;obtain ⟨sb,su,sv,si⟩:=S
  simp only at *
  have c3 : ws.cell? ⟨b,3,none⟩ = some (.int .i64 (si : Nat)):=s0.blk.cell 3;have c0 : ws.cell? ⟨b,0,none⟩ = some (.pointer (some ⟨g,0,none⟩)):=s0.blk.cell 0
  go_enter Tryz.func17,Tryz.ntmps17
  by_cases h9 : 1099511627776≤si
  · have hr : bumpD size ⟨sb,su,sv,si⟩ = (0,7,⟨sb,su,sv,si⟩):=by unfold bumpD;rw [if_pos h9]
    have HR:=Lib.hid hr
    have hge : (1099511627776 : Int)≤(si : Int):=by omega
    clear hr;go_wp2_with fail;go_ret2;rw [HR.out];exact ⟨rfl,s0.fin (Below.refl _ _) hlt hf⟩
  · have hge : ¬ (1099511627776 : Int)≤(si : Int):=by omega
    have hsn : (0 : Int)≤(si : Int):=by omega
    have hlt9 : (si : Int) < 1099511627776:=by omega
    by_cases hroom : sb.length + (frm (told 2 (si + 1))).length≤size
    · have hr : bumpD size ⟨sb,su,sv,si⟩ = (si + 1,0,⟨sb ++ frm (told 2 (si + 1)),su,sv,si + 1⟩):=by
        unfold bumpD
        rw [if_neg h9]
        simp only
        rw [if_pos hroom]
      have hw : writeD size sb (told 2 (si + 1)) = (0,sb ++ frm (told 2 (si + 1))):=by rw [told_write,if_pos hroom]
      have HR:=Lib.hid hr;have HW:=Lib.hid hw;clear hr hw
      go_upto_region 3 with fail
      refine wp_region_tailF 9 10 (fun L v w=>v 0 = .pointer (some ⟨b,0,none⟩)∧Below ws.heap.size ws w∧(L 0 = true→v 10 = .pointer (some ⟨b,0,none⟩))∧(L 1 = true→v 11 = .pointer (some ⟨b,0,none⟩))∧(L 2 = true→v 12 = .pointer (some ⟨b,0,none⟩))∧(L 3 = true→v 13 = .pointer (some ⟨g,0,none⟩))∧(L 4 = true→v 14 = .pointer (some ⟨b,0,none⟩))∧(L 5 = true→v 15 = .pointer (some ⟨b,0,none⟩))∧(L 6 = true→v 16 = .pointer (some ⟨b,3,none⟩))∧(L 7 = true→v 17 = .int .i64 (si : Nat))∧(L 8 = true→v 18 = .int .i64 ((si : Int) + 1))∧(L 9 = true→(∃ A1 n1 c1,v 19 = .slice A1 n1 c1∧OwnB w ws.heap.size A1 n1 c1 (told 2 (si + 1))))) [10,11,12,13,14,15,16,17,18,19] (by kernel_rfl) (by kernel_rfl) (by kernel_rfl) (by kernel_rfl) (by kernel_rfl) (by kernel_rfl) ?h0 ?hst ?hend
      case h0 =>
        intro L h0;have h0 : ∀ i,i < 10→L i = false:=h0;exact ⟨rfl,(Below.refl _ _).drew,offF h0 (i:=0) (by decide),offF h0 (i:=1) (by decide),offF h0 (i:=2) (by decide),offF h0 (i:=3) (by decide),offF h0 (i:=4) (by decide),offF h0 (i:=5) (by decide),offF h0 (i:=6) (by decide),offF h0 (i:=7) (by decide),offF h0 (i:=8) (by decide),offF h0 (i:=9) (by decide)⟩
      case hst =>
        show FactSteps _ _ _ _ [0,1,2,3,4,5,6,7,8,9]
        refine @FactSteps.cons _ _ _ _ 0 _ [] _ rfl (by kernel_rfl) ?s0 ?_;rotate_left;refine @FactSteps.cons _ _ _ _ 1 _ [0] _ rfl (by kernel_rfl) ?s1 ?_;rotate_left;refine @FactSteps.cons _ _ _ _ 2 _ [1] _ rfl (by kernel_rfl) ?s2 ?_;rotate_left;refine @FactSteps.cons _ _ _ _ 3 _ [2] _ rfl (by kernel_rfl) ?s3 ?_;rotate_left;refine @FactSteps.cons _ _ _ _ 4 _ [] _ rfl (by kernel_rfl) ?s4 ?_;rotate_left;refine @FactSteps.cons _ _ _ _ 5 _ [4] _ rfl (by kernel_rfl) ?s5 ?_;rotate_left;refine @FactSteps.cons _ _ _ _ 6 _ [5] _ rfl (by kernel_rfl) ?s6 ?_;rotate_left;refine @FactSteps.cons _ _ _ _ 7 _ [6] _ rfl (by kernel_rfl) ?s7 ?_;rotate_left;refine @FactSteps.cons _ _ _ _ 8 _ [7] _ rfl (by kernel_rfl) ?s8 ?_;rotate_left;refine @FactSteps.cons _ _ _ _ 9 _ [8] _ rfl (by kernel_rfl) ?s9 ?_;rotate_left;exact FactSteps.nil
        case s0 =>
          rintro L a v w hv hg hL hd hcl ⟨e0,hb,f0,f1,f2,f3,f4,f5,f6,f7,f8,f9⟩ K hK;refine step_do rfl ?_;clear hv;go_simp;exact hK.out _ _ ⟨e0,hb,fun _=>rfl,f1,f2,f3,f4,f5,f6,f7,f8,f9⟩
        case s1 =>
          rintro L a v w hv hg hL hd hcl ⟨e0,hb,f0,f1,f2,f3,f4,f5,f6,f7,f8,f9⟩ K hK;have g0:=f0 (hd 0 (by decide));have g0:=f0 (hd 0 (by decide));refine step_do rfl ?_;clear hv;go_simp;exact hK.out _ _ ⟨e0,hb,f0,fun _=>rfl,f2,f3,f4,f5,f6,f7,f8,f9⟩
        case s2 =>
          rintro L a v w hv hg hL hd hcl ⟨e0,hb,f0,f1,f2,f3,f4,f5,f6,f7,f8,f9⟩ K hK;have g1:=f1 (hd 1 (by decide));have g1:=f1 (hd 1 (by decide));refine step_do rfl ?_;clear hv;go_simp;exact hK.out _ _ ⟨e0,hb,f0,f1,fun _=>rfl,f3,f4,f5,f6,f7,f8,f9⟩
        case s3 =>
          rintro L a v w hv hg hL hd hcl ⟨e0,hb,f0,f1,f2,f3,f4,f5,f6,f7,f8,f9⟩ K hK;have g2:=f2 (hd 2 (by decide));have g2:=f2 (hd 2 (by decide));have cs4 : w.cell? ⟨b,0,none⟩ = some (.pointer (some ⟨g,0,none⟩)):=(hb.cell (p:=⟨b,0,none⟩) hlt).trans c0;refine step_do rfl ?_;clear hv;go_simp;exact hK.out _ _ ⟨e0,hb,f0,f1,f2,fun _=>rfl,f4,f5,f6,f7,f8,f9⟩
        case s4 =>
          rintro L a v w hv hg hL hd hcl ⟨e0,hb,f0,f1,f2,f3,f4,f5,f6,f7,f8,f9⟩ K hK;refine step_do rfl ?_;clear hv;go_simp;exact hK.out _ _ ⟨e0,hb,f0,f1,f2,f3,fun _=>rfl,f5,f6,f7,f8,f9⟩
        case s5 =>
          rintro L a v w hv hg hL hd hcl ⟨e0,hb,f0,f1,f2,f3,f4,f5,f6,f7,f8,f9⟩ K hK;have g4:=f4 (hd 4 (by decide));have g4:=f4 (hd 4 (by decide));refine step_do rfl ?_;clear hv;go_simp;exact hK.out _ _ ⟨e0,hb,f0,f1,f2,f3,f4,fun _=>rfl,f6,f7,f8,f9⟩
        case s6 =>
          rintro L a v w hv hg hL hd hcl ⟨e0,hb,f0,f1,f2,f3,f4,f5,f6,f7,f8,f9⟩ K hK;have g5:=f5 (hd 5 (by decide));have g5:=f5 (hd 5 (by decide));refine step_do rfl ?_;clear hv;go_simp;exact hK.out _ _ ⟨e0,hb,f0,f1,f2,f3,f4,f5,fun _=>rfl,f7,f8,f9⟩
        case s7 =>
          rintro L a v w hv hg hL hd hcl ⟨e0,hb,f0,f1,f2,f3,f4,f5,f6,f7,f8,f9⟩ K hK;have g6:=f6 (hd 6 (by decide));have g6:=f6 (hd 6 (by decide));have cs4 : w.cell? ⟨b,3,none⟩ = some (.int .i64 (si : Nat)):=(hb.cell (p:=⟨b,3,none⟩) hlt).trans c3;refine step_do rfl ?_;clear hv;go_simp;exact hK.out _ _ ⟨e0,hb,f0,f1,f2,f3,f4,f5,f6,fun _=>rfl,f8,f9⟩
        case s8 =>
          rintro L a v w hv hg hL hd hcl ⟨e0,hb,f0,f1,f2,f3,f4,f5,f6,f7,f8,f9⟩ K hK;have g7:=f7 (hd 7 (by decide));have g7:=f7 (hd 7 (by decide));have ew : IntKind.i64.wrap ((si : Int) + 1) = (si : Int) + 1:=IntWalk.i64_in _ (by omega);refine step_do rfl ?_;clear hv;go_simp;exact hK.out _ _ ⟨e0,hb,f0,f1,f2,f3,f4,f5,f6,f7,fun _=>rfl,f9⟩
        case s9 =>
          rintro L a v w hv hg hL hd hcl ⟨e0,hb,f0,f1,f2,f3,f4,f5,f6,f7,f8,f9⟩ K hK;have g8:=f8 (hd 8 (by decide));have hh:=rnumber_lit 2 2 ((si : Int) + 1) (si + 1) rfl (by omega) (by omega) w;refine step_do rfl ?_;clear hv;go_simp;refine hh.mono ?_;rintro e wy ⟨A1,n1,c1,rfl,o1,bb⟩;exact hK.out _ _ ⟨e0,(hb.trans (bb.mono hb.size)),f0,f1,f2,f3,f4,f5,f6,f7,f8,fun _=>⟨A1,n1,c1,rfl,o1.mono hb.size⟩⟩
      case hend =>
      rintro L v w2 hall ⟨e0,hb,f0,f1,f2,f3,f4,f5,f6,f7,f8,f9⟩;have hL : ∀ i,i < 10→L i = true:=hall;have f0:=f0 (hL 0 (by decide));have f1:=f1 (hL 1 (by decide));have f2:=f2 (hL 2 (by decide));have f3:=f3 (hL 3 (by decide));have f4:=f4 (hL 4 (by decide));have f5:=f5 (hL 5 (by decide));have f6:=f6 (hL 6 (by decide));have f7:=f7 (hL 7 (by decide));have f8:=f8 (hL 8 (by decide));have f9:=f9 (hL 9 (by decide));obtain ⟨A2,n2,c2',q9,o2⟩:=f9
      simp only [finA,List.foldl_cons,List.foldl_nil,Act.put,List.setIfInBounds_toArray,List.set_cons_succ,List.set_cons_zero,f0,f1,f2,f3,f4,f5,f6,f7,f8,q9]
      have s2:=s0.below hb;clear e0 f0 f1 f2 f3 f4 f5 f6 f7 f8 hL hall q9
      show wpList _ _ _ [_,_] _ _
      go_wp2_with fail;refine (rwrite_any A2 n2 c2' _ (told 2 (si + 1)) _ g size sb w2 s2.disk hl hs o2.rd (Nat.le_refl _) _ _ HW.out).mono ?_;rintro e w3 ⟨rfl,d3⟩;obtain ⟨F3,s3⟩:=s2.op d3;have e3 : w3.cell? ⟨b,3,none⟩ = some (.int .i64 (si : Nat)):=s3.blk.cell 3;have g3:=s3.blk.free 3;have hlb:=s3.blk.lt;have s5 : RSW ws F b g size ⟨_,su,sv,si + 1⟩ E F3 (World.setCell _ ⟨b,3,none⟩ (.int .i64 ((si : Int) + 1))):=s3.set_ (u':=su) (v':=sv) (i':=si + 1) (s3.blk.set_ 3 (.int .i64 ((si : Int) + 1)));have e5 : World.cell? _ ⟨b,3,none⟩ = some (.int .i64 ((si : Int) + 1)):=s5.blk.cell 3;have H5:=Lib.hid s5;clear s2 s3 s5 s0 d3 o2 hb;go_wp2_with fail;go_ret2;rw [HR.out];exact ⟨by first | rfl | (simp;done),H5.out.fin (Below.refl _ _) hlt hf⟩
    · have hr : bumpD size ⟨sb,su,sv,si⟩ = (0,7,⟨sb,su,sv,si⟩):=by
        unfold bumpD
        rw [if_neg h9]
        simp only
        rw [if_neg hroom]
      have hw : writeD size sb (told 2 (si + 1)) = (7,sb):=by rw [told_write,if_neg hroom]
      have HR:=Lib.hid hr;have HW:=Lib.hid hw;clear hr hw
      go_upto_region 3 with fail
      refine wp_region_tailF 9 10 (fun L v w=>v 0 = .pointer (some ⟨b,0,none⟩)∧Below ws.heap.size ws w∧(L 0 = true→v 10 = .pointer (some ⟨b,0,none⟩))∧(L 1 = true→v 11 = .pointer (some ⟨b,0,none⟩))∧(L 2 = true→v 12 = .pointer (some ⟨b,0,none⟩))∧(L 3 = true→v 13 = .pointer (some ⟨g,0,none⟩))∧(L 4 = true→v 14 = .pointer (some ⟨b,0,none⟩))∧(L 5 = true→v 15 = .pointer (some ⟨b,0,none⟩))∧(L 6 = true→v 16 = .pointer (some ⟨b,3,none⟩))∧(L 7 = true→v 17 = .int .i64 (si : Nat))∧(L 8 = true→v 18 = .int .i64 ((si : Int) + 1))∧(L 9 = true→(∃ A1 n1 c1,v 19 = .slice A1 n1 c1∧OwnB w ws.heap.size A1 n1 c1 (told 2 (si + 1))))) [10,11,12,13,14,15,16,17,18,19] (by kernel_rfl) (by kernel_rfl) (by kernel_rfl) (by kernel_rfl) (by kernel_rfl) (by kernel_rfl) ?h0 ?hst ?hend
      case h0 =>
        intro L h0;have h0 : ∀ i,i < 10→L i = false:=h0;exact ⟨rfl,(Below.refl _ _).drew,offF h0 (i:=0) (by decide),offF h0 (i:=1) (by decide),offF h0 (i:=2) (by decide),offF h0 (i:=3) (by decide),offF h0 (i:=4) (by decide),offF h0 (i:=5) (by decide),offF h0 (i:=6) (by decide),offF h0 (i:=7) (by decide),offF h0 (i:=8) (by decide),offF h0 (i:=9) (by decide)⟩
      case hst =>
        show FactSteps _ _ _ _ [0,1,2,3,4,5,6,7,8,9]
        refine @FactSteps.cons _ _ _ _ 0 _ [] _ rfl (by kernel_rfl) ?s0 ?_;rotate_left;refine @FactSteps.cons _ _ _ _ 1 _ [0] _ rfl (by kernel_rfl) ?s1 ?_;rotate_left;refine @FactSteps.cons _ _ _ _ 2 _ [1] _ rfl (by kernel_rfl) ?s2 ?_;rotate_left;refine @FactSteps.cons _ _ _ _ 3 _ [2] _ rfl (by kernel_rfl) ?s3 ?_;rotate_left;refine @FactSteps.cons _ _ _ _ 4 _ [] _ rfl (by kernel_rfl) ?s4 ?_;rotate_left;refine @FactSteps.cons _ _ _ _ 5 _ [4] _ rfl (by kernel_rfl) ?s5 ?_;rotate_left;refine @FactSteps.cons _ _ _ _ 6 _ [5] _ rfl (by kernel_rfl) ?s6 ?_;rotate_left;refine @FactSteps.cons _ _ _ _ 7 _ [6] _ rfl (by kernel_rfl) ?s7 ?_;rotate_left;refine @FactSteps.cons _ _ _ _ 8 _ [7] _ rfl (by kernel_rfl) ?s8 ?_;rotate_left;refine @FactSteps.cons _ _ _ _ 9 _ [8] _ rfl (by kernel_rfl) ?s9 ?_;rotate_left;exact FactSteps.nil
        case s0 =>
          rintro L a v w hv hg hL hd hcl ⟨e0,hb,f0,f1,f2,f3,f4,f5,f6,f7,f8,f9⟩ K hK;refine step_do rfl ?_;clear hv;go_simp;exact hK.out _ _ ⟨e0,hb,fun _=>rfl,f1,f2,f3,f4,f5,f6,f7,f8,f9⟩
        case s1 =>
          rintro L a v w hv hg hL hd hcl ⟨e0,hb,f0,f1,f2,f3,f4,f5,f6,f7,f8,f9⟩ K hK;have g0:=f0 (hd 0 (by decide));have g0:=f0 (hd 0 (by decide));refine step_do rfl ?_;clear hv;go_simp;exact hK.out _ _ ⟨e0,hb,f0,fun _=>rfl,f2,f3,f4,f5,f6,f7,f8,f9⟩
        case s2 =>
          rintro L a v w hv hg hL hd hcl ⟨e0,hb,f0,f1,f2,f3,f4,f5,f6,f7,f8,f9⟩ K hK;have g1:=f1 (hd 1 (by decide));have g1:=f1 (hd 1 (by decide));refine step_do rfl ?_;clear hv;go_simp;exact hK.out _ _ ⟨e0,hb,f0,f1,fun _=>rfl,f3,f4,f5,f6,f7,f8,f9⟩
        case s3 =>
          rintro L a v w hv hg hL hd hcl ⟨e0,hb,f0,f1,f2,f3,f4,f5,f6,f7,f8,f9⟩ K hK;have g2:=f2 (hd 2 (by decide));have g2:=f2 (hd 2 (by decide));have cs4 : w.cell? ⟨b,0,none⟩ = some (.pointer (some ⟨g,0,none⟩)):=(hb.cell (p:=⟨b,0,none⟩) hlt).trans c0;refine step_do rfl ?_;clear hv;go_simp;exact hK.out _ _ ⟨e0,hb,f0,f1,f2,fun _=>rfl,f4,f5,f6,f7,f8,f9⟩
        case s4 =>
          rintro L a v w hv hg hL hd hcl ⟨e0,hb,f0,f1,f2,f3,f4,f5,f6,f7,f8,f9⟩ K hK;refine step_do rfl ?_;clear hv;go_simp;exact hK.out _ _ ⟨e0,hb,f0,f1,f2,f3,fun _=>rfl,f5,f6,f7,f8,f9⟩
        case s5 =>
          rintro L a v w hv hg hL hd hcl ⟨e0,hb,f0,f1,f2,f3,f4,f5,f6,f7,f8,f9⟩ K hK;have g4:=f4 (hd 4 (by decide));have g4:=f4 (hd 4 (by decide));refine step_do rfl ?_;clear hv;go_simp;exact hK.out _ _ ⟨e0,hb,f0,f1,f2,f3,f4,fun _=>rfl,f6,f7,f8,f9⟩
        case s6 =>
          rintro L a v w hv hg hL hd hcl ⟨e0,hb,f0,f1,f2,f3,f4,f5,f6,f7,f8,f9⟩ K hK;have g5:=f5 (hd 5 (by decide));have g5:=f5 (hd 5 (by decide));refine step_do rfl ?_;clear hv;go_simp;exact hK.out _ _ ⟨e0,hb,f0,f1,f2,f3,f4,f5,fun _=>rfl,f7,f8,f9⟩
        case s7 =>
          rintro L a v w hv hg hL hd hcl ⟨e0,hb,f0,f1,f2,f3,f4,f5,f6,f7,f8,f9⟩ K hK;have g6:=f6 (hd 6 (by decide));have g6:=f6 (hd 6 (by decide));have cs4 : w.cell? ⟨b,3,none⟩ = some (.int .i64 (si : Nat)):=(hb.cell (p:=⟨b,3,none⟩) hlt).trans c3;refine step_do rfl ?_;clear hv;go_simp;exact hK.out _ _ ⟨e0,hb,f0,f1,f2,f3,f4,f5,f6,fun _=>rfl,f8,f9⟩
        case s8 =>
          rintro L a v w hv hg hL hd hcl ⟨e0,hb,f0,f1,f2,f3,f4,f5,f6,f7,f8,f9⟩ K hK;have g7:=f7 (hd 7 (by decide));have g7:=f7 (hd 7 (by decide));have ew : IntKind.i64.wrap ((si : Int) + 1) = (si : Int) + 1:=IntWalk.i64_in _ (by omega);refine step_do rfl ?_;clear hv;go_simp;exact hK.out _ _ ⟨e0,hb,f0,f1,f2,f3,f4,f5,f6,f7,fun _=>rfl,f9⟩
        case s9 =>
          rintro L a v w hv hg hL hd hcl ⟨e0,hb,f0,f1,f2,f3,f4,f5,f6,f7,f8,f9⟩ K hK;have g8:=f8 (hd 8 (by decide));have hh:=rnumber_lit 2 2 ((si : Int) + 1) (si + 1) rfl (by omega) (by omega) w;refine step_do rfl ?_;clear hv;go_simp;refine hh.mono ?_;rintro e wy ⟨A1,n1,c1,rfl,o1,bb⟩;exact hK.out _ _ ⟨e0,(hb.trans (bb.mono hb.size)),f0,f1,f2,f3,f4,f5,f6,f7,f8,fun _=>⟨A1,n1,c1,rfl,o1.mono hb.size⟩⟩
      case hend =>
      rintro L v w2 hall ⟨e0,hb,f0,f1,f2,f3,f4,f5,f6,f7,f8,f9⟩;have hL : ∀ i,i < 10→L i = true:=hall;have f0:=f0 (hL 0 (by decide));have f1:=f1 (hL 1 (by decide));have f2:=f2 (hL 2 (by decide));have f3:=f3 (hL 3 (by decide));have f4:=f4 (hL 4 (by decide));have f5:=f5 (hL 5 (by decide));have f6:=f6 (hL 6 (by decide));have f7:=f7 (hL 7 (by decide));have f8:=f8 (hL 8 (by decide));have f9:=f9 (hL 9 (by decide));obtain ⟨A2,n2,c2',q9,o2⟩:=f9
      simp only [finA,List.foldl_cons,List.foldl_nil,Act.put,List.setIfInBounds_toArray,List.set_cons_succ,List.set_cons_zero,f0,f1,f2,f3,f4,f5,f6,f7,f8,q9]
      have s2:=s0.below hb;clear e0 f0 f1 f2 f3 f4 f5 f6 f7 f8 hL hall q9
      show wpList _ _ _ [_,_] _ _
      go_wp2_with fail;refine (rwrite_any A2 n2 c2' _ (told 2 (si + 1)) _ g size sb w2 s2.disk hl hs o2.rd (Nat.le_refl _) _ _ HW.out).mono ?_;rintro e w3 ⟨rfl,d3⟩;obtain ⟨F3,s3⟩:=s2.op d3;have H5:=Lib.hid s3;clear s2 s3 s0 d3 o2 hb;go_wp2_with fail;go_ret2;rw [HR.out];exact ⟨by first | rfl | (simp;done),H5.out.fin (Below.refl _ _) hlt hf⟩
set_option maxHeartbeats 4000000 in
theorem rnext_any (S : Sd) (E : Value) (F : Nat→Prop) (b g size : Nat) (ws : World) (h : RStoAt ws F b g size S E) (hu : S.used≤S.upto) (hU : S.upto≤96) (hs : size≤16384) (hl : S.b.length≤16384) :
    Calls Tryz.prog 15 #[.pointer (some ⟨b,0,none⟩)] ws (RNumOp ws F b g size E (nextD size S)):=by
  have s0:=h.sw;have hlt : b < ws.heap.size:=h.2.1.lt;have hf : ∀ k,F k→k < ws.heap.size:=h.1.lt;clear h;obtain ⟨sb,su,sv,si⟩:=S
  simp only at *
  have c1 : ws.cell? ⟨b,1,none⟩ = some (.int .i64 (su : Nat)):=s0.blk.cell 1;have c2 : ws.cell? ⟨b,2,none⟩ = some (.int .i64 (sv : Nat)):=s0.blk.cell 2
  go_enter Tryz.func15,Tryz.ntmps15
  go_upto_region 1 with fail
  by_cases hx : su < sv
  · have hge : ¬ (sv : Int)≤(su : Int):=by omega
    have hr : nextD size ⟨sb,su,sv,si⟩ = (su + 1,0,⟨sb,su + 1,sv,si⟩):=by unfold nextD;rw [if_pos hx]
    have HR:=Lib.hid hr;have H0:=Lib.hid s0;clear hr s0
    go_quiet (fail)
    have s9:=H0.out.drewN nq
    generalize ws.drewN nq = wq at *
    have e1 : wq.cell? ⟨b,1,none⟩ = some (.int .i64 (su : Nat)):=s9.blk.cell 1;have g1:=s9.blk.free 1;have s1 : RSW ws F b g size ⟨sb,su + 1,sv,si⟩ E F (wq.setCell ⟨b,1,none⟩ (.int .i64 ((su : Int) + 1))):=s9.set_ (u':=su + 1) (v':=sv) (i':=si) (s9.blk.set_ 1 (.int .i64 ((su : Int) + 1)));have d1 : World.cell? _ ⟨b,1,none⟩ = some (.int .i64 ((su : Int) + 1)):=s1.blk.cell 1;have H1:=Lib.hid s1;clear s1 s9 H0;go_wp2_with fail;go_ret2;rw [HR.out];exact ⟨by first | rfl | (simp;done),H1.out.fin (Below.refl _ _) hlt hf⟩
  · obtain rfl : su = sv:=by omega
    by_cases h9 : 96≤su
    · obtain rfl : su = 96:=by omega
      have hr : nextD size ⟨sb,96,96,si⟩ = (0,7,⟨sb,96,96,si⟩):=by unfold nextD;rw [if_neg hx,if_pos h9]
      have HR:=Lib.hid hr;have H0:=Lib.hid s0;clear hr s0
      go_quiet (fail)
      have H1:=Lib.hid (H0.out.drewN nq)
      generalize ws.drewN nq = wq at *
      have e1 : wq.cell? ⟨b,1,none⟩ = some (.int .i64 ((96 : Nat) : Int)):=H1.out.blk.cell 1;have e2 : wq.cell? ⟨b,2,none⟩ = some (.int .i64 ((96 : Nat) : Int)):=H1.out.blk.cell 2;go_wp2_with fail;go_ret2;rw [HR.out];exact ⟨rfl,H1.out.fin (Below.refl _ _) hlt hf⟩
    · obtain ⟨M,hM⟩ : ∃ M,M = min (su + 8) 96:=⟨_,rfl⟩
      have hM9 : M≤96:=by omega
      have hsn : (0 : Int)≤(su : Int):=by omega
      rcases Nat.lt_or_ge 96 (su + 8) with h8 | h8
      · have hV : (M : Int) = 96:=by omega
        have hv8 : 96 < (su : Int) + 8:=by omega
        have hlu : ¬ (96 : Int)≤(su : Int):=by omega
        by_cases hroom : sb.length + (frm (told 1 M)).length≤size
        ·
          have hr : nextD size ⟨sb,su,su,si⟩ = (su + 1,0,⟨sb ++ frm (told 1 M),su + 1,M,si⟩):=by
            unfold nextD
            rw [if_neg hx,if_neg h9]
            simp only
            rw [← hM,if_pos hroom]
          have hw : writeD size sb (told 1 M) = (0,sb ++ frm (told 1 M)):=by rw [told_write,if_pos hroom]
          have HR:=Lib.hid hr;have HW:=Lib.hid hw;have H0:=Lib.hid s0;clear hr hw s0
          go_quiet (fail)
          have H1:=Lib.hid (H0.out.drewN nq)
          generalize ws.drewN nq = wq at *
          have e1 : wq.cell? ⟨b,1,none⟩ = some (.int .i64 (su : Nat)):=H1.out.blk.cell 1;have e2 : wq.cell? ⟨b,2,none⟩ = some (.int .i64 (su : Nat)):=H1.out.blk.cell 2;have c0 : wq.cell? ⟨b,0,none⟩ = some (.pointer (some ⟨g,0,none⟩)):=H1.out.blk.cell 0;have hlq:=H1.out.blk.lt
          go_upto_region 5 with fail
          refine wp_region_tailF 9 6 (fun L v w=>v 0 = .pointer (some ⟨b,0,none⟩)∧v 4 = .int .i64 (96)∧Below wq.heap.size wq w∧(L 0 = true→v 27 = .pointer (some ⟨b,0,none⟩))∧(L 1 = true→v 28 = .pointer (some ⟨b,0,none⟩))∧(L 2 = true→v 29 = .pointer (some ⟨b,0,none⟩))∧(L 3 = true→v 30 = .pointer (some ⟨g,0,none⟩))∧(L 4 = true→v 31 = .int .i64 (96))∧(L 5 = true→(∃ A1 n1 c1,v 32 = .slice A1 n1 c1∧OwnB w wq.heap.size A1 n1 c1 (told 1 M)))) [27,28,29,30,31,32] (by kernel_rfl) (by kernel_rfl) (by kernel_rfl) (by kernel_rfl) (by kernel_rfl) (by kernel_rfl) ?h0 ?hst ?hend
          case h0 =>
            intro L h0;have h0 : ∀ i,i < 6→L i = false:=h0;exact ⟨rfl,rfl,(Below.refl _ _).drew,offF h0 (i:=0) (by decide),offF h0 (i:=1) (by decide),offF h0 (i:=2) (by decide),offF h0 (i:=3) (by decide),offF h0 (i:=4) (by decide),offF h0 (i:=5) (by decide)⟩
          case hst =>
            show FactSteps _ _ _ _ [0,1,2,3,4,5]
            refine @FactSteps.cons _ _ _ _ 0 _ [] _ rfl (by kernel_rfl) ?s0 ?_;rotate_left;refine @FactSteps.cons _ _ _ _ 1 _ [0] _ rfl (by kernel_rfl) ?s1 ?_;rotate_left;refine @FactSteps.cons _ _ _ _ 2 _ [1] _ rfl (by kernel_rfl) ?s2 ?_;rotate_left;refine @FactSteps.cons _ _ _ _ 3 _ [2] _ rfl (by kernel_rfl) ?s3 ?_;rotate_left;refine @FactSteps.cons _ _ _ _ 4 _ [] _ rfl (by kernel_rfl) ?s4 ?_;rotate_left;refine @FactSteps.cons _ _ _ _ 5 _ [4] _ rfl (by kernel_rfl) ?s5 ?_;rotate_left;exact FactSteps.nil
            case s0 =>
              rintro L a v w hv hg hL hd hcl ⟨e0,e4,hb,f0,f1,f2,f3,f4,f5⟩ K hK;refine step_do rfl ?_;clear hv;go_simp;exact hK.out _ _ ⟨e0,e4,hb,fun _=>rfl,f1,f2,f3,f4,f5⟩
            case s1 =>
              rintro L a v w hv hg hL hd hcl ⟨e0,e4,hb,f0,f1,f2,f3,f4,f5⟩ K hK;have g0:=f0 (hd 0 (by decide));have g0:=f0 (hd 0 (by decide));refine step_do rfl ?_;clear hv;go_simp;exact hK.out _ _ ⟨e0,e4,hb,f0,fun _=>rfl,f2,f3,f4,f5⟩
            case s2 =>
              rintro L a v w hv hg hL hd hcl ⟨e0,e4,hb,f0,f1,f2,f3,f4,f5⟩ K hK;have g1:=f1 (hd 1 (by decide));have g1:=f1 (hd 1 (by decide));refine step_do rfl ?_;clear hv;go_simp;exact hK.out _ _ ⟨e0,e4,hb,f0,f1,fun _=>rfl,f3,f4,f5⟩
            case s3 =>
              rintro L a v w hv hg hL hd hcl ⟨e0,e4,hb,f0,f1,f2,f3,f4,f5⟩ K hK;have g2:=f2 (hd 2 (by decide));have g2:=f2 (hd 2 (by decide));have cs4 : w.cell? ⟨b,0,none⟩ = some (.pointer (some ⟨g,0,none⟩)):=(hb.cell (p:=⟨b,0,none⟩) hlq).trans c0;refine step_do rfl ?_;clear hv;go_simp;exact hK.out _ _ ⟨e0,e4,hb,f0,f1,f2,fun _=>rfl,f4,f5⟩
            case s4 =>
              rintro L a v w hv hg hL hd hcl ⟨e0,e4,hb,f0,f1,f2,f3,f4,f5⟩ K hK;refine step_do rfl ?_;clear hv;go_simp;exact hK.out _ _ ⟨e0,e4,hb,f0,f1,f2,f3,fun _=>rfl,f5⟩
            case s5 =>
              rintro L a v w hv hg hL hd hcl ⟨e0,e4,hb,f0,f1,f2,f3,f4,f5⟩ K hK;have g4:=f4 (hd 4 (by decide));have hh:=rnumber_lit 1 1 (96) M rfl (by omega) (by omega) w;refine step_do rfl ?_;clear hv;go_simp;refine hh.mono ?_;rintro e wy ⟨A1,n1,c1,rfl,o1,bb⟩;exact hK.out _ _ ⟨e0,e4,(hb.trans (bb.mono hb.size)),f0,f1,f2,f3,f4,fun _=>⟨A1,n1,c1,rfl,o1.mono hb.size⟩⟩
          case hend =>
          rintro L v w2 hall ⟨e0,e4,hb,f0,f1,f2,f3,f4,f5⟩;have hL : ∀ i,i < 6→L i = true:=hall;have f0:=f0 (hL 0 (by decide));have f1:=f1 (hL 1 (by decide));have f2:=f2 (hL 2 (by decide));have f3:=f3 (hL 3 (by decide));have f4:=f4 (hL 4 (by decide));have f5:=f5 (hL 5 (by decide));obtain ⟨A2,n2,c2',q9,o2⟩:=f5
          simp only [finA,List.foldl_cons,List.foldl_nil,Act.put,List.setIfInBounds_toArray,List.set_cons_succ,List.set_cons_zero,f0,f1,f2,f3,f4,q9]
          have s2:=H1.out.below hb;clear e0 e4 f0 f1 f2 f3 f4 hL hall q9
          show wpList _ _ _ [_,_] _ _
          go_wp2_with fail;refine (rwrite_any A2 n2 c2' _ (told 1 M) _ g size sb w2 s2.disk hl hs o2.rd (Nat.le_refl _) _ _ HW.out).mono ?_;rintro e w3 ⟨rfl,d3⟩;obtain ⟨F3,s3⟩:=s2.op d3;have s4 : RSW ws F b g size ⟨_,su,M,si⟩ E F3 (World.setCell _ ⟨b,2,none⟩ (.int .i64 (96))):=s3.set_ (u':=su) (v':=M) (i':=si) (show Blk _ b _ (sc g su M si E) by rw [← hV];exact s3.blk.set_ 2 (.int .i64 (M : Nat)));have e4 : World.cell? _ ⟨b,1,none⟩ = some (.int .i64 (su : Nat)):=s4.blk.cell 1;have f4:=s4.blk.free 1;have g3:=s3.blk.free 2;have hlb:=s3.blk.lt;have hlb4:=s4.blk.lt;have s5 : RSW ws F b g size ⟨_,su + 1,M,si⟩ E F3 (World.setCell _ ⟨b,1,none⟩ (.int .i64 ((su : Int) + 1))):=s4.set_ (u':=su + 1) (v':=M) (i':=si) (s4.blk.set_ 1 (.int .i64 ((su : Int) + 1)));have e5 : World.cell? _ ⟨b,1,none⟩ = some (.int .i64 ((su : Int) + 1)):=s5.blk.cell 1;have e3 : w3.cell? ⟨b,1,none⟩ = some (.int .i64 (su : Nat)):=s3.blk.cell 1;have g1 : w3.frozen? ⟨b,1,none⟩ = false:=s3.blk.free 1;have e6 : w3.cell? ⟨b,2,none⟩ = some (.int .i64 (su : Nat)):=s3.blk.cell 2;have H5:=Lib.hid s5;clear s2 s3 s4 s5 d3 o2 hb H0 H1;go_wp2_with fail;go_ret2;rw [HR.out];exact ⟨by first | rfl | (simp;done),H5.out.fin (Below.refl _ _) hlt hf⟩
        ·
          have hr : nextD size ⟨sb,su,su,si⟩ = (0,7,⟨sb,su,su,si⟩):=by
            unfold nextD
            rw [if_neg hx,if_neg h9]
            simp only
            rw [← hM,if_neg hroom]
          have hw : writeD size sb (told 1 M) = (7,sb):=by rw [told_write,if_neg hroom]
          have HR:=Lib.hid hr;have HW:=Lib.hid hw;have H0:=Lib.hid s0;clear hr hw s0
          go_quiet (fail)
          have H1:=Lib.hid (H0.out.drewN nq)
          generalize ws.drewN nq = wq at *
          have e1 : wq.cell? ⟨b,1,none⟩ = some (.int .i64 (su : Nat)):=H1.out.blk.cell 1;have e2 : wq.cell? ⟨b,2,none⟩ = some (.int .i64 (su : Nat)):=H1.out.blk.cell 2;have c0 : wq.cell? ⟨b,0,none⟩ = some (.pointer (some ⟨g,0,none⟩)):=H1.out.blk.cell 0;have hlq:=H1.out.blk.lt
          go_upto_region 5 with fail
          refine wp_region_tailF 9 6 (fun L v w=>v 0 = .pointer (some ⟨b,0,none⟩)∧v 4 = .int .i64 (96)∧Below wq.heap.size wq w∧(L 0 = true→v 27 = .pointer (some ⟨b,0,none⟩))∧(L 1 = true→v 28 = .pointer (some ⟨b,0,none⟩))∧(L 2 = true→v 29 = .pointer (some ⟨b,0,none⟩))∧(L 3 = true→v 30 = .pointer (some ⟨g,0,none⟩))∧(L 4 = true→v 31 = .int .i64 (96))∧(L 5 = true→(∃ A1 n1 c1,v 32 = .slice A1 n1 c1∧OwnB w wq.heap.size A1 n1 c1 (told 1 M)))) [27,28,29,30,31,32] (by kernel_rfl) (by kernel_rfl) (by kernel_rfl) (by kernel_rfl) (by kernel_rfl) (by kernel_rfl) ?h0 ?hst ?hend
          case h0 =>
            intro L h0;have h0 : ∀ i,i < 6→L i = false:=h0;exact ⟨rfl,rfl,(Below.refl _ _).drew,offF h0 (i:=0) (by decide),offF h0 (i:=1) (by decide),offF h0 (i:=2) (by decide),offF h0 (i:=3) (by decide),offF h0 (i:=4) (by decide),offF h0 (i:=5) (by decide)⟩
          case hst =>
            show FactSteps _ _ _ _ [0,1,2,3,4,5]
            refine @FactSteps.cons _ _ _ _ 0 _ [] _ rfl (by kernel_rfl) ?s0 ?_;rotate_left;refine @FactSteps.cons _ _ _ _ 1 _ [0] _ rfl (by kernel_rfl) ?s1 ?_;rotate_left;refine @FactSteps.cons _ _ _ _ 2 _ [1] _ rfl (by kernel_rfl) ?s2 ?_;rotate_left;refine @FactSteps.cons _ _ _ _ 3 _ [2] _ rfl (by kernel_rfl) ?s3 ?_;rotate_left;refine @FactSteps.cons _ _ _ _ 4 _ [] _ rfl (by kernel_rfl) ?s4 ?_;rotate_left;refine @FactSteps.cons _ _ _ _ 5 _ [4] _ rfl (by kernel_rfl) ?s5 ?_;rotate_left;exact FactSteps.nil
            case s0 =>
              rintro L a v w hv hg hL hd hcl ⟨e0,e4,hb,f0,f1,f2,f3,f4,f5⟩ K hK;refine step_do rfl ?_;clear hv;go_simp;exact hK.out _ _ ⟨e0,e4,hb,fun _=>rfl,f1,f2,f3,f4,f5⟩
            case s1 =>
              rintro L a v w hv hg hL hd hcl ⟨e0,e4,hb,f0,f1,f2,f3,f4,f5⟩ K hK;have g0:=f0 (hd 0 (by decide));have g0:=f0 (hd 0 (by decide));refine step_do rfl ?_;clear hv;go_simp;exact hK.out _ _ ⟨e0,e4,hb,f0,fun _=>rfl,f2,f3,f4,f5⟩
            case s2 =>
              rintro L a v w hv hg hL hd hcl ⟨e0,e4,hb,f0,f1,f2,f3,f4,f5⟩ K hK;have g1:=f1 (hd 1 (by decide));have g1:=f1 (hd 1 (by decide));refine step_do rfl ?_;clear hv;go_simp;exact hK.out _ _ ⟨e0,e4,hb,f0,f1,fun _=>rfl,f3,f4,f5⟩
            case s3 =>
              rintro L a v w hv hg hL hd hcl ⟨e0,e4,hb,f0,f1,f2,f3,f4,f5⟩ K hK;have g2:=f2 (hd 2 (by decide));have g2:=f2 (hd 2 (by decide));have cs4 : w.cell? ⟨b,0,none⟩ = some (.pointer (some ⟨g,0,none⟩)):=(hb.cell (p:=⟨b,0,none⟩) hlq).trans c0;refine step_do rfl ?_;clear hv;go_simp;exact hK.out _ _ ⟨e0,e4,hb,f0,f1,f2,fun _=>rfl,f4,f5⟩
            case s4 =>
              rintro L a v w hv hg hL hd hcl ⟨e0,e4,hb,f0,f1,f2,f3,f4,f5⟩ K hK;refine step_do rfl ?_;clear hv;go_simp;exact hK.out _ _ ⟨e0,e4,hb,f0,f1,f2,f3,fun _=>rfl,f5⟩
            case s5 =>
              rintro L a v w hv hg hL hd hcl ⟨e0,e4,hb,f0,f1,f2,f3,f4,f5⟩ K hK;have g4:=f4 (hd 4 (by decide));have hh:=rnumber_lit 1 1 (96) M rfl (by omega) (by omega) w;refine step_do rfl ?_;clear hv;go_simp;refine hh.mono ?_;rintro e wy ⟨A1,n1,c1,rfl,o1,bb⟩;exact hK.out _ _ ⟨e0,e4,(hb.trans (bb.mono hb.size)),f0,f1,f2,f3,f4,fun _=>⟨A1,n1,c1,rfl,o1.mono hb.size⟩⟩
          case hend =>
          rintro L v w2 hall ⟨e0,e4,hb,f0,f1,f2,f3,f4,f5⟩;have hL : ∀ i,i < 6→L i = true:=hall;have f0:=f0 (hL 0 (by decide));have f1:=f1 (hL 1 (by decide));have f2:=f2 (hL 2 (by decide));have f3:=f3 (hL 3 (by decide));have f4:=f4 (hL 4 (by decide));have f5:=f5 (hL 5 (by decide));obtain ⟨A2,n2,c2',q9,o2⟩:=f5
          simp only [finA,List.foldl_cons,List.foldl_nil,Act.put,List.setIfInBounds_toArray,List.set_cons_succ,List.set_cons_zero,f0,f1,f2,f3,f4,q9]
          have s2:=H1.out.below hb;clear e0 e4 f0 f1 f2 f3 f4 hL hall q9
          show wpList _ _ _ [_,_] _ _
          go_wp2_with fail;refine (rwrite_any A2 n2 c2' _ (told 1 M) _ g size sb w2 s2.disk hl hs o2.rd (Nat.le_refl _) _ _ HW.out).mono ?_;rintro e w3 ⟨rfl,d3⟩;obtain ⟨F3,s3⟩:=s2.op d3;have H5:=Lib.hid s3;clear s2 s3 d3 o2 hb H0 H1;go_wp2_with fail;go_ret2;rw [HR.out];exact ⟨by first | rfl | (simp;done),H5.out.fin (Below.refl _ _) hlt hf⟩
      · have hV : (M : Int) = (su : Int) + 8:=by omega
        have hv8 : ¬ 96 < (su : Int) + 8:=by omega
        have hlu : ¬ (su : Int) + 8≤(su : Int):=by omega
        by_cases hroom : sb.length + (frm (told 1 M)).length≤size
        ·
          have hr : nextD size ⟨sb,su,su,si⟩ = (su + 1,0,⟨sb ++ frm (told 1 M),su + 1,M,si⟩):=by
            unfold nextD
            rw [if_neg hx,if_neg h9]
            simp only
            rw [← hM,if_pos hroom]
          have hw : writeD size sb (told 1 M) = (0,sb ++ frm (told 1 M)):=by rw [told_write,if_pos hroom]
          have HR:=Lib.hid hr;have HW:=Lib.hid hw;have H0:=Lib.hid s0;clear hr hw s0
          go_quiet (fail)
          have H1:=Lib.hid (H0.out.drewN nq)
          generalize ws.drewN nq = wq at *
          have e1 : wq.cell? ⟨b,1,none⟩ = some (.int .i64 (su : Nat)):=H1.out.blk.cell 1;have e2 : wq.cell? ⟨b,2,none⟩ = some (.int .i64 (su : Nat)):=H1.out.blk.cell 2;have c0 : wq.cell? ⟨b,0,none⟩ = some (.pointer (some ⟨g,0,none⟩)):=H1.out.blk.cell 0;have hlq:=H1.out.blk.lt
          go_upto_region 5 with fail
          refine wp_region_tailF 9 6 (fun L v w=>v 0 = .pointer (some ⟨b,0,none⟩)∧v 4 = .int .i64 ((su : Int) + 8)∧Below wq.heap.size wq w∧(L 0 = true→v 27 = .pointer (some ⟨b,0,none⟩))∧(L 1 = true→v 28 = .pointer (some ⟨b,0,none⟩))∧(L 2 = true→v 29 = .pointer (some ⟨b,0,none⟩))∧(L 3 = true→v 30 = .pointer (some ⟨g,0,none⟩))∧(L 4 = true→v 31 = .int .i64 ((su : Int) + 8))∧(L 5 = true→(∃ A1 n1 c1,v 32 = .slice A1 n1 c1∧OwnB w wq.heap.size A1 n1 c1 (told 1 M)))) [27,28,29,30,31,32] (by kernel_rfl) (by kernel_rfl) (by kernel_rfl) (by kernel_rfl) (by kernel_rfl) (by kernel_rfl) ?h0 ?hst ?hend
          case h0 =>
            intro L h0;have h0 : ∀ i,i < 6→L i = false:=h0;exact ⟨rfl,rfl,(Below.refl _ _).drew,offF h0 (i:=0) (by decide),offF h0 (i:=1) (by decide),offF h0 (i:=2) (by decide),offF h0 (i:=3) (by decide),offF h0 (i:=4) (by decide),offF h0 (i:=5) (by decide)⟩
          case hst =>
            show FactSteps _ _ _ _ [0,1,2,3,4,5]
            refine @FactSteps.cons _ _ _ _ 0 _ [] _ rfl (by kernel_rfl) ?s0 ?_;rotate_left;refine @FactSteps.cons _ _ _ _ 1 _ [0] _ rfl (by kernel_rfl) ?s1 ?_;rotate_left;refine @FactSteps.cons _ _ _ _ 2 _ [1] _ rfl (by kernel_rfl) ?s2 ?_;rotate_left;refine @FactSteps.cons _ _ _ _ 3 _ [2] _ rfl (by kernel_rfl) ?s3 ?_;rotate_left;refine @FactSteps.cons _ _ _ _ 4 _ [] _ rfl (by kernel_rfl) ?s4 ?_;rotate_left;refine @FactSteps.cons _ _ _ _ 5 _ [4] _ rfl (by kernel_rfl) ?s5 ?_;rotate_left;exact FactSteps.nil
            case s0 =>
              rintro L a v w hv hg hL hd hcl ⟨e0,e4,hb,f0,f1,f2,f3,f4,f5⟩ K hK;refine step_do rfl ?_;clear hv;go_simp;exact hK.out _ _ ⟨e0,e4,hb,fun _=>rfl,f1,f2,f3,f4,f5⟩
            case s1 =>
              rintro L a v w hv hg hL hd hcl ⟨e0,e4,hb,f0,f1,f2,f3,f4,f5⟩ K hK;have g0:=f0 (hd 0 (by decide));have g0:=f0 (hd 0 (by decide));refine step_do rfl ?_;clear hv;go_simp;exact hK.out _ _ ⟨e0,e4,hb,f0,fun _=>rfl,f2,f3,f4,f5⟩
            case s2 =>
              rintro L a v w hv hg hL hd hcl ⟨e0,e4,hb,f0,f1,f2,f3,f4,f5⟩ K hK;have g1:=f1 (hd 1 (by decide));have g1:=f1 (hd 1 (by decide));refine step_do rfl ?_;clear hv;go_simp;exact hK.out _ _ ⟨e0,e4,hb,f0,f1,fun _=>rfl,f3,f4,f5⟩
            case s3 =>
              rintro L a v w hv hg hL hd hcl ⟨e0,e4,hb,f0,f1,f2,f3,f4,f5⟩ K hK;have g2:=f2 (hd 2 (by decide));have g2:=f2 (hd 2 (by decide));have cs4 : w.cell? ⟨b,0,none⟩ = some (.pointer (some ⟨g,0,none⟩)):=(hb.cell (p:=⟨b,0,none⟩) hlq).trans c0;refine step_do rfl ?_;clear hv;go_simp;exact hK.out _ _ ⟨e0,e4,hb,f0,f1,f2,fun _=>rfl,f4,f5⟩
            case s4 =>
              rintro L a v w hv hg hL hd hcl ⟨e0,e4,hb,f0,f1,f2,f3,f4,f5⟩ K hK;refine step_do rfl ?_;clear hv;go_simp;exact hK.out _ _ ⟨e0,e4,hb,f0,f1,f2,f3,fun _=>rfl,f5⟩
            case s5 =>
              rintro L a v w hv hg hL hd hcl ⟨e0,e4,hb,f0,f1,f2,f3,f4,f5⟩ K hK;have g4:=f4 (hd 4 (by decide));have hh:=rnumber_lit 1 1 ((su : Int) + 8) M rfl (by omega) (by omega) w;refine step_do rfl ?_;clear hv;go_simp;refine hh.mono ?_;rintro e wy ⟨A1,n1,c1,rfl,o1,bb⟩;exact hK.out _ _ ⟨e0,e4,(hb.trans (bb.mono hb.size)),f0,f1,f2,f3,f4,fun _=>⟨A1,n1,c1,rfl,o1.mono hb.size⟩⟩
          case hend =>
          rintro L v w2 hall ⟨e0,e4,hb,f0,f1,f2,f3,f4,f5⟩;have hL : ∀ i,i < 6→L i = true:=hall;have f0:=f0 (hL 0 (by decide));have f1:=f1 (hL 1 (by decide));have f2:=f2 (hL 2 (by decide));have f3:=f3 (hL 3 (by decide));have f4:=f4 (hL 4 (by decide));have f5:=f5 (hL 5 (by decide));obtain ⟨A2,n2,c2',q9,o2⟩:=f5
          simp only [finA,List.foldl_cons,List.foldl_nil,Act.put,List.setIfInBounds_toArray,List.set_cons_succ,List.set_cons_zero,f0,f1,f2,f3,f4,q9]
          have s2:=H1.out.below hb;clear e0 e4 f0 f1 f2 f3 f4 hL hall q9
          show wpList _ _ _ [_,_] _ _
          go_wp2_with fail;refine (rwrite_any A2 n2 c2' _ (told 1 M) _ g size sb w2 s2.disk hl hs o2.rd (Nat.le_refl _) _ _ HW.out).mono ?_;rintro e w3 ⟨rfl,d3⟩;obtain ⟨F3,s3⟩:=s2.op d3;have s4 : RSW ws F b g size ⟨_,su,M,si⟩ E F3 (World.setCell _ ⟨b,2,none⟩ (.int .i64 ((su : Int) + 8))):=s3.set_ (u':=su) (v':=M) (i':=si) (show Blk _ b _ (sc g su M si E) by rw [← hV];exact s3.blk.set_ 2 (.int .i64 (M : Nat)));have e4 : World.cell? _ ⟨b,1,none⟩ = some (.int .i64 (su : Nat)):=s4.blk.cell 1;have f4:=s4.blk.free 1;have g3:=s3.blk.free 2;have hlb:=s3.blk.lt;have hlb4:=s4.blk.lt;have s5 : RSW ws F b g size ⟨_,su + 1,M,si⟩ E F3 (World.setCell _ ⟨b,1,none⟩ (.int .i64 ((su : Int) + 1))):=s4.set_ (u':=su + 1) (v':=M) (i':=si) (s4.blk.set_ 1 (.int .i64 ((su : Int) + 1)));have e5 : World.cell? _ ⟨b,1,none⟩ = some (.int .i64 ((su : Int) + 1)):=s5.blk.cell 1;have e3 : w3.cell? ⟨b,1,none⟩ = some (.int .i64 (su : Nat)):=s3.blk.cell 1;have g1 : w3.frozen? ⟨b,1,none⟩ = false:=s3.blk.free 1;have e6 : w3.cell? ⟨b,2,none⟩ = some (.int .i64 (su : Nat)):=s3.blk.cell 2;have H5:=Lib.hid s5;clear s2 s3 s4 s5 d3 o2 hb H0 H1;go_wp2_with fail;go_ret2;rw [HR.out];exact ⟨by first | rfl | (simp;done),H5.out.fin (Below.refl _ _) hlt hf⟩
        ·
          have hr : nextD size ⟨sb,su,su,si⟩ = (0,7,⟨sb,su,su,si⟩):=by
            unfold nextD
            rw [if_neg hx,if_neg h9]
            simp only
            rw [← hM,if_neg hroom]
          have hw : writeD size sb (told 1 M) = (7,sb):=by rw [told_write,if_neg hroom]
          have HR:=Lib.hid hr;have HW:=Lib.hid hw;have H0:=Lib.hid s0;clear hr hw s0
          go_quiet (fail)
          have H1:=Lib.hid (H0.out.drewN nq)
          generalize ws.drewN nq = wq at *
          have e1 : wq.cell? ⟨b,1,none⟩ = some (.int .i64 (su : Nat)):=H1.out.blk.cell 1;have e2 : wq.cell? ⟨b,2,none⟩ = some (.int .i64 (su : Nat)):=H1.out.blk.cell 2;have c0 : wq.cell? ⟨b,0,none⟩ = some (.pointer (some ⟨g,0,none⟩)):=H1.out.blk.cell 0;have hlq:=H1.out.blk.lt
          go_upto_region 5 with fail
          refine wp_region_tailF 9 6 (fun L v w=>v 0 = .pointer (some ⟨b,0,none⟩)∧v 4 = .int .i64 ((su : Int) + 8)∧Below wq.heap.size wq w∧(L 0 = true→v 27 = .pointer (some ⟨b,0,none⟩))∧(L 1 = true→v 28 = .pointer (some ⟨b,0,none⟩))∧(L 2 = true→v 29 = .pointer (some ⟨b,0,none⟩))∧(L 3 = true→v 30 = .pointer (some ⟨g,0,none⟩))∧(L 4 = true→v 31 = .int .i64 ((su : Int) + 8))∧(L 5 = true→(∃ A1 n1 c1,v 32 = .slice A1 n1 c1∧OwnB w wq.heap.size A1 n1 c1 (told 1 M)))) [27,28,29,30,31,32] (by kernel_rfl) (by kernel_rfl) (by kernel_rfl) (by kernel_rfl) (by kernel_rfl) (by kernel_rfl) ?h0 ?hst ?hend
          case h0 =>
            intro L h0;have h0 : ∀ i,i < 6→L i = false:=h0;exact ⟨rfl,rfl,(Below.refl _ _).drew,offF h0 (i:=0) (by decide),offF h0 (i:=1) (by decide),offF h0 (i:=2) (by decide),offF h0 (i:=3) (by decide),offF h0 (i:=4) (by decide),offF h0 (i:=5) (by decide)⟩
          case hst =>
            show FactSteps _ _ _ _ [0,1,2,3,4,5]
            refine @FactSteps.cons _ _ _ _ 0 _ [] _ rfl (by kernel_rfl) ?s0 ?_;rotate_left;refine @FactSteps.cons _ _ _ _ 1 _ [0] _ rfl (by kernel_rfl) ?s1 ?_;rotate_left;refine @FactSteps.cons _ _ _ _ 2 _ [1] _ rfl (by kernel_rfl) ?s2 ?_;rotate_left;refine @FactSteps.cons _ _ _ _ 3 _ [2] _ rfl (by kernel_rfl) ?s3 ?_;rotate_left;refine @FactSteps.cons _ _ _ _ 4 _ [] _ rfl (by kernel_rfl) ?s4 ?_;rotate_left;refine @FactSteps.cons _ _ _ _ 5 _ [4] _ rfl (by kernel_rfl) ?s5 ?_;rotate_left;exact FactSteps.nil
            case s0 =>
              rintro L a v w hv hg hL hd hcl ⟨e0,e4,hb,f0,f1,f2,f3,f4,f5⟩ K hK;refine step_do rfl ?_;clear hv;go_simp;exact hK.out _ _ ⟨e0,e4,hb,fun _=>rfl,f1,f2,f3,f4,f5⟩
            case s1 =>
              rintro L a v w hv hg hL hd hcl ⟨e0,e4,hb,f0,f1,f2,f3,f4,f5⟩ K hK;have g0:=f0 (hd 0 (by decide));have g0:=f0 (hd 0 (by decide));refine step_do rfl ?_;clear hv;go_simp;exact hK.out _ _ ⟨e0,e4,hb,f0,fun _=>rfl,f2,f3,f4,f5⟩
            case s2 =>
              rintro L a v w hv hg hL hd hcl ⟨e0,e4,hb,f0,f1,f2,f3,f4,f5⟩ K hK;have g1:=f1 (hd 1 (by decide));have g1:=f1 (hd 1 (by decide));refine step_do rfl ?_;clear hv;go_simp;exact hK.out _ _ ⟨e0,e4,hb,f0,f1,fun _=>rfl,f3,f4,f5⟩
            case s3 =>
              rintro L a v w hv hg hL hd hcl ⟨e0,e4,hb,f0,f1,f2,f3,f4,f5⟩ K hK;have g2:=f2 (hd 2 (by decide));have g2:=f2 (hd 2 (by decide));have cs4 : w.cell? ⟨b,0,none⟩ = some (.pointer (some ⟨g,0,none⟩)):=(hb.cell (p:=⟨b,0,none⟩) hlq).trans c0;refine step_do rfl ?_;clear hv;go_simp;exact hK.out _ _ ⟨e0,e4,hb,f0,f1,f2,fun _=>rfl,f4,f5⟩
            case s4 =>
              rintro L a v w hv hg hL hd hcl ⟨e0,e4,hb,f0,f1,f2,f3,f4,f5⟩ K hK;refine step_do rfl ?_;clear hv;go_simp;exact hK.out _ _ ⟨e0,e4,hb,f0,f1,f2,f3,fun _=>rfl,f5⟩
            case s5 =>
              rintro L a v w hv hg hL hd hcl ⟨e0,e4,hb,f0,f1,f2,f3,f4,f5⟩ K hK;have g4:=f4 (hd 4 (by decide));have hh:=rnumber_lit 1 1 ((su : Int) + 8) M rfl (by omega) (by omega) w;refine step_do rfl ?_;clear hv;go_simp;refine hh.mono ?_;rintro e wy ⟨A1,n1,c1,rfl,o1,bb⟩;exact hK.out _ _ ⟨e0,e4,(hb.trans (bb.mono hb.size)),f0,f1,f2,f3,f4,fun _=>⟨A1,n1,c1,rfl,o1.mono hb.size⟩⟩
          case hend =>
          rintro L v w2 hall ⟨e0,e4,hb,f0,f1,f2,f3,f4,f5⟩;have hL : ∀ i,i < 6→L i = true:=hall;have f0:=f0 (hL 0 (by decide));have f1:=f1 (hL 1 (by decide));have f2:=f2 (hL 2 (by decide));have f3:=f3 (hL 3 (by decide));have f4:=f4 (hL 4 (by decide));have f5:=f5 (hL 5 (by decide));obtain ⟨A2,n2,c2',q9,o2⟩:=f5
          simp only [finA,List.foldl_cons,List.foldl_nil,Act.put,List.setIfInBounds_toArray,List.set_cons_succ,List.set_cons_zero,f0,f1,f2,f3,f4,q9]
          have s2:=H1.out.below hb;clear e0 e4 f0 f1 f2 f3 f4 hL hall q9
          show wpList _ _ _ [_,_] _ _
          go_wp2_with fail;refine (rwrite_any A2 n2 c2' _ (told 1 M) _ g size sb w2 s2.disk hl hs o2.rd (Nat.le_refl _) _ _ HW.out).mono ?_;rintro e w3 ⟨rfl,d3⟩;obtain ⟨F3,s3⟩:=s2.op d3;have H5:=Lib.hid s3;clear s2 s3 d3 o2 hb H0 H1;go_wp2_with fail;go_ret2;rw [HR.out];exact ⟨by first | rfl | (simp;done),H5.out.fin (Below.refl _ _) hlt hf⟩
end Sto.Stp
end Go.Proofs.YtfpenfgmpbdakaaGreat

namespace Go.Proofs.YtfpenfgmpbdakaaGreat
set_option linter.unusedVariables false
set_option linter.unusedSimpArgs false
set_option maxRecDepth 100000
open Go.RowKit
section
variable {w w' : World} {B B' base n c : Nat} {A : Option Addr} {ls ms : List (List UInt8)} {es fs : List Sl}
end
section
variable {w w' : World} {B base n c : Nat} {A : Option Addr} {ls ms : List (List UInt8)}
theorem only_row {row : Option Nat} (hg : w.grownBy w' row) : Only (fun k=>row = some k) w w':=⟨hg.os,hg.tape,hg.output,hg.size,fun k hk hn=>hg.block k hk fun e=>hn e.symm⟩
end
end Go.Proofs.YtfpenfgmpbdakaaGreat

namespace Go.Proofs.YtfpenfgmpbdakaaGreat
set_option linter.unusedVariables false
set_option linter.unusedSimpArgs false
set_option maxRecDepth 100000
open Go.RowKit
open Dot Evt
open Disk
namespace Sto.Stp
open _root_.Go.Proofs.YtfpenfgmpbdakaaGreat.Log (writeM LogEnd lwrite_any)
open _root_.Go.Proofs.YtfpenfgmpbdakaaGreat.Frame (frm frms frms_nil frms_cons frms_snoc frms_append frm_length frm_pos Parts AllF)
structure EvsAt (w : World) (F : Nat→Prop) (b base : Nat) (A : Option Addr) (n c : Nat) (xs : List EvV) : Prop where
  row : OwnEv w base A n c xs
  own : ∀ x ∈ xs,EvOwn w base x
  nf : ∀ k,A.map (·.block) = some k→¬ F k∧k ≠ b
  nfx : ∀ x ∈ xs,∀ k,x.A.map (·.block) = some k→¬ F k∧k ≠ b
section
variable {w w0 w1 w2 : World} {F F1 G : Nat→Prop} {b g size base n c : Nat} {A : Option Addr} {xs : List EvV} {S : Sd} {l : Db}
theorem EvsAt.lt (h : EvsAt w F b base A n c xs) : (∀ k,A.map (·.block) = some k→k < w.heap.size)∧∀ x ∈ xs,∀ k,x.A.map (·.block) = some k→k < w.heap.size :=
  ⟨fun k hk=>(h.row.lt k hk).2,fun x hx k hk=>((h.own x hx).2.1.lt k hk).2⟩
theorem EvsAt.only (h : EvsAt w F b base A n c xs) (ho : Only G w w1) (hg : Grows F F1 w) (hG : ∀ k,G k→F k∨k = b∨w.heap.size≤k) : EvsAt w1 F1 b base A n c xs:=by
  obtain ⟨l1,l2⟩:=h.lt
  have key : ∀ k,k < w.heap.size→¬ F k∧k ≠ b→w1.heap[k]? = w.heap[k]?:=fun k hk hn=>ho.block k hk (fun q=>by
    rcases hG k q with q | q | q
    · exact hn.1 q
    · exact hn.2 q
    · omega)
  have grow : ∀ k,k < w.heap.size→¬ F k∧k ≠ b→¬ F1 k∧k ≠ b:=fun k hk hn=>⟨fun q=>by
    rcases hg k q with q | q
    · exact hn.1 q
    · omega,hn.2⟩
  exact ⟨⟨h.row.1,ownsRow_keep h.row.2 fun k hk=>key k (l1 k hk) (h.nf k hk)⟩,
    fun x hx=>⟨(h.own x hx).1,⟨(h.own x hx).2.1.1,ownsRow_keep (h.own x hx).2.1.2 fun k hk=>key k (l2 x hx k hk) (h.nfx x hx k hk)⟩,(h.own x hx).2.2⟩,
    fun k hk=>grow k (l1 k hk) (h.nf k hk),fun x hx k hk=>grow k (l2 x hx k hk) (h.nfx x hx k hk)⟩
theorem EvsAt.below (h : EvsAt w F b base A n c xs) (hb : Below w.heap.size w w1) : EvsAt w1 F b base A n c xs :=
  h.only (Only.of_below (fun _=>False) hb) (Grows.refl _ _) (fun k q=>q.elim)
theorem EvsAt.setT (h : EvsAt w F b base A n c xs) {q : Nat} {T : TypeId} {cs : Array Value} (hq : Blk w q T cs) (h1 : T ≠ 47) (h2 : T ≠ 42) (j : Nat) (v : Value) : EvsAt (w.setCell ⟨q,j,none⟩ v) F b base A n c xs :=
  ⟨⟨h.row.1,ownsRow_keep h.row.2 fun k hk=>Below.heap_setCell w ⟨q,j,none⟩ v k (fun e=>own_ne h.row.2 hq h1 (by rw [hk,e]))⟩,
    fun x hx=>⟨(h.own x hx).1,(h.own x hx).2.1.setFar (p:=⟨q,j,none⟩) (own_ne (h.own x hx).2.1.2 hq h2) v,(h.own x hx).2.2⟩,h.nf,h.nfx⟩
def EvF (A : Option Addr) (xs : List EvV) (k : Nat) : Prop:=A.map (·.block) = some k∨∃ x ∈ xs,x.A.map (·.block) = some k
def EOp (w : World) (F : Nat→Prop) (b g size base : Nat) (A : Option Addr) (xs : List EvV) (S : Sd) (evs : List Ev) (w' : World) : Prop :=
  ∃ F' A' n' c' xs',StoAt w' F' b g size S (.slice A' n' c')∧EvsAt w' F' b base A' n' c' xs'∧xs'.map (·.e) = evs∧Only (fun k=>F k∨k = b∨A.map (·.block) = some k) w w'∧Grows F F' w∧∀ k,EvF A' xs' k→EvF A xs k∨w.heap.size≤k
structure SE (w : World) (F : Nat→Prop) (b g size : Nat) (S : Sd) (base : Nat) (A : Option Addr) (n c : Nat) (xs : List EvV) (F1 : Nat→Prop) (w1 : World) : Prop where
  sw : SW w F b g size S (.slice A n c) F1 w1
  ev : EvsAt w1 F1 b base A n c xs
theorem SE.start (h : StoAt w F b g size S (.slice A n c)) (he : EvsAt w F b base A n c xs) : SE w F b g size S base A n c xs F w:=⟨h.sw,he⟩
theorem SE.below (h : SE w F b g size S base A n c xs F1 w1) (hb : Below w1.heap.size w1 w2) : SE w F b g size S base A n c xs F1 w2:=⟨h.sw.below hb,h.ev.below hb⟩
theorem SE.op (h : SE w F b g size S base A n c xs F1 w1) (ho : DiskOpD w1 F1 g size l w2) : ∃ F2,SE w F b g size { S with b:=l } base A n c xs F2 w2:=by
  have hs:=h.sw;obtain ⟨F2,o1,o2,o3⟩:=ho;refine ⟨F2,⟨o1,hs.blk.only o2 hs.nb,?_,?_,hs.nf,hs.lt,hs.fl⟩,h.ev.only o2 o3 (fun k q=>.inl q)⟩
  · refine hs.only.trans (o2.mono (G:=fun k=>F1 k∨k = b) fun k hk=>.inl (.inl hk)) fun k hk=>?_
    rcases hk with hk | hk
    · rcases hs.grows k hk with q | q
      · exact .inl (.inl q)
      · exact .inr q
    · exact .inl (.inr hk)
  · exact hs.grows.trans o3 hs.only.size
theorem SE.fail (h : SE w0 F b g size S base A n c xs F1 w1) (hb : Below w.heap.size w w0) (hl : b < w.heap.size) (hf : ∀ k,F k→k < w.heap.size) {q : Nat} {cs : Array Value} (hq : Blk w1 q 27 cs) (h1 : w.heap.size≤q) (h2 : q < w0.heap.size) (j : Nat) (v : Value) :
    EOp w F b g size base A xs S (xs.map (·.e)) (w1.setCell ⟨q,j,none⟩ v):=by
  have hs:=h.sw
  have hn : ¬ F1 q:=fun hk=>by
    rcases hs.grows _ hk with x | x
    · have:=hf _ x;omega
    · omega
  refine ⟨F1,A,n,c,xs,⟨hs.disk.keep ⟨by simp [World.setCell],fun k hk=>Below.heap_setCell w1 _ _ k (fun e=>hn (by have e : k = q:=e;rw [← e];exact hk))⟩,hs.blk.far (by show b ≠ q;omega) v,hs.nb⟩,h.ev.setT hq (by decide) (by decide) j v,rfl,?_,fun k hk=>(hs.grows k hk).imp id fun x=>by have:=hb.size;omega,fun k hk=>.inl hk⟩;exact (((Only.of_below _ hb).trans hs.only (Grows.refl _ _)).setCell (.inr h1) v).mono (fun k hk=>.inl (by rcases hk with x | x;exact .inl x;exact .inr (.inl x)))
end
def KpRow (wd w : World) (base : Nat) (A : Option Addr) (n : Nat) (xs : List EvV) (x : Ev) (v : Value) : Prop :=
  ∃ A9 c9 z,v = .slice A9 (n + 1) c9∧OwnEv w base A9 (n + 1) c9 (xs ++ [z])∧z.e = x∧(∀ y ∈ xs ++ [z],EvOwn w base y)∧(A9.map (·.block) = A.map (·.block)∨∀ k,A9.map (·.block) = some k→wd.heap.size≤k)∧∀ k,z.A.map (·.block) = some k→wd.heap.size≤k
theorem step_appE {w : World} {o : Oper} {a : Act} {K : Act→World→Prop} {Q : Exit→Act→World→Prop} (s x : Operand)
    (ho : o.op = .call { callee:=.builtin .append,args:=#[s,x],argTypes:=#[48,48] })
    {base : Nat} {A : Option Addr} {n c : Nat} {bs : List EvV} (hs : a.eval s = .slice A n c) (hown : OwnEv w base A n c bs)
    {B : Nat} {D : Option Addr} {m d : Nat} {news : List EvV} (hx : a.eval x = .slice D m d) (hr : Rd w B D (ecsL news)) (hm : m = news.length)
    (hbytes : n + m≤1000000000000) (hbase : base≤w.heap.size)
    (h : ∀ A' c' w',OwnEv w' base A' (n + m) c' (bs ++ news)→w.grownBy w' (A.map (·.block))→Moved A' (A.map (·.block)) w.heap.size→Below base w w' →
      K (a.put o.dst (.slice A' (n + m) c')) w') : Oper.wp Tryz.prog o a w K Q:=by
  obtain ⟨i0,hi,hz0,hz1,hz2⟩:=info_parts infoEv
  have hob : (Value.slice A n c).ownBlock = A.map (·.block):=by cases A <;> rfl
  obtain ⟨v',w',hrun,h2,h3,h4⟩:=run_app (P:=Tryz.prog) w base 48 o.type 47 i0 (.agg (cT 0)) 14 128 Tryz.underlying48 hi hz0 hz1 hz2 rfl (by decide) (.slice A n c) n _ hown.2 B D m d (ecsL news) hr (by rw [ecsL_len,hm]) (ecsL_one _) (by unfold maxLen;omega) (by omega) hbase
  unfold Oper.wp execOp
  simp only [ho,resolve,invoke,builtin,Sem.run_bind,Sem.run_pure,Result.andThen_ok,List.map_toArray,List.map_cons,List.map_nil,hs,hx,hrun]
  have hv : ∃ A' c',v' = .slice A' (n + m) c'∧v'.ownBlock = A'.map (·.block):=by
    rcases h2.2 with ⟨rfl,h0⟩ | ⟨g,cap,cur,rfl,_⟩
    · exact ⟨none,0,by rw [h0],rfl⟩
    · exact ⟨_,_,rfl,rfl⟩
  obtain ⟨A',c',rfl,hb⟩:=hv;rw [hb] at h4;rw [hob] at h3 h4;exact h _ _ _ ⟨by rw [List.length_append,hown.1,hm],by rw [ecsL_app];exact h2⟩ h3 h4 ((Below.refl _ _).grown h3 hbase (fun g hg=>(hown.lt g hg).1))
theorem Blk.rdMg {w : World} {g : Nat} {T : TypeId} {cs : Array Value} (h : Blk w g T cs) : Rd w (g + 1) (some ⟨g,0,none⟩) cs.toList:=fun j u hu=>⟨_,rfl,Nat.lt_succ_self _,by rw [add_mk,Nat.zero_add,h.cell,← hu];exact (Array.getElem?_toList ..).symm⟩
theorem ev_dot {w : World} {g : Nat} {T : TypeId} {cs : Array Value} (k : Blk w g T cs) {x y : Int} (h0 : cs[0]? = some (.int .i64 x)) (h1 : cs[1]? = some (.int .i64 y)) : w.rangeAt g 0 (#[Value.int .i64 x,.int .i64 y] : Array Value).toList:=fun j v hv=>by
  rw [Nat.zero_add,k.cell]
  match j,hv with
  | 0,hv=>rw [h0,← hv];rfl
  | 1,hv=>rw [h1,← hv];rfl
  | j + 2,hv=>simp at hv
theorem rowDt2 : RowT Tryz.prog 42 2:=⟨_,Tryz.underlying42,rfl,by kernel_rfl⟩
def keepD (size : Nat) (S : Sd) (evs : List Ev) (x : Ev) : Nat × Sd × List Ev :=
  if rightE x = false then (2,S,evs) else if hasE evs x.d = true then (9,S,evs)
  else if S.b.length + (frm (told3 x)).length≤size then (0,{ S with b:=S.b ++ frm (told3 x) },evs ++ [x]) else (7,S,evs)
def KeepEnd (w : World) (F : Nat→Prop) (b g size base : Nat) (A : Option Addr) (xs : List EvV) (r : Nat × Sd × List Ev) (e : Ending) (w' : World) : Prop:=e = .returned (.int .i64 (r.1 : Nat))∧EOp w F b g size base A xs r.2.1 r.2.2 w'
theorem told3_len {x : Ev} (hp : x.p.length = 7) (hr : rightE x = true) : (told3 x).length≤1231:=by
  unfold told3 putE
  rw [hr,if_pos rfl,List.length_cons]
  have:=encE_len hp hr
  simp only
  omega
theorem told3_write {size : Nat} {bs : Db} {x : Ev} (hp : x.p.length = 7) (hr : rightE x = true) : writeD size bs (told3 x) = if bs.length + (frm (told3 x)).length≤size then (0,bs ++ frm (told3 x)) else (7,bs):=by
  unfold writeD
  have:=told3_len hp hr
  rw [if_neg (by omega)]
set_option maxHeartbeats 8000000 in
theorem keep_any (x : EvV) (S : Sd) (F : Nat→Prop) (b g size base : Nat) (A : Option Addr) (n c : Nat) (xs : List EvV) (ws : World) (h : StoAt ws F b g size S (.slice A n c)) (he : EvsAt ws F b base A n c xs) (hx : ∀ w',Only (fun k=>F k∨k = b) ws w'→EvOk w' w'.heap.size x) (hm : x.m≤100000) (hn : n≤100000) (hB : base≤ws.heap.size) (hs0 : size≤16384) (hl : S.b.length≤16384) :
    Calls Tryz.prog 18 #[.pointer (some ⟨b,0,none⟩),.agg x.cs] ws (KeepEnd ws F b g size base A xs (keepD size S (xs.map (·.e)) x.e)):=by
  have hlt : b < ws.heap.size:=h.2.1.lt;have hf : ∀ k,F k→k < ws.heap.size:=h.1.lt;obtain ⟨cs,hcs⟩ : ∃ cs,cs = x.cs:=⟨_,rfl⟩;have SZ:=Lib.hid (show cs.size = 14 by rw [hcs];rfl);have X0:=Lib.hid (show cs[0]? = some (.int .i64 x.e.d.1) by rw [hcs];rfl);have X1:=Lib.hid (show cs[1]? = some (.int .i64 x.e.d.2) by rw [hcs];rfl);have HCS:=Lib.hid hcs;rw [← hcs];obtain ⟨w0,hw0⟩ : ∃ w0,w0 = (ws.alloc (.cells cs 47)).alloc (.cells #[.int .i64 0] 27):=⟨_,rfl⟩
  have hbw : Below ws.heap.size ws w0:=by rw [hw0];exact ((Below.refl _ _).alloc (Nat.le_refl _) _).alloc (by simp) _
  have kE : Blk w0 ws.heap.size 47 cs:=by rw [hw0];exact (Blk.new ws _ _).alloc _
  have k0 : Blk w0 (ws.heap.size + 1) 27 #[.int .i64 0]:=by
    have h:=Blk.new (ws.alloc (.cells cs 47)) 27 #[.int .i64 0];rw [hw0]
    simpa using h
  have s0:=SE.start (h.below hbw) (he.below hbw)
  have HX:=Lib.hid fun (w' : World) (hb : Below ws.heap.size ws w')=>hx w' (Only.of_below _ hb)
  have HXO:=Lib.hid hx
  have hnF : ¬ F (ws.heap.size + 1):=fun q=>by have:=hf _ q;omega
  have hnFe : ¬ F ws.heap.size:=fun q=>by have:=hf _ q;omega
  have HXM:=Lib.hid hm;have HP7:=Lib.hid (hx ws (Only.refl _ _)).1;have hsz : ws.heap.size + 1 < w0.heap.size:=k0.lt;have HNX:=Lib.hid he.row.1;have HAL:=Lib.hid he.lt.1;clear h he hx hm hcs
  go_enter_defers Tryz.func18,Tryz.ntmps18
  go_upto_region 4 with fail
  rw [← hw0];have HW0:=Lib.hid hw0;clear hw0
  cases hr : rightE x.e
  case false =>
    have hd : keepD size S (xs.map (·.e)) x.e = (2,S,xs.map (·.e)):=by unfold keepD;rw [hr];rfl
    have HD:=Lib.hid hd;have HT:=Lib.hid (by have:=told3_bad x w0 (HX.out w0 hbw) hr;rw [← HCS.out] at this;exact this);clear hd hr
    go_wp2_with ((with_reducible refine wpList_ld rowE kE SZ.out ?_ ?_);rotate_left;(rfl))
    refine HT.out.mono ?_;rintro e w1 ⟨rfl,b1⟩;have k1:=k0.below b1 k0.lt;have s1:=s0.below b1;go_wp2_with fail;refine leaves_cons (f:=38) (args:=#[.pointer (some ⟨ws.heap.size + 1,0,none⟩)]) (by simp) (by simp [go_sem]) ?_;refine (caught_panic (ws.heap.size + 1) 2 [] (.int .i64 0) _ (k1.cell 0) (k1.free 0)).mono ?_;rintro e u' w'' ⟨rfl,rfl,rfl⟩;have k8:=k1.alloc (.cells #[.int .i64 2] 113);have c9 : World.cell? _ _ = some (.int .i64 2):=(k8.set_ 0 (.int .i64 2)).cell 0;have s9:=(s1.below ((Below.refl _ _).alloc (Nat.le_refl _) (.cells #[.int .i64 2] 113))).fail hbw hlt hf k8 (by omega) hsz 0 (.int .i64 2);refine ⟨.int .i64 2,by simp [results,Tryz.results18,go_sem,c9],?_⟩;rw [HD.out];exact ⟨rfl,s9⟩
  obtain ⟨R,hR⟩ : ∃ R,R = hasE (xs.map (·.e)) x.e.d:=⟨_,rfl⟩;have HR:=Lib.hid (And.intro hr hR);have HT:=Lib.hid (by have:=told3_any x w0 (HX.out w0 hbw) hr;rw [← HCS.out] at this;exact this);clear hr hR
  go_wp2_with ((with_reducible refine wpList_ld rowE kE SZ.out ?_ ?_);rotate_left;(rfl))
  refine HT.out.mono ?_;rintro e w1 ⟨A2,n2,c2',rfl,o2,b2⟩;have k1:=k0.below b2 k0.lt;have kE1:=kE.below b2 kE.lt;have s1:=s0.below b2;have HO2:=Lib.hid o2;have c4 : w1.cell? ⟨b,4,none⟩ = some (.slice A n c):=s1.sw.blk.cell 4;have hlb:=s1.sw.blk.lt;have HS1:=Lib.hid s1
  have HHAS:=Lib.hid fun (w' : World) (hb : Below w1.heap.size w1 w')=>(by
    have hs:=HS1.out.below hb
    have:=shas_any A n c xs x.e.d.1 x.e.d.2 w' (hs.ev.row.row (fun y hy=>(hs.ev.own y hy).ok)) (by omega)
    rw [show ((x.e.d.1,x.e.d.2) : Dt) = x.e.d from rfl,← HR.out.2] at this
    exact this : Calls Tryz.prog 53 #[.slice A n c,.agg #[.int .i64 x.e.d.1,.int .i64 x.e.d.2]] w' fun e w''=>e = .returned (.bool R)∧Below w'.heap.size w' w'')
  have HD2:=Lib.hid (ev_dot (w:=w1) kE1 X0.out X1.out);have hlE:=kE1.lt;clear o2 b2 HT kE k0 s0 s1
  go_upto_region 5 with fail
  refine wp_region_tailF 9 8 (fun L v w=>v 0 = .pointer (some ⟨b,0,none⟩)∧v 3 = .pointer (some ⟨ws.heap.size,0,none⟩)∧Below w1.heap.size w1 w∧(L 0 = true→v 10 = .pointer (some ⟨b,0,none⟩))∧(L 1 = true→v 11 = .pointer (some ⟨b,0,none⟩))∧(L 2 = true→v 12 = .pointer (some ⟨b,4,none⟩))∧(L 3 = true→v 13 = .slice A n c)∧(L 4 = true→v 14 = .pointer (some ⟨ws.heap.size,0,none⟩))∧(L 5 = true→v 15 = .agg #[.int .i64 x.e.d.1,.int .i64 x.e.d.2])∧(L 6 = true→v 16 = .bool R)∧(L 7 = true→v 17 = .bool (!R))) [10,11,12,13,14,15,16,17] (by kernel_rfl) (by kernel_rfl) (by kernel_rfl) (by kernel_rfl) (by kernel_rfl) (by kernel_rfl) ?h0 ?hst ?hend
  case h0 =>
    intro L h0;have h0 : ∀ i,i < 8→L i = false:=h0;exact ⟨rfl,rfl,(Below.refl _ _).drew,offF h0 (i:=0) (by decide),offF h0 (i:=1) (by decide),offF h0 (i:=2) (by decide),offF h0 (i:=3) (by decide),offF h0 (i:=4) (by decide),offF h0 (i:=5) (by decide),offF h0 (i:=6) (by decide),offF h0 (i:=7) (by decide)⟩
  case hst =>
    show FactSteps _ _ _ _ [0,1,2,3,4,5,6,7]
    refine @FactSteps.cons _ _ _ _ 0 _ [] _ rfl (by kernel_rfl) ?s0 ?_;rotate_left;refine @FactSteps.cons _ _ _ _ 1 _ [0] _ rfl (by kernel_rfl) ?s1 ?_;rotate_left;refine @FactSteps.cons _ _ _ _ 2 _ [1] _ rfl (by kernel_rfl) ?s2 ?_;rotate_left;refine @FactSteps.cons _ _ _ _ 3 _ [2] _ rfl (by kernel_rfl) ?s3 ?_;rotate_left;refine @FactSteps.cons _ _ _ _ 4 _ [] _ rfl (by kernel_rfl) ?s4 ?_;rotate_left;refine @FactSteps.cons _ _ _ _ 5 _ [4] _ rfl (by kernel_rfl) ?s5 ?_;rotate_left;refine @FactSteps.cons _ _ _ _ 6 _ [3,5] _ rfl (by kernel_rfl) ?s6 ?_;rotate_left;refine @FactSteps.cons _ _ _ _ 7 _ [6] _ rfl (by kernel_rfl) ?s7 ?_;rotate_left;exact FactSteps.nil
    case s0 =>
      rintro L a v w hv hg hL hd hcl ⟨e0,e3,hb,f0,f1,f2,f3,f4,f5,f6,f7⟩ K hK;refine step_do rfl ?_;clear hv;go_simp;exact hK.out _ _ ⟨e0,e3,hb,fun _=>rfl,f1,f2,f3,f4,f5,f6,f7⟩
    case s1 =>
      rintro L a v w hv hg hL hd hcl ⟨e0,e3,hb,f0,f1,f2,f3,f4,f5,f6,f7⟩ K hK;have g0:=f0 (hd 0 (by decide));have g0:=f0 (hd 0 (by decide));refine step_do rfl ?_;clear hv;go_simp;exact hK.out _ _ ⟨e0,e3,hb,f0,fun _=>rfl,f2,f3,f4,f5,f6,f7⟩
    case s2 =>
      rintro L a v w hv hg hL hd hcl ⟨e0,e3,hb,f0,f1,f2,f3,f4,f5,f6,f7⟩ K hK;have g1:=f1 (hd 1 (by decide));have g1:=f1 (hd 1 (by decide));refine step_do rfl ?_;clear hv;go_simp;exact hK.out _ _ ⟨e0,e3,hb,f0,f1,fun _=>rfl,f3,f4,f5,f6,f7⟩
    case s3 =>
      rintro L a v w hv hg hL hd hcl ⟨e0,e3,hb,f0,f1,f2,f3,f4,f5,f6,f7⟩ K hK;have g2:=f2 (hd 2 (by decide));have g2:=f2 (hd 2 (by decide));have cs4 : w.cell? ⟨b,4,none⟩ = some (.slice A n c):=(hb.cell (p:=⟨b,4,none⟩) hlb).trans c4;refine step_do rfl ?_;clear hv;go_simp;exact hK.out _ _ ⟨e0,e3,hb,f0,f1,f2,fun _=>rfl,f4,f5,f6,f7⟩
    case s4 =>
      rintro L a v w hv hg hL hd hcl ⟨e0,e3,hb,f0,f1,f2,f3,f4,f5,f6,f7⟩ K hK;refine step_do rfl ?_;clear hv;go_simp;exact hK.out _ _ ⟨e0,e3,hb,f0,f1,f2,f3,fun _=>rfl,f5,f6,f7⟩
    case s5 =>
      rintro L a v w hv hg hL hd hcl ⟨e0,e3,hb,f0,f1,f2,f3,f4,f5,f6,f7⟩ K hK;have g4:=f4 (hd 4 (by decide));refine step_do rfl ?_;refine wp_ldr rowDt2 (.tmp 14) rfl ((hv 14).trans g4) (range_keep HD2.out hb hlE) rfl ?_;exact hK.out _ _ ⟨e0,e3,hb,f0,f1,f2,f3,f4,fun _=>rfl,f6,f7⟩
    case s6 =>
      rintro L a v w hv hg hL hd hcl ⟨e0,e3,hb,f0,f1,f2,f3,f4,f5,f6,f7⟩ K hK;have g3:=f3 (hd 3 (by decide));have g5:=f5 (hd 5 (by decide));have hh:=HHAS.out w hb;refine step_do rfl ?_;clear hv;go_simp;refine hh.mono ?_;rintro e wy ⟨rfl,bb⟩;exact hK.out _ _ ⟨e0,e3,(hb.trans (bb.mono hb.size)),f0,f1,f2,f3,f4,f5,fun _=>rfl,f7⟩
    case s7 =>
      rintro L a v w hv hg hL hd hcl ⟨e0,e3,hb,f0,f1,f2,f3,f4,f5,f6,f7⟩ K hK;refine step_do rfl ?_;clear hv;go_simp;exact hK.out _ _ ⟨e0,e3,hb,f0,f1,f2,f3,f4,f5,f6,fun _=>rfl⟩
  case hend =>
  rintro L v w2 hall ⟨e0,e3,hb,f0,f1,f2,f3,f4,f5,f6,f7⟩;have hL : ∀ i,i < 8→L i = true:=hall;have f0:=f0 (hL 0 (by decide));have f1:=f1 (hL 1 (by decide));have f2:=f2 (hL 2 (by decide));have f3:=f3 (hL 3 (by decide));have f4:=f4 (hL 4 (by decide));have f5:=f5 (hL 5 (by decide));have f6:=f6 (hL 6 (by decide));have f7:=f7 (hL 7 (by decide))
  simp only [finA,List.foldl_cons,List.foldl_nil,Act.put,List.setIfInBounds_toArray,List.set_cons_succ,List.set_cons_zero,f0,f1,f2,f3,f4,f7,f5,f6]
  have k2:=k1.below hb k1.lt;have kE2:=kE1.below hb kE1.lt;have s2:=HS1.out.below hb;have HO2:=Lib.hid (HO2.out.below hb (Nat.le_refl _));clear e0 e3 f0 f1 f2 f3 f4 f5 f6 f7 hL hall hb
  show wpList _ _ _ [_] _ _
  have HS2:=Lib.hid s2;clear HHAS c4 hlb HD2 hlE HS1 s2 k1 kE1
  cases R
  case true =>
    have hd : keepD size S (xs.map (·.e)) x.e = (9,S,xs.map (·.e)):=by unfold keepD;rw [if_neg (by rw [HR.out.1];decide),if_pos HR.out.2.symm]
    have HD:=Lib.hid hd;clear hd;go_wp2_with fail;refine (must_bad _ _).mono ?_;rintro e w3 ⟨rfl,rfl⟩;go_wp2_with fail;refine leaves_cons (f:=38) (args:=#[.pointer (some ⟨ws.heap.size + 1,0,none⟩)]) (by simp) (by simp [go_sem]) ?_;refine (caught_panic (ws.heap.size + 1) 9 [] (.int .i64 0) _ (k2.cell 0) (k2.free 0)).mono ?_;rintro e u' w'' ⟨rfl,rfl,rfl⟩;have k8:=k2.alloc (.cells #[.int .i64 9] 113);have c9 : World.cell? _ _ = some (.int .i64 9):=(k8.set_ 0 (.int .i64 9)).cell 0;have s9:=(HS2.out.below ((Below.refl _ _).alloc (Nat.le_refl _) (.cells #[.int .i64 9] 113))).fail hbw hlt hf k8 (by omega) hsz 0 (.int .i64 9);refine ⟨.int .i64 9,by simp [results,Tryz.results18,go_sem,c9],?_⟩;rw [HD.out];exact ⟨rfl,s9⟩
  have hle:=ownsRow_le HO2.out.2;have hwr:=write_any A2 n2 c2' _ (told3 x.e) _ b g size S.used S.upto S.inc S.b (.slice A n c) w2 HS2.out.sw.blk HS2.out.sw.disk hl hs0 HO2.out.rd (Nat.le_refl _) hle.1 hle.2;rw [told3_write HP7.out HR.out.1] at hwr
  by_cases hroom : S.b.length + (frm (told3 x.e)).length≤size
  case neg =>
    have hd : keepD size S (xs.map (·.e)) x.e = (7,S,xs.map (·.e)):=by unfold keepD;rw [if_neg (by rw [HR.out.1];decide),if_neg (by rw [← HR.out.2];decide),if_neg hroom]
    have HD:=Lib.hid hd;rw [if_neg hroom] at hwr;have HWR:=Lib.hid hwr;clear hd hwr hroom hle;go_wp2_with fail;refine (must_ok _ _).mono ?_;rintro e w3 ⟨rfl,rfl⟩;go_wp2_with fail;refine HWR.out.mono ?_;rintro e w3 ⟨he,d3⟩;obtain rfl : e = .panicked [{ v:=flt ((7 : Nat) : Int),recovered:=false }]:=he;have k3:=d3.kept k2 hnF;obtain ⟨F3,s3⟩:=HS2.out.op d3;go_wp2_with fail;refine leaves_cons (f:=38) (args:=#[.pointer (some ⟨ws.heap.size + 1,0,none⟩)]) (by simp) (by simp [go_sem]) ?_;refine (caught_panic (ws.heap.size + 1) 7 [] (.int .i64 0) _ (k3.cell 0) (k3.free 0)).mono ?_;rintro e u' w'' ⟨rfl,rfl,rfl⟩;have k8:=k3.alloc (.cells #[.int .i64 7] 113);have c9 : World.cell? _ _ = some (.int .i64 7):=(k8.set_ 0 (.int .i64 7)).cell 0;have s9:=(s3.below ((Below.refl _ _).alloc (Nat.le_refl _) (.cells #[.int .i64 7] 113))).fail hbw hlt hf k8 (by omega) hsz 0 (.int .i64 7);refine ⟨.int .i64 7,by simp [results,Tryz.results18,go_sem,c9],?_⟩;rw [HD.out];exact ⟨rfl,s9⟩
  have hd : keepD size S (xs.map (·.e)) x.e = (0,{ S with b:=S.b ++ frm (told3 x.e) },xs.map (·.e) ++ [x.e]):=by unfold keepD;rw [if_neg (by rw [HR.out.1];decide),if_neg (by rw [← HR.out.2];decide),if_pos hroom]
  have HD:=Lib.hid hd;rw [if_pos hroom] at hwr;have HWR:=Lib.hid hwr;clear hd hwr hroom hle;go_wp2_with fail;refine (must_ok _ _).mono ?_;rintro e w3 ⟨rfl,rfl⟩;go_wp2_with fail;refine HWR.out.mono ?_;rintro e w3 ⟨he,d3⟩;obtain rfl : e = .returned (.tuple #[]):=he;have k3:=d3.kept k2 hnF;have kE3:=d3.kept kE2 hnFe
  have hbw3 : Only (fun k=>F k∨k = b) ws w3:=by
    obtain ⟨F3,s3⟩:=HS2.out.op d3;exact (Only.of_below _ hbw).trans s3.sw.only (Grows.refl _ _)
  obtain ⟨F3,s3⟩:=HS2.out.op d3;have HS3:=Lib.hid s3;have c4 : w3.cell? ⟨b,4,none⟩ = some (.slice A n c):=s3.sw.blk.cell 4;have kS3:=s3.sw.blk
  have hnEA : ¬ A.map (·.block) = some ws.heap.size:=fun e=>Nat.lt_irrefl _ (HAL.out _ e)
  have hnkA : ¬ A.map (·.block) = some (ws.heap.size + 1):=own_ne s3.ev.row.2 k3 (by decide);have hnbA : ¬ A.map (·.block) = some b:=own_ne s3.ev.row.2 kS3 (by decide);have hbase : base≤w3.heap.size:=Nat.le_trans hB hbw3.size
  have HOW:=Lib.hid fun (w : World) (hb : Below w3.heap.size w3 w)=>(by
    have:=own_any x w (HXO.out w (hbw3.then_below (hb.mono hbw3.size))) HXM.out
    rw [← HCS.out] at this
    exact this : Calls Tryz.prog 54 #[.agg cs] w fun e w'=>∃ z : EvV,e = .returned (.agg z.cs)∧z.e = x.e∧EvOwn w' w.heap.size z∧Below w.heap.size w w')
  clear d3 k2 kE2 HWR HO2 HS2 s3
  go_upto_region 7 with fail
  refine wp_region_tailF 12 9 (fun L v w=>v 3 = .pointer (some ⟨ws.heap.size,0,none⟩)∧v 0 = .pointer (some ⟨b,0,none⟩)∧Only (fun k=>A.map (·.block) = some k) w3 w∧(L 8 = false→Below w3.heap.size w3 w)∧(L 0 = true→v 22 = .pointer (some ⟨b,0,none⟩))∧(L 1 = true→v 23 = .pointer (some ⟨b,0,none⟩))∧(L 2 = true→v 24 = .pointer (some ⟨b,0,none⟩))∧(L 3 = true→v 25 = .pointer (some ⟨b,4,none⟩))∧(L 4 = true→v 26 = .slice A n c)∧(L 5 = true→v 27 = .agg cs)∧(L 6 = true→(L 8 = false→∃ z : EvV,v 28 = .agg z.cs∧z.e = x.e∧EvOwn w w3.heap.size z))∧(L 7 = true→(L 8 = false→∃ (z : EvV) (gB : Nat),v 29 = .slice (some ⟨gB,0,none⟩) 1 1∧z.e = x.e∧EvOwn w w3.heap.size z∧Blk w gB 47 z.cs))∧(L 8 = true→KpRow w3 w base A n xs x.e (v 30))) [22,23,24,25,26,27,28,29,30] (by kernel_rfl) (by kernel_rfl) (by kernel_rfl) (by kernel_rfl) (by kernel_rfl) (by kernel_rfl) ?h0 ?hst ?hend
  case h0 =>
    intro L h0;have h0 : ∀ i,i < 9→L i = false:=h0;exact ⟨rfl,rfl,(Only.of_below _ (Below.refl _ _).drew),(fun _=>(Below.refl _ _).drew),offF h0 (i:=0) (by decide),offF h0 (i:=1) (by decide),offF h0 (i:=2) (by decide),offF h0 (i:=3) (by decide),offF h0 (i:=4) (by decide),offF h0 (i:=5) (by decide),offF h0 (i:=6) (by decide),offF h0 (i:=7) (by decide),offF h0 (i:=8) (by decide)⟩
  case hst =>
    show FactSteps _ _ _ _ [0,1,2,3,4,5,6,7,8]
    refine @FactSteps.cons _ _ _ _ 0 _ [] _ rfl (by kernel_rfl) ?s0 ?_;rotate_left;refine @FactSteps.cons _ _ _ _ 1 _ [] _ rfl (by kernel_rfl) ?s1 ?_;rotate_left;refine @FactSteps.cons _ _ _ _ 2 _ [1] _ rfl (by kernel_rfl) ?s2 ?_;rotate_left;refine @FactSteps.cons _ _ _ _ 3 _ [2] _ rfl (by kernel_rfl) ?s3 ?_;rotate_left;refine @FactSteps.cons _ _ _ _ 4 _ [3] _ rfl (by kernel_rfl) ?s4 ?_;rotate_left;refine @FactSteps.cons _ _ _ _ 5 _ [] _ rfl (by kernel_rfl) ?s5 ?_;rotate_left;refine @FactSteps.cons _ _ _ _ 6 _ [5] _ rfl (by kernel_rfl) ?s6 ?_;rotate_left;refine @FactSteps.cons _ _ _ _ 7 _ [6] _ rfl (by kernel_rfl) ?s7 ?_;rotate_left;refine @FactSteps.cons _ _ _ _ 8 _ [4,7,6] _ rfl (by kernel_rfl) ?s8 ?_;rotate_left;exact FactSteps.nil
    case s0 =>
      rintro L a v w hv hg hL hd hcl ⟨e3,e0,ho,hb8,f0,f1,f2,f3,f4,f5,f6,f7,f8⟩ K hK;refine step_do rfl ?_;clear hv;go_simp;exact hK.out _ _ ⟨e3,e0,ho,hb8,fun _=>rfl,f1,f2,f3,f4,f5,f6,f7,f8⟩
    case s1 =>
      rintro L a v w hv hg hL hd hcl ⟨e3,e0,ho,hb8,f0,f1,f2,f3,f4,f5,f6,f7,f8⟩ K hK;refine step_do rfl ?_;clear hv;go_simp;exact hK.out _ _ ⟨e3,e0,ho,hb8,f0,fun _=>rfl,f2,f3,f4,f5,f6,f7,f8⟩
    case s2 =>
      rintro L a v w hv hg hL hd hcl ⟨e3,e0,ho,hb8,f0,f1,f2,f3,f4,f5,f6,f7,f8⟩ K hK;have g1:=f1 (hd 1 (by decide));have g1:=f1 (hd 1 (by decide));refine step_do rfl ?_;clear hv;go_simp;exact hK.out _ _ ⟨e3,e0,ho,hb8,f0,f1,fun _=>rfl,f3,f4,f5,f6,f7,f8⟩
    case s3 =>
      rintro L a v w hv hg hL hd hcl ⟨e3,e0,ho,hb8,f0,f1,f2,f3,f4,f5,f6,f7,f8⟩ K hK;have g2:=f2 (hd 2 (by decide));have g2:=f2 (hd 2 (by decide));refine step_do rfl ?_;clear hv;go_simp;exact hK.out _ _ ⟨e3,e0,ho,hb8,f0,f1,f2,fun _=>rfl,f4,f5,f6,f7,f8⟩
    case s4 =>
      rintro L a v w hv hg hL hd hcl ⟨e3,e0,ho,hb8,f0,f1,f2,f3,f4,f5,f6,f7,f8⟩ K hK;have g3:=f3 (hd 3 (by decide));have g3:=f3 (hd 3 (by decide));have cs4 : w.cell? ⟨b,4,none⟩ = some (.slice A n c):=(kS3.only ho hnbA).cell 4;refine step_do rfl ?_;clear hv;go_simp;exact hK.out _ _ ⟨e3,e0,ho,hb8,f0,f1,f2,f3,fun _=>rfl,f5,f6,f7,f8⟩
    case s5 =>
      rintro L a v w hv hg hL hd hcl ⟨e3,e0,ho,hb8,f0,f1,f2,f3,f4,f5,f6,f7,f8⟩ K hK;refine step_do rfl ?_;refine wp_ld rowE (.tmp 3) rfl ((hv 3).trans e3) (kE3.only ho hnEA) SZ.out ?_;exact hK.out _ _ ⟨e3,e0,ho,hb8,f0,f1,f2,f3,f4,fun _=>rfl,f6,f7,f8⟩
    case s6 =>
      rintro L a v w hv hg hL hd hcl ⟨e3,e0,ho,hb8,f0,f1,f2,f3,f4,f5,f6,f7,f8⟩ K hK;have g5:=f5 (hd 5 (by decide));have c8 : L 8 = false:=off_of hcl (j:=8) (by kernel_rfl : waitsAt _ 8 = [4,7,6]) (d:=6) (by decide) hL;have how:=HOW.out w (hb8 c8);refine step_do rfl ?_;clear hv;go_simp;refine how.mono ?_;rintro e wy ⟨z,rfl,hz,oz,bb⟩;exact hK.out _ _ ⟨e3,e0,(ho.then_below (bb.mono ho.size)),(fun _=>(hb8 c8).trans (bb.mono (hb8 c8).size)),f0,f1,f2,f3,f4,f5,fun _ _=>⟨z,rfl,hz,oz.1,oz.2.1.mono (hb8 c8).size,oz.2.2⟩,(fun h h8=>(by obtain ⟨z,gB,e,hz,o,k⟩:=f7 h h8;exact ⟨z,gB,e,hz,⟨o.1,o.2.1.below bb (Nat.le_refl _),o.2.2⟩,k.below bb k.lt⟩)),(offC c8)⟩
    case s7 =>
      rintro L a v w hv hg hL hd hcl ⟨e3,e0,ho,hb8,f0,f1,f2,f3,f4,f5,f6,f7,f8⟩ K hK;have c8 : L 8 = false:=off_of hcl (j:=8) (by kernel_rfl : waitsAt _ 8 = [4,7,6]) (d:=7) (by decide) hL;obtain ⟨z,q6,hz,oz⟩:=f6 (hd 6 (by decide)) c8;have q6:=(hv 28).trans q6;have bb : Below w.heap.size w (w.alloc (.cells z.cs 47)):=(Below.refl _ _).alloc (Nat.le_refl _) _;refine step_do rfl ?_;refine step_bs (v:=.slice (some ⟨w.heap.size,0,none⟩) 1 1) (w':=w.alloc (.cells z.cs 47)) 48 1 #[(0,.tmp 28)] rfl (by simp only [List.map_toArray,List.map_cons,List.map_nil,q6];exact buildE1 z w) ?_;exact hK.out _ _ ⟨e3,e0,(ho.then_below (bb.mono ho.size)),(fun _=>(hb8 c8).trans (bb.mono (hb8 c8).size)),f0,f1,f2,f3,f4,f5,(fun h h8=>(by obtain ⟨z,e,hz,o⟩:=f6 h h8;exact ⟨z,e,hz,o.1,o.2.1.below bb (Nat.le_refl _),o.2.2⟩)),fun _ _=>⟨z,w.heap.size,rfl,hz,⟨oz.1,oz.2.1.below bb (Nat.le_refl _),oz.2.2⟩,Blk.new w _ _⟩,(offC c8)⟩
    case s8 =>
      rintro L a v w hv hg hL hd hcl ⟨e3,e0,ho,hb8,f0,f1,f2,f3,f4,f5,f6,f7,f8⟩ K hK;have g4:=f4 (hd 4 (by decide));obtain ⟨z,gB,q7,hz,oz,kB⟩:=f7 (hd 7 (by decide)) hL;have hbx:=hb8 hL;have evx:=HS3.out.ev.below hbx;refine step_do rfl ?_;refine step_appE (.tmp 26) (.tmp 29) rfl ((hv 26).trans g4) evx.row ((hv 29).trans q7) (news:=[z]) (B:=gB + 1) (by rw [show ecsL [z] = z.cs.toList by simp [ecsL]];exact Blk.rdMg kB) rfl (by omega) (Nat.le_trans hbase hbx.size) ?_;intro A9 c9 w9 o9 g9 m9 b9
      have kp : KpRow w3 w9 base A n xs x.e (.slice A9 (n + 1) c9):=⟨A9,c9,z,rfl,o9,hz,fun y hy=>(by
          rcases List.mem_append.1 hy with q | q
          · exact ⟨(evx.own y q).1,(evx.own y q).2.1.grown g9 (own2_ne (evx.own y q).2.1.2 evx.row.2 (by decide)),(evx.own y q).2.2⟩
          · rw [List.mem_singleton.1 q];exact ⟨oz.1,(oz.2.1.mono hbase).grown g9 (own2_ne oz.2.1.2 evx.row.2 (by decide)),oz.2.2⟩),(by
          rcases m9 with q | q
          · exact .inl q
          · exact .inr (fun k hk=>by rw [q] at hk;injection hk with hk;rw [← hk];exact hbx.size)),fun k hk=>(oz.2.1.lt k hk).1⟩
      exact hK.out _ _ ⟨e3,e0,(ho.trans (only_row g9) (Grows.refl _ _)),(fun h=>(by cases h)),f0,f1,f2,f3,f4,f5,(fun _ h=>(by cases h)),(fun _ h=>(by cases h)),fun _=>kp⟩
  case hend =>
  rintro L v we hall ⟨e3,e0,ho,hb8,f0,f1,f2,f3,f4,f5,f6,f7,f8⟩;have hL : ∀ i,i < 9→L i = true:=hall;have f0:=f0 (hL 0 (by decide));have f1:=f1 (hL 1 (by decide));have f2:=f2 (hL 2 (by decide));have f3:=f3 (hL 3 (by decide));have f4:=f4 (hL 4 (by decide));have f5:=f5 (hL 5 (by decide));have f6:=f6 (hL 6 (by decide));have f7:=f7 (hL 7 (by decide));have f8:=f8 (hL 8 (by decide));obtain ⟨A9,c9,z,q8,o9,hz,hown,hmv,hzb⟩:=f8
  simp only [finA,List.foldl_cons,List.foldl_nil,Act.put,List.setIfInBounds_toArray,List.set_cons_succ,List.set_cons_zero,f0,f1,f2,f3,f4,f5,q8]
  have kS:=kS3.only ho hnbA;have ke:=k3.only ho hnkA;have HO:=Lib.hid ho;clear e3 e0 f0 f1 f2 f3 f4 f5 f6 f7 hL hall ho hb8 q8
  show wpList _ _ _ [_,_,_] _ _
  have c4e : we.cell? ⟨b,4,none⟩ = some (.slice A n c):=kS.cell 4;have u4e:=kS.free 4;have hlb:=kS.lt
  have hEb : ws.heap.size + 1 ≠ b:=by omega
  have k10:=kS.set_ 4 (.slice A9 (n + 1) c9);have ke10:=ke.far (p:=⟨b,4,none⟩) hEb (.slice A9 (n + 1) c9);have c0e : World.cell? _ ⟨ws.heap.size + 1,0,none⟩ = some (.int .i64 0):=ke10.cell 0;have u0e:=ke10.free 0;have ce0 : we.cell? ⟨ws.heap.size + 1,0,none⟩ = some (.int .i64 0):=ke.cell 0;have ue0:=ke.free 0;have hle0:=ke.lt
  have hnF3e : ¬ F3 (ws.heap.size + 1):=fun q=>by
    rcases HS3.out.sw.grows _ q with y | y
    · exact hnF y
    · omega
  have hfin : EOp ws F b g size base A xs { S with b:=S.b ++ frm (told3 x.e) } (xs.map (·.e) ++ [x.e]) ((we.setCell ⟨b,4,none⟩ (.slice A9 (n + 1) c9)).setCell ⟨ws.heap.size + 1,0,none⟩ (.int .i64 0)):=by
    have s3:=HS3.out;have hl3:=s3.ev.lt;have hd3 : Keeps F3 w3 we:=HO.out.keeps (fun k hk q=>(s3.ev.nf k q).1 hk) s3.sw.disk.lt
    have hev : EvsAt we F3 b base A9 (n + 1) c9 (xs ++ [z]):=⟨o9,hown,fun k hk=>by
      rcases hmv with q | q
      · exact s3.ev.nf k (by rw [← q];exact hk)
      · have h9:=q k hk
        exact ⟨fun y=>by have:=s3.sw.disk.lt k y;omega,by have:=kS3.lt;omega⟩,fun y hy k hk=>by
      rcases List.mem_append.1 hy with q | q
      · exact s3.ev.nfx y q k hk
      · rw [List.mem_singleton.1 q] at hk
        have h9:=hzb k hk
        exact ⟨fun y=>by have:=s3.sw.disk.lt k y;omega,by have:=kS3.lt;omega⟩⟩
    have hbF : ∀ k,F3 k→k ≠ b:=fun k hk e=>s3.sw.nb (by rw [← e];exact hk)
    refine ⟨F3,A9,n + 1,c9,xs ++ [z],⟨((s3.sw.disk.keep hd3).keep ⟨by simp [World.setCell],fun k hk=>Below.heap_setCell we _ _ k (hbF k hk)⟩).keep ⟨by simp [World.setCell],fun k hk=>Below.heap_setCell _ _ _ k (fun e=>hnF3e (by have e : k = ws.heap.size + 1:=e;rw [← e];exact hk))⟩,k10.far (p:=⟨ws.heap.size + 1,0,none⟩) (fun e=>hEb e.symm) _,s3.sw.nb⟩,(hev.setT kS (by decide) (by decide) 4 _).setT ke10 (by decide) (by decide) 0 _,by rw [List.map_append,List.map_cons,List.map_nil,hz],?_,fun k hk=>(s3.sw.grows k hk).imp id fun q=>by have:=hbw.size;omega,fun k hk=>by
      rcases hk with q | ⟨y,hy,q⟩
      · rcases hmv with e | e
        · exact .inl (.inl (by rw [← e];exact q))
        · exact .inr (by have:=e k q;have:=hbw3.size;omega)
      · rcases List.mem_append.1 hy with e | e
        · exact .inl (.inr ⟨y,e,q⟩)
        · rw [List.mem_singleton.1 e] at q
          exact .inr (by have:=hzb k q;have:=hbw3.size;omega)⟩
    refine Only.setCell (Only.setCell ?_ (.inl (.inr (.inl rfl))) _) (.inr (by show ws.heap.size≤ws.heap.size + 1;omega)) _;exact (hbw3.mono (G:=fun k=>F k∨k = b∨A.map (·.block) = some k) fun k hk=>.inl (by rcases hk with q | q;exact .inl q;exact .inr (.inl q))).trans (HO.out.mono (G:=fun k=>F k∨k = b∨A.map (·.block) = some k) fun k hk=>.inl (.inr (.inr hk))) (Grows.refl _ _)
  have HFIN:=Lib.hid hfin;have HKE:=Lib.hid ke10;clear hfin k10 ke10 o9 hz hown hmv hzb HOW c4 hnF3e kS ke;go_wp2_with fail;have c9 : World.cell? _ _ = some (.int .i64 0):=(HKE.out.set_ 0 (.int .i64 0)).cell 0;refine leaves_cons (f:=38) (args:=#[.pointer (some ⟨ws.heap.size + 1,0,none⟩)]) (by simp) (by simp [go_sem]) ?_;refine (caught_none _ _).mono ?_;rintro e u' w'' ⟨rfl,rfl,rfl⟩;refine ⟨.int .i64 0,by simp [results,Tryz.results18,go_sem,c9],?_⟩;rw [HD.out];exact ⟨rfl,HFIN.out⟩
end Sto.Stp
end Go.Proofs.YtfpenfgmpbdakaaGreat

namespace Go.Proofs.YtfpenfgmpbdakaaGreat
set_option linter.unusedVariables false
set_option linter.unusedSimpArgs false
set_option maxRecDepth 100000
open Go.RowKit
open Dot Evt
open Disk
namespace Sto.Stp
open _root_.Go.Proofs.YtfpenfgmpbdakaaGreat.Log (writeM)
open _root_.Go.Proofs.YtfpenfgmpbdakaaGreat.Frame (frm frms frms_nil frms_cons frms_snoc frms_append frm_length frm_pos Parts AllF)
section
variable {w w0 w1 w2 : World} {F F1 G : Nat→Prop} {b g size base n c : Nat} {A : Option Addr} {xs : List EvV} {S : Sd} {l : Db}
def REOp (w : World) (F : Nat→Prop) (b g size base : Nat) (A : Option Addr) (xs : List EvV) (S : Sd) (evs : List Ev) (w' : World) : Prop :=
  ∃ F' A' n' c' xs',RStoAt w' F' b g size S (.slice A' n' c')∧EvsAt w' F' b base A' n' c' xs'∧xs'.map (·.e) = evs∧Only (fun k=>F k∨k = b∨A.map (·.block) = some k) w w'∧Grows F F' w∧∀ k,EvF A' xs' k→EvF A xs k∨w.heap.size≤k
structure RSE (w : World) (F : Nat→Prop) (b g size : Nat) (S : Sd) (base : Nat) (A : Option Addr) (n c : Nat) (xs : List EvV) (F1 : Nat→Prop) (w1 : World) : Prop where
  sw : RSW w F b g size S (.slice A n c) F1 w1
  ev : EvsAt w1 F1 b base A n c xs
theorem RSE.start (h : RStoAt w F b g size S (.slice A n c)) (he : EvsAt w F b base A n c xs) : RSE w F b g size S base A n c xs F w:=⟨h.sw,he⟩
theorem RSE.below (h : RSE w F b g size S base A n c xs F1 w1) (hb : Below w1.heap.size w1 w2) : RSE w F b g size S base A n c xs F1 w2:=⟨h.sw.below hb,h.ev.below hb⟩
theorem RSE.op (h : RSE w F b g size S base A n c xs F1 w1) (ho : RefOpD w1 F1 g size l w2) : ∃ F2,RSE w F b g size { S with b:=l } base A n c xs F2 w2:=by
  have hs:=h.sw;obtain ⟨F2,o1,o2,o3⟩:=ho;refine ⟨F2,⟨o1,hs.blk.only o2 hs.nb,?_,?_,hs.nf,hs.lt,hs.fl⟩,h.ev.only o2 o3 (fun k q=>.inl q)⟩
  · refine hs.only.trans (o2.mono (G:=fun k=>F1 k∨k = b) fun k hk=>.inl (.inl hk)) fun k hk=>?_
    rcases hk with hk | hk
    · rcases hs.grows k hk with q | q
      · exact .inl (.inl q)
      · exact .inr q
    · exact .inl (.inr hk)
  · exact hs.grows.trans o3 hs.only.size
theorem RSE.fin (h : RSE w0 F b g size S base A n c xs F1 w1) (hb : Below w.heap.size w w0) : REOp w F b g size base A xs S (xs.map (·.e)) w1:=by
  have hs:=h.sw;refine ⟨F1,A,n,c,xs,⟨hs.disk,hs.blk,hs.nb⟩,h.ev,rfl,?_,fun k hk=>(hs.grows k hk).imp id fun x=>by have:=hb.size;omega,fun k hk=>.inl hk⟩;exact ((Only.of_below _ hb).trans hs.only (Grows.refl _ _)).mono (fun k hk=>.inl (by rcases hk with x | x;exact .inl x;exact .inr (.inl x)))
end
def RKeepEnd (w : World) (F : Nat→Prop) (b g size base : Nat) (A : Option Addr) (xs : List EvV) (r : Nat × Sd × List Ev) (e : Ending) (w' : World) : Prop:=e = .returned (.int .i64 (r.1 : Nat))∧REOp w F b g size base A xs r.2.1 r.2.2 w'
set_option maxHeartbeats 8000000 in
theorem rkeep_any (x : EvV) (S : Sd) (F : Nat→Prop) (b g size base : Nat) (A : Option Addr) (n c : Nat) (xs : List EvV) (ws : World) (h : RStoAt ws F b g size S (.slice A n c)) (he : EvsAt ws F b base A n c xs) (hx : ∀ w',Only (fun k=>F k∨k = b) ws w'→EvOk w' w'.heap.size x) (hm : x.m≤100000) (hn : n≤100000) (hB : base≤ws.heap.size) (hs0 : size≤16384) (hl : S.b.length≤16384) :
    Calls Tryz.prog 20 #[.pointer (some ⟨b,0,none⟩),.agg x.cs] ws (RKeepEnd ws F b g size base A xs (keepD size S (xs.map (·.e)) x.e)):=by
  have hlt : b < ws.heap.size:=h.2.1.lt;have hf : ∀ k,F k→k < ws.heap.size:=h.1.lt;obtain ⟨cs,hcs⟩ : ∃ cs,cs = x.cs:=⟨_,rfl⟩;have SZ:=Lib.hid (show cs.size = 14 by rw [hcs];rfl);have X0:=Lib.hid (show cs[0]? = some (.int .i64 x.e.d.1) by rw [hcs];rfl);have X1:=Lib.hid (show cs[1]? = some (.int .i64 x.e.d.2) by rw [hcs];rfl);have HCS:=Lib.hid hcs;rw [← hcs];obtain ⟨w0,hw0⟩ : ∃ w0,w0 = ws.alloc (.cells cs 47):=⟨_,rfl⟩
  have hbw : Below ws.heap.size ws w0:=by rw [hw0];exact (Below.refl _ _).alloc (Nat.le_refl _) _
  have kE : Blk w0 ws.heap.size 47 cs:=by rw [hw0];exact Blk.new ws _ _
  have s0:=RSE.start (h.below hbw) (he.below hbw)
  have HX:=Lib.hid fun (w' : World) (hb : Below ws.heap.size ws w')=>hx w' (Only.of_below _ hb)
  have HXO:=Lib.hid hx
  have hnFe : ¬ F ws.heap.size:=fun q=>by have:=hf _ q;omega
  have HXM:=Lib.hid hm;have HP7:=Lib.hid (hx ws (Only.refl _ _)).1;have HNX:=Lib.hid he.row.1;have HAL:=Lib.hid he.lt.1;clear h he hx hm hcs
  go_enter Tryz.func20,Tryz.ntmps20
  go_upto_region 1 with fail
  rw [← hw0];have HW0:=Lib.hid hw0
  have HT:=Lib.hid (by
    have hok:=HX.out w0 hbw
    have:=eright07_any x.e HP7.out x.A x.m x.c w0 hok.2.1 (by have:=HXM.out;omega)
    rw [show ec x.e (.slice x.A x.m x.c) = x.cs from rfl,← HCS.out] at this
    exact this : Calls Tryz.prog 55 #[.agg cs] w0 fun e w'=>e = .returned (.bool (rightE x.e))∧Below w0.heap.size w0 w')
  clear hw0
  cases hr : rightE x.e
  case false =>
    have hd : keepD size S (xs.map (·.e)) x.e = (2,S,xs.map (·.e)):=by unfold keepD;rw [hr];rfl
    have HD:=Lib.hid hd;rw [hr] at HT;clear hd hr
    go_wp2_with ((with_reducible refine wpList_ld rowE kE SZ.out ?_ ?_);rotate_left;(rfl))
    refine HT.out.mono ?_;rintro e w1 ⟨rfl,b1⟩;have HS1:=Lib.hid (s0.below b1);clear s0 kE;go_wp2_with fail;go_ret;rw [HD.out];exact ⟨rfl,HS1.out.fin hbw⟩
  obtain ⟨R,hR⟩ : ∃ R,R = hasE (xs.map (·.e)) x.e.d:=⟨_,rfl⟩;have HR:=Lib.hid (And.intro hr hR);rw [hr] at HT;clear hr hR
  go_wp2_with ((with_reducible refine wpList_ld rowE kE SZ.out ?_ ?_);rotate_left;(rfl))
  refine HT.out.mono ?_;rintro e w1 ⟨rfl,b2⟩;have kE1:=kE.below b2 kE.lt;have s1:=s0.below b2;have c4 : w1.cell? ⟨b,4,none⟩ = some (.slice A n c):=s1.sw.blk.cell 4;have hlb:=s1.sw.blk.lt;have HS1:=Lib.hid s1
  have HHAS:=Lib.hid fun (w' : World) (hb : Below w1.heap.size w1 w')=>(by
    have hs:=HS1.out.below hb
    have:=rhas_any A n c xs x.e.d.1 x.e.d.2 w' (hs.ev.row.row (fun y hy=>(hs.ev.own y hy).ok)) (by omega)
    rw [show ((x.e.d.1,x.e.d.2) : Dt) = x.e.d from rfl,← HR.out.2] at this
    exact this : Calls Tryz.prog 45 #[.slice A n c,.agg #[.int .i64 x.e.d.1,.int .i64 x.e.d.2]] w' fun e w''=>e = .returned (.bool R)∧Below w'.heap.size w' w'')
  have HD2:=Lib.hid (ev_dot (w:=w1) kE1 X0.out X1.out);have hlE:=kE1.lt;clear b2 HT kE s0 s1
  go_upto_region 3 with fail
  refine wp_region_tailF 9 6 (fun L v w=>v 0 = .pointer (some ⟨b,0,none⟩)∧v 3 = .pointer (some ⟨ws.heap.size,0,none⟩)∧Below w1.heap.size w1 w∧(L 0 = true→v 9 = .pointer (some ⟨b,0,none⟩))∧(L 1 = true→v 10 = .pointer (some ⟨b,0,none⟩))∧(L 2 = true→v 11 = .pointer (some ⟨b,4,none⟩))∧(L 3 = true→v 12 = .slice A n c)∧(L 4 = true→v 13 = .pointer (some ⟨ws.heap.size,0,none⟩))∧(L 5 = true→v 14 = .agg #[.int .i64 x.e.d.1,.int .i64 x.e.d.2])) [9,10,11,12,13,14] (by kernel_rfl) (by kernel_rfl) (by kernel_rfl) (by kernel_rfl) (by kernel_rfl) (by kernel_rfl) ?h0 ?hst ?hend
  case h0 =>
    intro L h0;have h0 : ∀ i,i < 6→L i = false:=h0;exact ⟨rfl,rfl,(Below.refl _ _).drew,offF h0 (i:=0) (by decide),offF h0 (i:=1) (by decide),offF h0 (i:=2) (by decide),offF h0 (i:=3) (by decide),offF h0 (i:=4) (by decide),offF h0 (i:=5) (by decide)⟩
  case hst =>
    show FactSteps _ _ _ _ [0,1,2,3,4,5]
    refine @FactSteps.cons _ _ _ _ 0 _ [] _ rfl (by kernel_rfl) ?s0 ?_;rotate_left;refine @FactSteps.cons _ _ _ _ 1 _ [0] _ rfl (by kernel_rfl) ?s1 ?_;rotate_left;refine @FactSteps.cons _ _ _ _ 2 _ [1] _ rfl (by kernel_rfl) ?s2 ?_;rotate_left;refine @FactSteps.cons _ _ _ _ 3 _ [2] _ rfl (by kernel_rfl) ?s3 ?_;rotate_left;refine @FactSteps.cons _ _ _ _ 4 _ [] _ rfl (by kernel_rfl) ?s4 ?_;rotate_left;refine @FactSteps.cons _ _ _ _ 5 _ [4] _ rfl (by kernel_rfl) ?s5 ?_;rotate_left;exact FactSteps.nil
    case s0 =>
      rintro L a v w hv hg hL hd hcl ⟨e0,e3,hb,f0,f1,f2,f3,f4,f5⟩ K hK;refine step_do rfl ?_;clear hv;go_simp;exact hK.out _ _ ⟨e0,e3,hb,fun _=>rfl,f1,f2,f3,f4,f5⟩
    case s1 =>
      rintro L a v w hv hg hL hd hcl ⟨e0,e3,hb,f0,f1,f2,f3,f4,f5⟩ K hK;have g0:=f0 (hd 0 (by decide));have g0:=f0 (hd 0 (by decide));refine step_do rfl ?_;clear hv;go_simp;exact hK.out _ _ ⟨e0,e3,hb,f0,fun _=>rfl,f2,f3,f4,f5⟩
    case s2 =>
      rintro L a v w hv hg hL hd hcl ⟨e0,e3,hb,f0,f1,f2,f3,f4,f5⟩ K hK;have g1:=f1 (hd 1 (by decide));have g1:=f1 (hd 1 (by decide));refine step_do rfl ?_;clear hv;go_simp;exact hK.out _ _ ⟨e0,e3,hb,f0,f1,fun _=>rfl,f3,f4,f5⟩
    case s3 =>
      rintro L a v w hv hg hL hd hcl ⟨e0,e3,hb,f0,f1,f2,f3,f4,f5⟩ K hK;have g2:=f2 (hd 2 (by decide));have g2:=f2 (hd 2 (by decide));have cs4 : w.cell? ⟨b,4,none⟩ = some (.slice A n c):=(hb.cell (p:=⟨b,4,none⟩) hlb).trans c4;refine step_do rfl ?_;clear hv;go_simp;exact hK.out _ _ ⟨e0,e3,hb,f0,f1,f2,fun _=>rfl,f4,f5⟩
    case s4 =>
      rintro L a v w hv hg hL hd hcl ⟨e0,e3,hb,f0,f1,f2,f3,f4,f5⟩ K hK;refine step_do rfl ?_;clear hv;go_simp;exact hK.out _ _ ⟨e0,e3,hb,f0,f1,f2,f3,fun _=>rfl,f5⟩
    case s5 =>
      rintro L a v w hv hg hL hd hcl ⟨e0,e3,hb,f0,f1,f2,f3,f4,f5⟩ K hK;have g4:=f4 (hd 4 (by decide));refine step_do rfl ?_;refine wp_ldr rowDt2 (.tmp 13) rfl ((hv 13).trans g4) (range_keep HD2.out hb hlE) rfl ?_;exact hK.out _ _ ⟨e0,e3,hb,f0,f1,f2,f3,f4,fun _=>rfl⟩
  case hend =>
  rintro L v w2 hall ⟨e0,e3,hb,f0,f1,f2,f3,f4,f5⟩;have hL : ∀ i,i < 6→L i = true:=hall;have f0:=f0 (hL 0 (by decide));have f1:=f1 (hL 1 (by decide));have f2:=f2 (hL 2 (by decide));have f3:=f3 (hL 3 (by decide));have f4:=f4 (hL 4 (by decide));have f5:=f5 (hL 5 (by decide))
  simp only [finA,List.foldl_cons,List.foldl_nil,Act.put,List.setIfInBounds_toArray,List.set_cons_succ,List.set_cons_zero,f0,f1,f2,f3,f4,f5]
  have kE2:=kE1.below hb kE1.lt;have s2:=HS1.out.below hb;have hhas:=HHAS.out w2 hb;clear e0 e3 f0 f1 f2 f3 f4 f5 hL hall hb
  show wpList _ _ _ [_] _ _
  clear HHAS c4 hlb HD2 hlE HS1 kE1;go_wp2_with fail;refine hhas.mono ?_;rintro e w4 ⟨rfl,b4⟩;have s4:=s2.below b4;have kE4:=kE2.below b4 kE2.lt;have HS4:=Lib.hid s4;clear hhas s2 kE2 s4 b4
  cases R
  case true =>
    have hd : keepD size S (xs.map (·.e)) x.e = (9,S,xs.map (·.e)):=by unfold keepD;rw [if_neg (by rw [HR.out.1];decide),if_pos HR.out.2.symm]
    have HD:=Lib.hid hd;clear hd;go_wp2_with fail;go_ret;rw [HD.out];exact ⟨rfl,HS4.out.fin hbw⟩
  have c0 : w4.cell? ⟨b,0,none⟩ = some (.pointer (some ⟨g,0,none⟩)):=HS4.out.sw.blk.cell 0;have hlb:=HS4.out.sw.blk.lt;have hw04 : Below ws.heap.size ws w4∨True:=.inr trivial
  have HRC:=Lib.hid fun (w : World) (hb : Below w4.heap.size w4 w)=>(by
    have hs:=HS4.out.below hb;have hok:=HXO.out w ((Only.of_below (fun k=>F k∨k = b) hbw).trans hs.sw.only (Grows.refl _ _))
    have:=rrecord_any x w hok HR.out.1 (by have:=HXM.out;omega)
    rw [← HCS.out] at this
    exact this : Calls Tryz.prog 56 #[.agg cs] w (GiveB w (told3 x.e)))
  clear hw04
  go_upto_region 5 with fail
  refine wp_region_tailF 9 6 (fun L v w=>v 3 = .pointer (some ⟨ws.heap.size,0,none⟩)∧v 0 = .pointer (some ⟨b,0,none⟩)∧Below w4.heap.size w4 w∧(L 0 = true→v 16 = .pointer (some ⟨b,0,none⟩))∧(L 1 = true→v 17 = .pointer (some ⟨b,0,none⟩))∧(L 2 = true→v 18 = .pointer (some ⟨b,0,none⟩))∧(L 3 = true→v 19 = .pointer (some ⟨g,0,none⟩))∧(L 4 = true→v 20 = .agg cs)∧(L 5 = true→(∃ A1 n1 c1,v 21 = .slice A1 n1 c1∧OwnB w w4.heap.size A1 n1 c1 (told3 x.e)))) [16,17,18,19,20,21] (by kernel_rfl) (by kernel_rfl) (by kernel_rfl) (by kernel_rfl) (by kernel_rfl) (by kernel_rfl) ?h0 ?hst ?hend
  case h0 =>
    intro L h0;have h0 : ∀ i,i < 6→L i = false:=h0;exact ⟨rfl,rfl,(Below.refl _ _).drew,offF h0 (i:=0) (by decide),offF h0 (i:=1) (by decide),offF h0 (i:=2) (by decide),offF h0 (i:=3) (by decide),offF h0 (i:=4) (by decide),offF h0 (i:=5) (by decide)⟩
  case hst =>
    show FactSteps _ _ _ _ [0,1,2,3,4,5]
    refine @FactSteps.cons _ _ _ _ 0 _ [] _ rfl (by kernel_rfl) ?s0 ?_;rotate_left;refine @FactSteps.cons _ _ _ _ 1 _ [0] _ rfl (by kernel_rfl) ?s1 ?_;rotate_left;refine @FactSteps.cons _ _ _ _ 2 _ [1] _ rfl (by kernel_rfl) ?s2 ?_;rotate_left;refine @FactSteps.cons _ _ _ _ 3 _ [2] _ rfl (by kernel_rfl) ?s3 ?_;rotate_left;refine @FactSteps.cons _ _ _ _ 4 _ [] _ rfl (by kernel_rfl) ?s4 ?_;rotate_left;refine @FactSteps.cons _ _ _ _ 5 _ [4] _ rfl (by kernel_rfl) ?s5 ?_;rotate_left;exact FactSteps.nil
    case s0 =>
      rintro L a v w hv hg hL hd hcl ⟨e3,e0,hb,f0,f1,f2,f3,f4,f5⟩ K hK;refine step_do rfl ?_;clear hv;go_simp;exact hK.out _ _ ⟨e3,e0,hb,fun _=>rfl,f1,f2,f3,f4,f5⟩
    case s1 =>
      rintro L a v w hv hg hL hd hcl ⟨e3,e0,hb,f0,f1,f2,f3,f4,f5⟩ K hK;have g0:=f0 (hd 0 (by decide));have g0:=f0 (hd 0 (by decide));refine step_do rfl ?_;clear hv;go_simp;exact hK.out _ _ ⟨e3,e0,hb,f0,fun _=>rfl,f2,f3,f4,f5⟩
    case s2 =>
      rintro L a v w hv hg hL hd hcl ⟨e3,e0,hb,f0,f1,f2,f3,f4,f5⟩ K hK;have g1:=f1 (hd 1 (by decide));have g1:=f1 (hd 1 (by decide));refine step_do rfl ?_;clear hv;go_simp;exact hK.out _ _ ⟨e3,e0,hb,f0,f1,fun _=>rfl,f3,f4,f5⟩
    case s3 =>
      rintro L a v w hv hg hL hd hcl ⟨e3,e0,hb,f0,f1,f2,f3,f4,f5⟩ K hK;have g2:=f2 (hd 2 (by decide));have g2:=f2 (hd 2 (by decide));have cs4 : w.cell? ⟨b,0,none⟩ = some (.pointer (some ⟨g,0,none⟩)):=(hb.cell (p:=⟨b,0,none⟩) hlb).trans c0;refine step_do rfl ?_;clear hv;go_simp;exact hK.out _ _ ⟨e3,e0,hb,f0,f1,f2,fun _=>rfl,f4,f5⟩
    case s4 =>
      rintro L a v w hv hg hL hd hcl ⟨e3,e0,hb,f0,f1,f2,f3,f4,f5⟩ K hK;refine step_do rfl ?_;refine wp_ld rowE (.tmp 3) rfl ((hv 3).trans e3) (kE4.below hb kE4.lt) SZ.out ?_;exact hK.out _ _ ⟨e3,e0,hb,f0,f1,f2,f3,fun _=>rfl,f5⟩
    case s5 =>
      rintro L a v w hv hg hL hd hcl ⟨e3,e0,hb,f0,f1,f2,f3,f4,f5⟩ K hK;have g4:=f4 (hd 4 (by decide));have hh:=HRC.out w hb;refine step_do rfl ?_;clear hv;go_simp;refine hh.mono ?_;rintro e wy ⟨A1,n1,c1,rfl,o1,bb⟩;exact hK.out _ _ ⟨e3,e0,(hb.trans (bb.mono hb.size)),f0,f1,f2,f3,f4,fun _=>⟨A1,n1,c1,rfl,o1.mono hb.size⟩⟩
  case hend =>
  rintro L v w5 hall ⟨e3,e0,hb,f0,f1,f2,f3,f4,f5⟩;have hL : ∀ i,i < 6→L i = true:=hall;have f0:=f0 (hL 0 (by decide));have f1:=f1 (hL 1 (by decide));have f2:=f2 (hL 2 (by decide));have f3:=f3 (hL 3 (by decide));have f4:=f4 (hL 4 (by decide));have f5:=f5 (hL 5 (by decide));obtain ⟨A2,n2,c2',q9,o2⟩:=f5
  simp only [finA,List.foldl_cons,List.foldl_nil,Act.put,List.setIfInBounds_toArray,List.set_cons_succ,List.set_cons_zero,f0,f1,f2,f3,f4,q9]
  have kE5:=kE4.below hb kE4.lt;have HS5:=Lib.hid (HS4.out.below hb);have HO2:=Lib.hid o2;clear e3 e0 f0 f1 f2 f3 f4 hL hall hb q9 o2
  show wpList _ _ _ [_,_] _ _
  clear HRC c0 hlb HS4 kE4;have hbw5 : Only (fun k=>F k∨k = b) ws w5:=(Only.of_below _ hbw).trans HS5.out.sw.only (Grows.refl _ _)
  by_cases hroom : S.b.length + (frm (told3 x.e)).length≤size
  case neg =>
    have hd : keepD size S (xs.map (·.e)) x.e = (7,S,xs.map (·.e)):=by unfold keepD;rw [if_neg (by rw [HR.out.1];decide),if_neg (by rw [← HR.out.2];decide),if_neg hroom]
    have hw : writeD size S.b (told3 x.e) = (7,S.b):=by rw [told3_write HP7.out HR.out.1,if_neg hroom]
    have HD:=Lib.hid hd;have HWR:=Lib.hid (rwrite_any A2 n2 c2' _ (told3 x.e) _ g size S.b w5 HS5.out.sw.disk hl hs0 HO2.out.rd (Nat.le_refl _) _ _ hw);clear hd hw hroom;go_wp2_with fail;refine HWR.out.mono ?_;rintro e w3 ⟨rfl,d3⟩;obtain ⟨F3,s3⟩:=HS5.out.op d3;have HS3:=Lib.hid s3;clear s3 d3 HWR;go_wp2_with fail;go_ret;rw [HD.out];exact ⟨rfl,HS3.out.fin hbw⟩
  have hd : keepD size S (xs.map (·.e)) x.e = (0,{ S with b:=S.b ++ frm (told3 x.e) },xs.map (·.e) ++ [x.e]):=by unfold keepD;rw [if_neg (by rw [HR.out.1];decide),if_neg (by rw [← HR.out.2];decide),if_pos hroom]
  have hw : writeD size S.b (told3 x.e) = (0,S.b ++ frm (told3 x.e)):=by rw [told3_write HP7.out HR.out.1,if_pos hroom]
  have HD:=Lib.hid hd;have HWR:=Lib.hid (rwrite_any A2 n2 c2' _ (told3 x.e) _ g size S.b w5 HS5.out.sw.disk hl hs0 HO2.out.rd (Nat.le_refl _) _ _ hw);clear hd hw hroom;go_wp2_with fail;refine HWR.out.mono ?_;rintro e w3 ⟨rfl,d3⟩;obtain ⟨F3,s3⟩:=HS5.out.op d3;have kE3:=RefOpD.kept d3 kE5 hnFe;have hbw3 : Only (fun k=>F k∨k = b) ws w3:=(Only.of_below _ hbw).trans s3.sw.only (Grows.refl _ _);have HS3:=Lib.hid s3;have c4 : w3.cell? ⟨b,4,none⟩ = some (.slice A n c):=s3.sw.blk.cell 4;have kS3:=s3.sw.blk
  have hnEA : ¬ A.map (·.block) = some ws.heap.size:=fun e=>Nat.lt_irrefl _ (HAL.out _ e)
  have hnbA : ¬ A.map (·.block) = some b:=own_ne s3.ev.row.2 kS3 (by decide);have hbase : base≤w3.heap.size:=Nat.le_trans hB hbw3.size
  have HOW:=Lib.hid fun (w : World) (hb : Below w3.heap.size w3 w)=>(by
    have:=rcopy07_any x w (HXO.out w (hbw3.then_below (hb.mono hbw3.size))) HXM.out
    rw [← HCS.out] at this
    exact this.mono (by
      rintro e w' ⟨A',c',rfl,o,b'⟩
      exact ⟨⟨x.e,A',x.m,c'⟩,rfl,rfl,⟨HP7.out,o,by show x.m≤_;have:=HXM.out;omega⟩,b'⟩) : Calls Tryz.prog 19 #[.agg cs] w fun e w'=>∃ z : EvV,e = .returned (.agg z.cs)∧z.e = x.e∧EvOwn w' w.heap.size z∧Below w.heap.size w w')
  clear d3 HWR HO2 s3
  go_upto_region 8 with fail
  refine wp_region_tailF 12 9 (fun L v w=>v 3 = .pointer (some ⟨ws.heap.size,0,none⟩)∧v 0 = .pointer (some ⟨b,0,none⟩)∧Only (fun k=>A.map (·.block) = some k) w3 w∧(L 8 = false→Below w3.heap.size w3 w)∧(L 0 = true→v 26 = .pointer (some ⟨b,0,none⟩))∧(L 1 = true→v 27 = .pointer (some ⟨b,0,none⟩))∧(L 2 = true→v 28 = .pointer (some ⟨b,0,none⟩))∧(L 3 = true→v 29 = .pointer (some ⟨b,4,none⟩))∧(L 4 = true→v 30 = .slice A n c)∧(L 5 = true→v 31 = .agg cs)∧(L 6 = true→(L 8 = false→∃ z : EvV,v 32 = .agg z.cs∧z.e = x.e∧EvOwn w w3.heap.size z))∧(L 7 = true→(L 8 = false→∃ (z : EvV) (gB : Nat),v 33 = .slice (some ⟨gB,0,none⟩) 1 1∧z.e = x.e∧EvOwn w w3.heap.size z∧Blk w gB 47 z.cs))∧(L 8 = true→KpRow w3 w base A n xs x.e (v 34))) [26,27,28,29,30,31,32,33,34] (by kernel_rfl) (by kernel_rfl) (by kernel_rfl) (by kernel_rfl) (by kernel_rfl) (by kernel_rfl) ?h0 ?hst ?hend
  case h0 =>
    intro L h0;have h0 : ∀ i,i < 9→L i = false:=h0;exact ⟨rfl,rfl,(Only.of_below _ (Below.refl _ _).drew),(fun _=>(Below.refl _ _).drew),offF h0 (i:=0) (by decide),offF h0 (i:=1) (by decide),offF h0 (i:=2) (by decide),offF h0 (i:=3) (by decide),offF h0 (i:=4) (by decide),offF h0 (i:=5) (by decide),offF h0 (i:=6) (by decide),offF h0 (i:=7) (by decide),offF h0 (i:=8) (by decide)⟩
  case hst =>
    show FactSteps _ _ _ _ [0,1,2,3,4,5,6,7,8]
    refine @FactSteps.cons _ _ _ _ 0 _ [] _ rfl (by kernel_rfl) ?s0 ?_;rotate_left;refine @FactSteps.cons _ _ _ _ 1 _ [] _ rfl (by kernel_rfl) ?s1 ?_;rotate_left;refine @FactSteps.cons _ _ _ _ 2 _ [1] _ rfl (by kernel_rfl) ?s2 ?_;rotate_left;refine @FactSteps.cons _ _ _ _ 3 _ [2] _ rfl (by kernel_rfl) ?s3 ?_;rotate_left;refine @FactSteps.cons _ _ _ _ 4 _ [3] _ rfl (by kernel_rfl) ?s4 ?_;rotate_left;refine @FactSteps.cons _ _ _ _ 5 _ [] _ rfl (by kernel_rfl) ?s5 ?_;rotate_left;refine @FactSteps.cons _ _ _ _ 6 _ [5] _ rfl (by kernel_rfl) ?s6 ?_;rotate_left;refine @FactSteps.cons _ _ _ _ 7 _ [6] _ rfl (by kernel_rfl) ?s7 ?_;rotate_left;refine @FactSteps.cons _ _ _ _ 8 _ [4,7,6] _ rfl (by kernel_rfl) ?s8 ?_;rotate_left;exact FactSteps.nil
    case s0 =>
      rintro L a v w hv hg hL hd hcl ⟨e3,e0,ho,hb8,f0,f1,f2,f3,f4,f5,f6,f7,f8⟩ K hK;refine step_do rfl ?_;clear hv;go_simp;exact hK.out _ _ ⟨e3,e0,ho,hb8,fun _=>rfl,f1,f2,f3,f4,f5,f6,f7,f8⟩
    case s1 =>
      rintro L a v w hv hg hL hd hcl ⟨e3,e0,ho,hb8,f0,f1,f2,f3,f4,f5,f6,f7,f8⟩ K hK;refine step_do rfl ?_;clear hv;go_simp;exact hK.out _ _ ⟨e3,e0,ho,hb8,f0,fun _=>rfl,f2,f3,f4,f5,f6,f7,f8⟩
    case s2 =>
      rintro L a v w hv hg hL hd hcl ⟨e3,e0,ho,hb8,f0,f1,f2,f3,f4,f5,f6,f7,f8⟩ K hK;have g1:=f1 (hd 1 (by decide));have g1:=f1 (hd 1 (by decide));refine step_do rfl ?_;clear hv;go_simp;exact hK.out _ _ ⟨e3,e0,ho,hb8,f0,f1,fun _=>rfl,f3,f4,f5,f6,f7,f8⟩
    case s3 =>
      rintro L a v w hv hg hL hd hcl ⟨e3,e0,ho,hb8,f0,f1,f2,f3,f4,f5,f6,f7,f8⟩ K hK;have g2:=f2 (hd 2 (by decide));have g2:=f2 (hd 2 (by decide));refine step_do rfl ?_;clear hv;go_simp;exact hK.out _ _ ⟨e3,e0,ho,hb8,f0,f1,f2,fun _=>rfl,f4,f5,f6,f7,f8⟩
    case s4 =>
      rintro L a v w hv hg hL hd hcl ⟨e3,e0,ho,hb8,f0,f1,f2,f3,f4,f5,f6,f7,f8⟩ K hK;have g3:=f3 (hd 3 (by decide));have g3:=f3 (hd 3 (by decide));have cs4 : w.cell? ⟨b,4,none⟩ = some (.slice A n c):=(kS3.only ho hnbA).cell 4;refine step_do rfl ?_;clear hv;go_simp;exact hK.out _ _ ⟨e3,e0,ho,hb8,f0,f1,f2,f3,fun _=>rfl,f5,f6,f7,f8⟩
    case s5 =>
      rintro L a v w hv hg hL hd hcl ⟨e3,e0,ho,hb8,f0,f1,f2,f3,f4,f5,f6,f7,f8⟩ K hK;refine step_do rfl ?_;refine wp_ld rowE (.tmp 3) rfl ((hv 3).trans e3) (kE3.only ho hnEA) SZ.out ?_;exact hK.out _ _ ⟨e3,e0,ho,hb8,f0,f1,f2,f3,f4,fun _=>rfl,f6,f7,f8⟩
    case s6 =>
      rintro L a v w hv hg hL hd hcl ⟨e3,e0,ho,hb8,f0,f1,f2,f3,f4,f5,f6,f7,f8⟩ K hK;have g5:=f5 (hd 5 (by decide));have c8 : L 8 = false:=off_of hcl (j:=8) (by kernel_rfl : waitsAt _ 8 = [4,7,6]) (d:=6) (by decide) hL;have how:=HOW.out w (hb8 c8);refine step_do rfl ?_;clear hv;go_simp;refine how.mono ?_;rintro e wy ⟨z,rfl,hz,oz,bb⟩;exact hK.out _ _ ⟨e3,e0,(ho.then_below (bb.mono ho.size)),(fun _=>(hb8 c8).trans (bb.mono (hb8 c8).size)),f0,f1,f2,f3,f4,f5,fun _ _=>⟨z,rfl,hz,oz.1,oz.2.1.mono (hb8 c8).size,oz.2.2⟩,(fun h h8=>(by obtain ⟨z,gB,e,hz,o,k⟩:=f7 h h8;exact ⟨z,gB,e,hz,⟨o.1,o.2.1.below bb (Nat.le_refl _),o.2.2⟩,k.below bb k.lt⟩)),(offC c8)⟩
    case s7 =>
      rintro L a v w hv hg hL hd hcl ⟨e3,e0,ho,hb8,f0,f1,f2,f3,f4,f5,f6,f7,f8⟩ K hK;have c8 : L 8 = false:=off_of hcl (j:=8) (by kernel_rfl : waitsAt _ 8 = [4,7,6]) (d:=7) (by decide) hL;obtain ⟨z,q6,hz,oz⟩:=f6 (hd 6 (by decide)) c8;have q6:=(hv 32).trans q6;have bb : Below w.heap.size w (w.alloc (.cells z.cs 47)):=(Below.refl _ _).alloc (Nat.le_refl _) _;refine step_do rfl ?_;refine step_bs (v:=.slice (some ⟨w.heap.size,0,none⟩) 1 1) (w':=w.alloc (.cells z.cs 47)) 48 1 #[(0,.tmp 32)] rfl (by simp only [List.map_toArray,List.map_cons,List.map_nil,q6];exact buildE1 z w) ?_;exact hK.out _ _ ⟨e3,e0,(ho.then_below (bb.mono ho.size)),(fun _=>(hb8 c8).trans (bb.mono (hb8 c8).size)),f0,f1,f2,f3,f4,f5,(fun h h8=>(by obtain ⟨z,e,hz,o⟩:=f6 h h8;exact ⟨z,e,hz,o.1,o.2.1.below bb (Nat.le_refl _),o.2.2⟩)),fun _ _=>⟨z,w.heap.size,rfl,hz,⟨oz.1,oz.2.1.below bb (Nat.le_refl _),oz.2.2⟩,Blk.new w _ _⟩,(offC c8)⟩
    case s8 =>
      rintro L a v w hv hg hL hd hcl ⟨e3,e0,ho,hb8,f0,f1,f2,f3,f4,f5,f6,f7,f8⟩ K hK;have g4:=f4 (hd 4 (by decide));obtain ⟨z,gB,q7,hz,oz,kB⟩:=f7 (hd 7 (by decide)) hL;have hbx:=hb8 hL;have evx:=HS3.out.ev.below hbx;refine step_do rfl ?_;refine step_appE (.tmp 30) (.tmp 33) rfl ((hv 30).trans g4) evx.row ((hv 33).trans q7) (news:=[z]) (B:=gB + 1) (by rw [show ecsL [z] = z.cs.toList by simp [ecsL]];exact Blk.rdMg kB) rfl (by omega) (Nat.le_trans hbase hbx.size) ?_;intro A9 c9 w9 o9 g9 m9 b9
      have kp : KpRow w3 w9 base A n xs x.e (.slice A9 (n + 1) c9):=⟨A9,c9,z,rfl,o9,hz,fun y hy=>(by
          rcases List.mem_append.1 hy with q | q
          · exact ⟨(evx.own y q).1,(evx.own y q).2.1.grown g9 (own2_ne (evx.own y q).2.1.2 evx.row.2 (by decide)),(evx.own y q).2.2⟩
          · rw [List.mem_singleton.1 q];exact ⟨oz.1,(oz.2.1.mono hbase).grown g9 (own2_ne oz.2.1.2 evx.row.2 (by decide)),oz.2.2⟩),(by
          rcases m9 with q | q
          · exact .inl q
          · exact .inr (fun k hk=>by rw [q] at hk;injection hk with hk;rw [← hk];exact hbx.size)),fun k hk=>(oz.2.1.lt k hk).1⟩
      exact hK.out _ _ ⟨e3,e0,(ho.trans (only_row g9) (Grows.refl _ _)),(fun h=>(by cases h)),f0,f1,f2,f3,f4,f5,(fun _ h=>(by cases h)),(fun _ h=>(by cases h)),fun _=>kp⟩
  case hend =>
  rintro L v we hall ⟨e3,e0,ho,hb8,f0,f1,f2,f3,f4,f5,f6,f7,f8⟩;have hL : ∀ i,i < 9→L i = true:=hall;have f0:=f0 (hL 0 (by decide));have f1:=f1 (hL 1 (by decide));have f2:=f2 (hL 2 (by decide));have f3:=f3 (hL 3 (by decide));have f4:=f4 (hL 4 (by decide));have f5:=f5 (hL 5 (by decide));have f6:=f6 (hL 6 (by decide));have f7:=f7 (hL 7 (by decide));have f8:=f8 (hL 8 (by decide));obtain ⟨A9,c9,z,q8,o9,hz,hown,hmv,hzb⟩:=f8
  simp only [finA,List.foldl_cons,List.foldl_nil,Act.put,List.setIfInBounds_toArray,List.set_cons_succ,List.set_cons_zero,f0,f1,f2,f3,f4,f5,q8]
  have kS:=kS3.only ho hnbA;have HO:=Lib.hid ho;clear e3 e0 f0 f1 f2 f3 f4 f5 f6 f7 hL hall ho hb8 q8
  show wpList _ _ _ [_,_,_] _ _
  have c4e : we.cell? ⟨b,4,none⟩ = some (.slice A n c):=kS.cell 4;have u4e:=kS.free 4;have hlb:=kS.lt;have k10:=kS.set_ 4 (.slice A9 (n + 1) c9)
  have hfin : REOp ws F b g size base A xs { S with b:=S.b ++ frm (told3 x.e) } (xs.map (·.e) ++ [x.e]) (we.setCell ⟨b,4,none⟩ (.slice A9 (n + 1) c9)):=by
    have s3:=HS3.out;have hl3:=s3.ev.lt;have hd3 : Keeps F3 w3 we:=HO.out.keeps (fun k hk q=>(s3.ev.nf k q).1 hk) s3.sw.disk.lt
    have hev : EvsAt we F3 b base A9 (n + 1) c9 (xs ++ [z]):=⟨o9,hown,fun k hk=>by
      rcases hmv with q | q
      · exact s3.ev.nf k (by rw [← q];exact hk)
      · have h9:=q k hk
        exact ⟨fun y=>by have:=s3.sw.disk.lt k y;omega,by have:=kS3.lt;omega⟩,fun y hy k hk=>by
      rcases List.mem_append.1 hy with q | q
      · exact s3.ev.nfx y q k hk
      · rw [List.mem_singleton.1 q] at hk
        have h9:=hzb k hk
        exact ⟨fun y=>by have:=s3.sw.disk.lt k y;omega,by have:=kS3.lt;omega⟩⟩
    have hbF : ∀ k,F3 k→k ≠ b:=fun k hk e=>s3.sw.nb (by rw [← e];exact hk)
    refine ⟨F3,A9,n + 1,c9,xs ++ [z],⟨(s3.sw.disk.keep hd3).keep ⟨by simp [World.setCell],fun k hk=>Below.heap_setCell we _ _ k (hbF k hk)⟩,k10,s3.sw.nb⟩,hev.setT kS (by decide) (by decide) 4 _,by rw [List.map_append,List.map_cons,List.map_nil,hz],?_,fun k hk=>(s3.sw.grows k hk).imp id fun q=>by have:=hbw.size;omega,fun k hk=>by
      rcases hk with q | ⟨y,hy,q⟩
      · rcases hmv with e | e
        · exact .inl (.inl (by rw [← e];exact q))
        · exact .inr (by have:=e k q;have:=hbw3.size;omega)
      · rcases List.mem_append.1 hy with e | e
        · exact .inl (.inr ⟨y,e,q⟩)
        · rw [List.mem_singleton.1 e] at q
          exact .inr (by have:=hzb k q;have:=hbw3.size;omega)⟩
    refine Only.setCell ?_ (.inl (.inr (.inl rfl))) _;exact (hbw3.mono (G:=fun k=>F k∨k = b∨A.map (·.block) = some k) fun k hk=>.inl (by rcases hk with q | q;exact .inl q;exact .inr (.inl q))).trans (HO.out.mono (G:=fun k=>F k∨k = b∨A.map (·.block) = some k) fun k hk=>.inl (.inr (.inr hk))) (Grows.refl _ _)
  have HFIN:=Lib.hid hfin;clear hfin k10 o9 hz hown hmv hzb HOW c4 kS;go_wp2_with fail;go_ret;rw [HD.out];exact ⟨rfl,HFIN.out⟩
end Sto.Stp
end Go.Proofs.YtfpenfgmpbdakaaGreat

namespace Go.Proofs.YtfpenfgmpbdakaaGreat
set_option linter.unusedVariables false
set_option linter.unusedSimpArgs false
set_option maxRecDepth 100000
open Go.RowKit
open Dot Evt
theorem rdfail_any (g : Nat) (x : Int) (w : World) :
    Calls Tryz.prog 123 #[.agg #[.pointer (some ⟨g,0,none⟩)],.int .i64 x] w fun e w'=>e = .panicked [{ v:=eflt x,recovered:=false }]∧Below w.heap.size w w':=by
  go_enter Tryz.func123,Tryz.ntmps123
  go_wp2_with fail;exact ⟨rfl,rfl,(Below.refl _ _).alloc (Nat.le_refl _) _⟩
theorem rdend_any (g : Nat) (A : Option Addr) (n c : Nat) (bs : List UInt8) (b : Bool) (w : World) (hR : Rdr w g A n c bs 0) :
    Calls Tryz.prog 113 #[.agg #[.pointer (some ⟨g,0,none⟩)],.bool b] w fun e w'=>(e = if bs = []∧b = true then .returned (.tuple #[]) else .panicked [{ v:=eflt 4,recovered:=false }])∧Below w.heap.size w w':=by
  have hn:=hR.2.1.1;have hR1 : Rdr (w.alloc (.cells #[.pointer (some ⟨g,0,none⟩)] 160)) g A n c bs 0:=hR.below ((Below.refl _ _).alloc (by have:=hR.lt;omega) _);have HR:=Lib.hid hR1;have hb0 : Below w.heap.size w (w.alloc (.cells #[.pointer (some ⟨g,0,none⟩)] 160)):=(Below.refl _ _).alloc (Nat.le_refl _) _
  by_cases h0 : n = 0
  · have hbs : bs = []:=List.eq_nil_of_length_eq_zero (by omega)
    subst h0
    cases b
    case true =>
      rw [if_pos ⟨hbs,rfl⟩];clear hn hR1 hbs hR
      go_enter Tryz.func113,Tryz.ntmps113
      go_wp2_with fail;refine (left_any g A 0 c bs 0 _ HR.out).mono ?_;rintro e w1 ⟨rfl,rfl⟩;go_wp2_with fail
      go_end0
      exact ⟨rfl,hb0⟩
    case false =>
      rw [if_neg (by simp)];clear hn hR1 hbs hR
      go_enter Tryz.func113,Tryz.ntmps113
      go_wp2_with fail;refine (left_any g A 0 c bs 0 _ HR.out).mono ?_;rintro e w1 ⟨rfl,rfl⟩;go_wp2_with fail;refine (rdfail_any g 4 _).mono ?_;rintro e w2 ⟨rfl,b2⟩;go_wp2_with fail;exact ⟨rfl,rfl,hb0.trans (b2.mono hb0.size)⟩
  · have hbs : ¬ bs = []:=fun e=>h0 (by rw [hn,e];rfl)
    have hd : decide (0 < (n : Int)) = true:=decide_eq_true (by omega);have hd2 : decide (0 < n) = true:=decide_eq_true (by omega);rw [if_neg (fun h=>hbs h.1)];clear hn hR1 hbs hR h0
    go_enter Tryz.func113,Tryz.ntmps113
    go_wp2_with fail;refine (left_any g A n c bs 0 _ HR.out).mono ?_;rintro e w1 ⟨rfl,rfl⟩;go_wp2_with fail;refine (rdfail_any g 4 _).mono ?_;rintro e w2 ⟨rfl,b2⟩;go_wp2_with fail;exact ⟨rfl,rfl,hb0.trans (b2.mono hb0.size)⟩
def GB (g b : Nat) : Nat→Prop:=fun k=>k = g∨k = b
def RNum (w : World) (g b : Nat) (T : TypeId) (cs : Array Value) (i : Nat) (bs : List UInt8) (e : Ending) (w' : World) : Prop :=
  Only (GB g b) w w'∧match Vint.dec bs with
    | .ok (x,r)=>e = .returned (.tuple #[])∧(∃ A c,Rdr w' g A r.length c r 0)∧Blk w' b T (cs.setIfInBounds i (.int .i64 (x : Nat)))
    | .error x=>e = .panicked [{ v:=eflt (x : Nat),recovered:=false }]
theorem RNum.good {w w' : World} {g b : Nat} {T : TypeId} {cs : Array Value} {i : Nat} {bs : List UInt8} {e : Ending} (h : RNum w g b T cs i bs e w') {x : Nat} {r : List UInt8} (hd : Vint.dec bs = .ok (x,r)) :
    e = .returned (.tuple #[])∧(∃ A c,Rdr w' g A r.length c r 0)∧Blk w' b T (cs.setIfInBounds i (.int .i64 (x : Nat)))∧Only (GB g b) w w':=by
  obtain ⟨h1,h2⟩:=h;rw [hd] at h2;exact ⟨h2.1,h2.2.1,h2.2.2,h1⟩
theorem RNum.bad {w w' : World} {g b : Nat} {T : TypeId} {cs : Array Value} {i : Nat} {bs : List UInt8} {e : Ending} (h : RNum w g b T cs i bs e w') {x : Nat} (hd : Vint.dec bs = .error x) :
    e = .panicked [{ v:=eflt (x : Nat),recovered:=false }]∧Only (GB g b) w w':=by
  obtain ⟨h1,h2⟩:=h;rw [hd] at h2;exact ⟨h2,h1⟩
theorem rdnum_any (g b : Nat) (T : TypeId) (cs : Array Value) (i : Nat) (A : Option Addr) (n c : Nat) (bs : List UInt8) (w : World) (hR : Rdr w g A n c bs 0) (hb : Blk w b T cs) (hgb : g < b) (hi : i < cs.size) :
    Calls Tryz.prog 163 #[.agg #[.pointer (some ⟨g,0,none⟩)],.pointer (some ⟨b,i,none⟩)] w (RNum w g b T cs i bs):=by
  obtain ⟨W,hW⟩ : ∃ W,W = w.alloc (.cells #[.pointer (some ⟨g,0,none⟩)] 160):=⟨_,rfl⟩;obtain ⟨s,hs⟩ : ∃ s,s = w.heap.size:=⟨_,rfl⟩
  have hBW : Below w.heap.size w W:=by rw [hW];exact (Below.refl _ _).alloc (Nat.le_refl _) _
  have hRW : Rdr W g A n c bs 0:=hR.below (hBW.mono (by have:=hR.lt;omega));have hbW:=hb.below hBW hb.lt
  have ks : Blk W s 160 #[.pointer (some ⟨g,0,none⟩)]:=by rw [hW,hs];exact Blk.new _ _ _
  have hbs : b < s:=by rw [hs];exact hb.lt
  have o0 : Only (GB g b) w W:=Only.of_below _ hBW;have HW:=Lib.hid hW;have HS:=Lib.hid hs;have HI:=Lib.hid hi;have ib:=int_any g A n c bs 0 W hRW;have HIB:=Lib.hid ib;clear hW hs hi hR hb ib;have hc0:=ks.cell 0
  go_enter Tryz.func163,Tryz.ntmps163
  go_upto_region 1 with fail
  rw [← HW.out,← HS.out];have hc0 : W.cell? ⟨s,0,none⟩ = some (.pointer (some ⟨g,0,none⟩)):=ks.cell 0;go_wp2_with fail;refine HIB.out.mono ?_;rintro e w1 ⟨rfl,g1,A1,c1,r1⟩;have b1:=hbW.grown g1 (by simp;omega);have s1:=ks.grown g1 (by simp;omega);have o1:=o0.trans (Only.of_grown (F:=GB g b) g1 (.inl rfl)) (Grows.refl _ _);have HI1:=HI.out
  have cb : w1.cell? ⟨b,i,none⟩ = some cs[i]:=by rw [b1.cell];exact Array.getElem?_eq_getElem HI1
  have fb:=b1.free i;have b2:=b1.set_ i (.int .i64 ((Vint.intM bs 0).1 : Nat));have s2:=s1.far (p:=⟨b,i,none⟩) (by simp;omega) (.int .i64 ((Vint.intM bs 0).1 : Nat));have r2:=r1.below (w':=w1.setCell ⟨b,i,none⟩ (.int .i64 ((Vint.intM bs 0).1 : Nat))) ((Below.refl _ _).setCell (by show g + 1≤b;omega) _);have o2:=o1.setCell (p:=⟨b,i,none⟩) (.inl (.inr rfl)) (.int .i64 ((Vint.intM bs 0).1 : Nat));clear hbW o0 o1 g1 r1 s1 HIB hBW hRW ks hc0
  generalize cs[i] = v at cb
  cases hd : Vint.dec bs with
  | ok p =>
    obtain ⟨x,r⟩:=p;have hI:=Vint.intM_ok hd;rw [hI] at b2 s2 r2 o2 ⊢;have HD:=Lib.hid hd;clear hd hI
    go_upto_region 2 with fail
    refine nameW ?_;intro w2 hw2;rw [← hw2] at b2 s2 r2 o2;have c2 : w2.cell? ⟨s,0,none⟩ = some (.pointer (some ⟨g,0,none⟩)):=s2.cell 0;clear hw2 cb fb b1;go_wp2_with fail;refine (err_any g A1 r.length c1 r 0 w2 r2).mono ?_;rintro e w3 ⟨rfl,rfl⟩;go_wp2_with fail
    go_end0
    refine ⟨o2,?_⟩;rw [HD.out];exact ⟨rfl,⟨A1,c1,r2⟩,b2⟩
  | error x =>
    have hI:=Vint.intM_bad hd;have hx:=Vint.dec_err hd;rw [hI] at b2 s2 r2 o2 ⊢;rw [show ((0 : Nat) : Int) = 0 from rfl] at b2 s2 r2 o2;have HD:=Lib.hid hd
    have hne : (((x : Nat) : Int) == 0) = false:=by rw [beq_eq_false_iff_ne];omega
    have hne2 : (((x : Nat) : Int) != 0) = true:=by rw [bne_iff_ne];omega
    clear hd hI hx
    go_upto_region 2 with fail
    refine nameW ?_;intro w2 hw2;rw [← hw2] at b2 s2 r2 o2;have c2 : w2.cell? ⟨s,0,none⟩ = some (.pointer (some ⟨g,0,none⟩)):=s2.cell 0;clear hw2 cb fb b1;go_wp2_with fail;refine (err_any g A1 _ c1 bs x w2 r2).mono ?_;rintro e w3 ⟨rfl,rfl⟩;go_wp2_with fail;refine (rdfail_any g x _).mono ?_;rintro e w4 ⟨rfl,b4⟩;go_wp2_with fail;refine ⟨rfl,o2.then_below (b4.mono o2.size),?_⟩;rw [HD.out]
end Go.Proofs.YtfpenfgmpbdakaaGreat

namespace Go.Proofs.YtfpenfgmpbdakaaGreat.Evt
set_option linter.unusedVariables false
set_option linter.unusedSimpArgs false
set_option maxRecDepth 100000
open Dot
def decs : Nat→List UInt8→Except Nat (List Nat × List UInt8)
  | 0,l=>.ok ([],l)
  | k + 1,l=>match Vint.dec l with
    | .error x=>.error x
    | .ok (n,r)=>match decs k r with
      | .error x=>.error x
      | .ok (ns,r')=>.ok (n :: ns,r')
def decD : Nat→List UInt8→Except Nat (List Dt × List UInt8)
  | 0,l=>.ok ([],l)
  | k + 1,l=>match decD k l with
    | .error x=>.error x
    | .ok (ds,r)=>match Vint.dec r with
      | .error x=>.error x
      | .ok (n,r1)=>match Vint.dec r1 with
        | .error x=>.error x
        | .ok (q,r2)=>.ok (ds ++ [((n : Int),(q : Int))],r2)
def decL (l : List UInt8) : Except Nat (List Dt × List UInt8) :=
  match Vint.dec l with
  | .error x=>.error x
  | .ok (m,r)=>if 96 < m then .error 6 else decD m r
def decK (n q t k wk : Nat) (l : List UInt8) : Except Nat (Ev × List UInt8) :=
  if k = 1 then
    match Vint.dec l with
    | .error x=>.error x
    | .ok (v,r)=>.ok (⟨((n : Int),(q : Int)),t,k,wk,v,p0,[]⟩,r)
  else if k = 2 then
    match decs 7 l with
    | .error x=>.error x
    | .ok (p,r)=>match decL r with
      | .error x=>.error x
      | .ok (ds,r')=>.ok (⟨((n : Int),(q : Int)),t,k,wk,0,p.map fun x : Nat=>(x : Int),ds⟩,r')
  else
    match decL l with
    | .error x=>.error x
    | .ok (ds,r')=>.ok (⟨((n : Int),(q : Int)),t,k,wk,0,p0,ds⟩,r')
def decE (l : List UInt8) : Except Nat (Ev × List UInt8) :=
  match Vint.dec l with
  | .error x=>.error x
  | .ok (n,l1)=>match Vint.dec l1 with
    | .error x=>.error x
    | .ok (q,l2)=>match Vint.dec l2 with
      | .error x=>.error x
      | .ok (t,l3)=>match Vint.dec l3 with
        | .error x=>.error x
        | .ok (k,l4)=>if 1≤k∧k≤3 then
            match Vint.dec l4 with
            | .error x=>.error x
            | .ok (wk,l5)=>decK n q t k wk l5
          else .error 4
theorem decs_len : ∀ (k : Nat) (l : List UInt8) (ns : List Nat) (r : List UInt8),decs k l = .ok (ns,r)→ns.length = k:=by
  intro k
  induction k with
  | zero=>intro l ns r h;simp [decs] at h;rw [h.1];rfl
  | succ k ih =>
    intro l ns r h
    unfold decs at h
    split at h
    · cases h
    · split at h
      · cases h
      · rename_i h2
        injection h with h
        injection h with h _
        rw [← h,List.length_cons,ih _ _ _ h2]
theorem decD_err {k : Nat} {l : List UInt8} {x : Nat} (h : decD k l = .error x) : ∀ m,k≤m→decD m l = .error x:=by
  intro m
  induction m with
  | zero => intro hk; obtain rfl : k = 0 := by omega
            exact h
  | succ m ih =>
    intro hk
    by_cases e : k = m + 1
    · rw [← e];exact h
    · rw [decD,ih (by omega)]
theorem decD_len : ∀ (k : Nat) (l : List UInt8) (ds : List Dt) (r : List UInt8),decD k l = .ok (ds,r)→ds.length = k:=by
  intro k
  induction k with
  | zero=>intro l ds r h;simp [decD] at h;rw [h.1];rfl
  | succ k ih =>
    intro l ds r h
    unfold decD at h
    split at h
    · cases h
    · rename_i h1
      split at h
      · cases h
      · split at h
        · cases h
        · injection h with h
          injection h with h _
          rw [← h,List.length_append,ih _ _ _ h1]
          rfl
end Go.Proofs.YtfpenfgmpbdakaaGreat.Evt

namespace Go.Proofs.YtfpenfgmpbdakaaGreat
set_option linter.unusedVariables false
set_option linter.unusedSimpArgs false
set_option maxRecDepth 100000
open Go.RowKit
open Dot Evt
abbrev rnumV (g : Nat) : Value:=.func (.method "murmur/event.number") #[.iface 160 (.agg #[.pointer (some ⟨g,0,none⟩)])] #[]
theorem gb_trans {g b : Nat} {w w1 w2 : World} (h : Only (GB g b) w w1) (k : Only (GB g b) w1 w2) : Only (GB g b) w w2:=h.trans k (Grows.refl _ _)
theorem gb_new {g b r : Nat} {w w1 w2 : World} (h : Only (GB g b) w w1) (k : Only (GB g r) w1 w2) (hr : w.heap.size≤r) : Only (GB g b) w w2:=h.trans k fun i hi=>by
  rcases hi with rfl | rfl
  · exact .inl (.inl rfl)
  · exact .inr hr
def PolR (w : World) (g b : Nat) (v0 v1 v2 v3 v4 v5 v13 : Value) (bs : List UInt8) (e : Ending) (w' : World) : Prop :=
  Only (GB g b) w w'∧((∃ x0 x1 x2 x3 x4 x5 x6 r,decs 7 bs = .ok ([x0,x1,x2,x3,x4,x5,x6],r)∧e = .returned (.tuple #[])∧(∃ A c,Rdr w' g A r.length c r 0) ∧
      Blk w' b 47 #[v0,v1,v2,v3,v4,v5,.int .i64 (x0 : Nat),.int .i64 (x1 : Nat),.int .i64 (x2 : Nat),.int .i64 (x3 : Nat),.int .i64 (x4 : Nat),.int .i64 (x5 : Nat),.int .i64 (x6 : Nat),v13])
   ∨∃ x,decs 7 bs = .error x∧e = .panicked [{ v:=eflt (x : Nat),recovered:=false }])
set_option maxRecDepth 100000 in
set_option maxHeartbeats 2000000 in
theorem polr_any (b g : Nat) (v0 v1 v2 v3 v4 v5 u0 u1 u2 u3 u4 u5 u6 v13 : Value) (A0 : Option Addr) (n0 c0 : Nat) (bs : List UInt8) (w : World) (h : Rdr w g A0 n0 c0 bs 0) (hb : Blk w b 47 #[v0,v1,v2,v3,v4,v5,u0,u1,u2,u3,u4,u5,u6,v13]) (hne : g < b) :
    Calls Tryz.prog 122 #[.pointer (some ⟨b,6,none⟩),rnumV g] w (PolR w g b v0 v1 v2 v3 v4 v5 v13 bs):=by
  have HGB:=Lib.hid hne;have hbl:=hb.lt
  have hm : ∀ w,(method 246 160 (.agg #[.pointer (some ⟨g,0,none⟩)]) "murmur/event.number").run Tryz.prog w = .ok (163,.agg #[.pointer (some ⟨g,0,none⟩)]) w:=fun w=>by kernel_rfl
  clear hne
  have hix0 : ∀ w,(Instr.index 188 (.agg #[.pointer (some ⟨b,6,none⟩),.pointer (some ⟨b,7,none⟩),.pointer (some ⟨b,8,none⟩),.pointer (some ⟨b,9,none⟩),.pointer (some ⟨b,10,none⟩),.pointer (some ⟨b,11,none⟩),.pointer (some ⟨b,12,none⟩)]) (.int .i64 0)).run Tryz.prog w = .ok (.pointer (some ⟨b,6,none⟩)) w:=fun w=>by kernel_rfl
  have hix1 : ∀ w,(Instr.index 188 (.agg #[.pointer (some ⟨b,6,none⟩),.pointer (some ⟨b,7,none⟩),.pointer (some ⟨b,8,none⟩),.pointer (some ⟨b,9,none⟩),.pointer (some ⟨b,10,none⟩),.pointer (some ⟨b,11,none⟩),.pointer (some ⟨b,12,none⟩)]) (.int .i64 1)).run Tryz.prog w = .ok (.pointer (some ⟨b,7,none⟩)) w:=fun w=>by kernel_rfl
  have hix2 : ∀ w,(Instr.index 188 (.agg #[.pointer (some ⟨b,6,none⟩),.pointer (some ⟨b,7,none⟩),.pointer (some ⟨b,8,none⟩),.pointer (some ⟨b,9,none⟩),.pointer (some ⟨b,10,none⟩),.pointer (some ⟨b,11,none⟩),.pointer (some ⟨b,12,none⟩)]) (.int .i64 2)).run Tryz.prog w = .ok (.pointer (some ⟨b,8,none⟩)) w:=fun w=>by kernel_rfl
  have hix3 : ∀ w,(Instr.index 188 (.agg #[.pointer (some ⟨b,6,none⟩),.pointer (some ⟨b,7,none⟩),.pointer (some ⟨b,8,none⟩),.pointer (some ⟨b,9,none⟩),.pointer (some ⟨b,10,none⟩),.pointer (some ⟨b,11,none⟩),.pointer (some ⟨b,12,none⟩)]) (.int .i64 3)).run Tryz.prog w = .ok (.pointer (some ⟨b,9,none⟩)) w:=fun w=>by kernel_rfl
  have hix4 : ∀ w,(Instr.index 188 (.agg #[.pointer (some ⟨b,6,none⟩),.pointer (some ⟨b,7,none⟩),.pointer (some ⟨b,8,none⟩),.pointer (some ⟨b,9,none⟩),.pointer (some ⟨b,10,none⟩),.pointer (some ⟨b,11,none⟩),.pointer (some ⟨b,12,none⟩)]) (.int .i64 4)).run Tryz.prog w = .ok (.pointer (some ⟨b,10,none⟩)) w:=fun w=>by kernel_rfl
  have hix5 : ∀ w,(Instr.index 188 (.agg #[.pointer (some ⟨b,6,none⟩),.pointer (some ⟨b,7,none⟩),.pointer (some ⟨b,8,none⟩),.pointer (some ⟨b,9,none⟩),.pointer (some ⟨b,10,none⟩),.pointer (some ⟨b,11,none⟩),.pointer (some ⟨b,12,none⟩)]) (.int .i64 5)).run Tryz.prog w = .ok (.pointer (some ⟨b,11,none⟩)) w:=fun w=>by kernel_rfl
  have hix6 : ∀ w,(Instr.index 188 (.agg #[.pointer (some ⟨b,6,none⟩),.pointer (some ⟨b,7,none⟩),.pointer (some ⟨b,8,none⟩),.pointer (some ⟨b,9,none⟩),.pointer (some ⟨b,10,none⟩),.pointer (some ⟨b,11,none⟩),.pointer (some ⟨b,12,none⟩)]) (.int .i64 6)).run Tryz.prog w = .ok (.pointer (some ⟨b,12,none⟩)) w:=fun w=>by kernel_rfl
  go_enter Tryz.func122,Tryz.ntmps122
  go_wp2_with fail
  go_region
  go_wp2_with fail;have h0 : Rdr w.drew g A0 n0 c0 bs 0:=h;have b0 : Blk w.drew b 47 #[v0,v1,v2,v3,v4,v5,u0,u1,u2,u3,u4,u5,u6,v13]:=hb;have o0 : Only (GB g b) w w.drew:=⟨rfl,rfl,rfl,Nat.le_refl _,fun _ _ _=>rfl⟩;have l0e : bs = bs:=rfl;clear h hb l0e;refine wp_loop_rounds 8 ?_;rw [rounds_succ];go_wp2_with fail;refine (rdnum_any g b 47 _ 6 A0 n0 c0 bs _ h0 b0 HGB.out (by simp)).mono ?_;intro e w1 hn
  rcases hd : Vint.dec bs with x | ⟨x0,l1⟩
  · obtain ⟨rfl,oo⟩:=hn.bad hd
    have HE:=Lib.hid (show decs 7 bs = .error x by simp [decs,hd]);have HO:=Lib.hid (gb_trans o0 oo);clear hd hn oo;go_wp2_with fail;exact ⟨rfl,HO.out,.inr ⟨x,HE.out,rfl⟩⟩
  obtain ⟨rfl,⟨A1,c1,h1⟩,bb,oo⟩:=hn.good hd;have b1 : Blk w1 b 47 #[v0,v1,v2,v3,v4,v5,.int .i64 (x0 : Nat),u1,u2,u3,u4,u5,u6,v13]:=bb;have o1:=gb_trans o0 oo;have HD0:=Lib.hid hd;clear hd hn oo bb h0 b0 o0;go_wp2_with fail;rw [rounds_succ];go_wp2_with fail;refine (rdnum_any g b 47 _ 7 A1 _ c1 l1 _ h1 b1 HGB.out (by simp)).mono ?_;intro e w2 hn
  rcases hd : Vint.dec l1 with x | ⟨x1,l2⟩
  · obtain ⟨rfl,oo⟩:=hn.bad hd
    have HE:=Lib.hid (show decs 7 bs = .error x by simp [decs,HD0.out,hd]);have HO:=Lib.hid (gb_trans o1 oo);clear hd hn oo;go_wp2_with fail;exact ⟨rfl,HO.out,.inr ⟨x,HE.out,rfl⟩⟩
  obtain ⟨rfl,⟨A2,c2,h2⟩,bb,oo⟩:=hn.good hd;have b2 : Blk w2 b 47 #[v0,v1,v2,v3,v4,v5,.int .i64 (x0 : Nat),.int .i64 (x1 : Nat),u2,u3,u4,u5,u6,v13]:=bb;have o2:=gb_trans o1 oo;have HD1:=Lib.hid hd;clear hd hn oo bb h1 b1 o1;go_wp2_with fail;rw [rounds_succ];go_wp2_with fail;refine (rdnum_any g b 47 _ 8 A2 _ c2 l2 _ h2 b2 HGB.out (by simp)).mono ?_;intro e w3 hn
  rcases hd : Vint.dec l2 with x | ⟨x2,l3⟩
  · obtain ⟨rfl,oo⟩:=hn.bad hd
    have HE:=Lib.hid (show decs 7 bs = .error x by simp [decs,HD0.out,HD1.out,hd]);have HO:=Lib.hid (gb_trans o2 oo);clear hd hn oo;go_wp2_with fail;exact ⟨rfl,HO.out,.inr ⟨x,HE.out,rfl⟩⟩
  obtain ⟨rfl,⟨A3,c3,h3⟩,bb,oo⟩:=hn.good hd;have b3 : Blk w3 b 47 #[v0,v1,v2,v3,v4,v5,.int .i64 (x0 : Nat),.int .i64 (x1 : Nat),.int .i64 (x2 : Nat),u3,u4,u5,u6,v13]:=bb;have o3:=gb_trans o2 oo;have HD2:=Lib.hid hd;clear hd hn oo bb h2 b2 o2;go_wp2_with fail;rw [rounds_succ];go_wp2_with fail;refine (rdnum_any g b 47 _ 9 A3 _ c3 l3 _ h3 b3 HGB.out (by simp)).mono ?_;intro e w4 hn
  rcases hd : Vint.dec l3 with x | ⟨x3,l4⟩
  · obtain ⟨rfl,oo⟩:=hn.bad hd
    have HE:=Lib.hid (show decs 7 bs = .error x by simp [decs,HD0.out,HD1.out,HD2.out,hd]);have HO:=Lib.hid (gb_trans o3 oo);clear hd hn oo;go_wp2_with fail;exact ⟨rfl,HO.out,.inr ⟨x,HE.out,rfl⟩⟩
  obtain ⟨rfl,⟨A4,c4,h4⟩,bb,oo⟩:=hn.good hd;have b4 : Blk w4 b 47 #[v0,v1,v2,v3,v4,v5,.int .i64 (x0 : Nat),.int .i64 (x1 : Nat),.int .i64 (x2 : Nat),.int .i64 (x3 : Nat),u4,u5,u6,v13]:=bb;have o4:=gb_trans o3 oo;have HD3:=Lib.hid hd;clear hd hn oo bb h3 b3 o3;go_wp2_with fail;rw [rounds_succ];go_wp2_with fail;refine (rdnum_any g b 47 _ 10 A4 _ c4 l4 _ h4 b4 HGB.out (by simp)).mono ?_;intro e w5 hn
  rcases hd : Vint.dec l4 with x | ⟨x4,l5⟩
  · obtain ⟨rfl,oo⟩:=hn.bad hd
    have HE:=Lib.hid (show decs 7 bs = .error x by simp [decs,HD0.out,HD1.out,HD2.out,HD3.out,hd]);have HO:=Lib.hid (gb_trans o4 oo);clear hd hn oo;go_wp2_with fail;exact ⟨rfl,HO.out,.inr ⟨x,HE.out,rfl⟩⟩
  obtain ⟨rfl,⟨A5,c5,h5⟩,bb,oo⟩:=hn.good hd;have b5 : Blk w5 b 47 #[v0,v1,v2,v3,v4,v5,.int .i64 (x0 : Nat),.int .i64 (x1 : Nat),.int .i64 (x2 : Nat),.int .i64 (x3 : Nat),.int .i64 (x4 : Nat),u5,u6,v13]:=bb;have o5:=gb_trans o4 oo;have HD4:=Lib.hid hd;clear hd hn oo bb h4 b4 o4;go_wp2_with fail;rw [rounds_succ];go_wp2_with fail;refine (rdnum_any g b 47 _ 11 A5 _ c5 l5 _ h5 b5 HGB.out (by simp)).mono ?_;intro e w6 hn
  rcases hd : Vint.dec l5 with x | ⟨x5,l6⟩
  · obtain ⟨rfl,oo⟩:=hn.bad hd
    have HE:=Lib.hid (show decs 7 bs = .error x by simp [decs,HD0.out,HD1.out,HD2.out,HD3.out,HD4.out,hd]);have HO:=Lib.hid (gb_trans o5 oo);clear hd hn oo;go_wp2_with fail;exact ⟨rfl,HO.out,.inr ⟨x,HE.out,rfl⟩⟩
  obtain ⟨rfl,⟨A6,c6,h6⟩,bb,oo⟩:=hn.good hd;have b6 : Blk w6 b 47 #[v0,v1,v2,v3,v4,v5,.int .i64 (x0 : Nat),.int .i64 (x1 : Nat),.int .i64 (x2 : Nat),.int .i64 (x3 : Nat),.int .i64 (x4 : Nat),.int .i64 (x5 : Nat),u6,v13]:=bb;have o6:=gb_trans o5 oo;have HD5:=Lib.hid hd;clear hd hn oo bb h5 b5 o5;go_wp2_with fail;rw [rounds_succ];go_wp2_with fail;refine (rdnum_any g b 47 _ 12 A6 _ c6 l6 _ h6 b6 HGB.out (by simp)).mono ?_;intro e w7 hn
  rcases hd : Vint.dec l6 with x | ⟨x6,l7⟩
  · obtain ⟨rfl,oo⟩:=hn.bad hd
    have HE:=Lib.hid (show decs 7 bs = .error x by simp [decs,HD0.out,HD1.out,HD2.out,HD3.out,HD4.out,HD5.out,hd]);have HO:=Lib.hid (gb_trans o6 oo);clear hd hn oo;go_wp2_with fail;exact ⟨rfl,HO.out,.inr ⟨x,HE.out,rfl⟩⟩
  obtain ⟨rfl,⟨A7,c7,h7⟩,bb,oo⟩:=hn.good hd;have b7 : Blk w7 b 47 #[v0,v1,v2,v3,v4,v5,.int .i64 (x0 : Nat),.int .i64 (x1 : Nat),.int .i64 (x2 : Nat),.int .i64 (x3 : Nat),.int .i64 (x4 : Nat),.int .i64 (x5 : Nat),.int .i64 (x6 : Nat),v13]:=bb;have o7:=gb_trans o6 oo;have HD6:=Lib.hid hd;clear hd hn oo bb h6 b6 o6;go_wp2_with fail;rw [rounds_succ];go_wp2_with fail
  go_end0
  exact ⟨o7,.inl ⟨x0,x1,x2,x3,x4,x5,x6,l7,by simp [decs,HD0.out,HD1.out,HD2.out,HD3.out,HD4.out,HD5.out,HD6.out],rfl,⟨A7,c7,h7⟩,b7⟩⟩
def dzs (ds : List Dt) (m : Nat) : Array Value:=(dcs ds ++ List.replicate ((m - ds.length) * 2) (Value.int .i64 0)).toArray
theorem dzs_size {ds : List Dt} {m : Nat} (h : ds.length≤m) : (dzs ds m).size = m * 2:=by
  unfold dzs
  rw [List.size_toArray,List.length_append,dcs_len,List.length_replicate]
  omega
theorem dzs_full {ds : List Dt} {m : Nat} (h : ds.length = m) : dzs ds m = (dcs ds).toArray:=by
  unfold dzs
  rw [show (m - ds.length) * 2 = 0 by omega]
  simp
theorem dzs_set (ds : List Dt) (m : Nat) (x y : Int) (h : ds.length < m) : ((dzs ds m).setIfInBounds (ds.length * 2) (.int .i64 x)).setIfInBounds (ds.length * 2 + 1) (.int .i64 y) = dzs (ds ++ [(x,y)]) m:=by
  apply Array.toList_inj.1
  rw [Array.toList_setIfInBounds,Array.toList_setIfInBounds]
  show ((dcs ds ++ List.replicate ((m - ds.length) * 2) (Value.int .i64 0)).set (ds.length * 2) _).set (ds.length * 2 + 1) _ = dcs (ds ++ [(x,y)]) ++ List.replicate ((m - (ds ++ [(x,y)]).length) * 2) (.int .i64 0)
  obtain ⟨k,hk⟩ : ∃ k,(m - ds.length) * 2 = k + 1 + 1:=⟨(m - ds.length) * 2 - 2,by omega⟩
  have hk2 : (m - (ds ++ [(x,y)]).length) * 2 = k:=by rw [List.length_append];simp;omega
  rw [hk,hk2,dcs_app,List.replicate_succ,List.replicate_succ,List.set_append,if_neg (by rw [dcs_len];omega),dcs_len,Nat.sub_self,List.set_cons_zero,List.set_append,if_neg (by rw [dcs_len];omega),dcs_len,show ds.length * 2 + 1 - ds.length * 2 = 0 + 1 by omega,List.set_cons_succ,List.set_cons_zero]
  simp [dcs]
theorem run_makeD (W : World) (m : Nat) (hm : m≤1000000) : (Instr.makeSlice 45 (.int .i64 (m : Int)) (.int .i64 (m : Int))).run Tryz.prog W = .ok (.slice (some ⟨W.heap.size,0,none⟩) m m) (W.alloc (.cells (dzs [] m) 42)):=by
  obtain ⟨i0,hi,hz0,hz1,hz2⟩:=info_parts infoD;have h:=run_make (P:=Tryz.prog) (w:=W) 45 42 i0 (.agg #[.int .i64 0,.int .i64 0]) Tryz.underlying45 hi hz0 .i64 .i64 m m (by omega) (by omega) (by rw [hz2];omega) (by omega);rw [hz1] at h
  simp only [Int.toNat_natCast] at h
  rw [h]
  have e : madeCells (Value.agg #[.int .i64 0,.int .i64 0]).cells (m * 2) = dzs [] m:=by
    have hz:=dzs_size (ds:=[]) (m:=m) (Nat.zero_le _)
    apply Array.ext_getElem?
    intro i
    by_cases hi : i < m * 2
    · have h2 : (dzs [] m)[i]? = some (.int .i64 0):=by
        show ((dcs [] ++ List.replicate ((m - 0) * 2) (Value.int .i64 0)).toArray)[i]? = _
        rw [List.getElem?_toArray]
        simp [dcs,hi]
      rw [h2]
      unfold madeCells
      rw [Array.getElem?_map,Array.getElem?_range,if_pos hi,Option.map_some]
      have h3 : i % 2 = 0∨i % 2 = 1:=by omega
      show some ((#[Value.int .i64 0,Value.int .i64 0] : Array Value)[i % 2]!) = _
      rcases h3 with h3 | h3 <;> rw [h3] <;> rfl
    · rw [Array.getElem?_eq_none (by rw [size_madeCells];omega),Array.getElem?_eq_none (by rw [hz];omega)]
  rw [e]
theorem own_dzs {w : World} {base d m : Nat} {ds : List Dt} (h : Blk w d 42 (dzs ds m)) (hl : ds.length = m) (hb : base≤d) (hm : m≤1000000) : OwnD w base (some ⟨d,0,none⟩) m m ds:=by
  rw [dzs_full hl] at h;refine ⟨hl.symm,by rw [dcs_len,hl],.inr ⟨d,m,_,rfl,hb,h,Nat.le_refl _,by unfold maxLen;omega,?_,?_⟩⟩
  · rw [List.size_toArray,dcs_len,hl]
  · exact List.take_of_length_le (by rw [dcs_len,hl];omega)
def ThrR (w : World) (g b : Nat) (bs : List UInt8) (e : Ending) (w' : World) : Prop :=
  Only (GB g b) w w'∧((∃ x r,decE bs = .ok (x,r)∧e = .returned (.tuple #[])∧(∃ A c,Rdr w' g A r.length c r 0)∧∃ A' m' c',Blk w' b 47 (ec x (.slice A' m' c'))∧OwnD w' w.heap.size A' m' c' x.l)
   ∨∃ x,decE bs = .error x∧e = .panicked [{ v:=eflt (x : Nat),recovered:=false }])
set_option maxRecDepth 100000 in
set_option maxHeartbeats 4000000 in
theorem thrr_any (b g : Nat) (A0 : Option Addr) (n0 c0 : Nat) (bs : List UInt8) (w : World) (h : Rdr w g A0 n0 c0 bs 0) (hb : Blk w b 47 #[.int .i64 0,.int .i64 0,.int .i64 0,.int .i64 0,.int .i64 0,.int .i64 0,.int .i64 0,.int .i64 0,.int .i64 0,.int .i64 0,.int .i64 0,.int .i64 0,.int .i64 0,.slice none 0 0]) (hne : g < b) :
    Calls Tryz.prog 112 #[.pointer (some ⟨b,0,none⟩),.iface 160 (.agg #[.pointer (some ⟨g,0,none⟩)])] w (ThrR w g b bs):=by
  have HGB:=Lib.hid hne;have hbl:=hb.lt;have HBL:=Lib.hid hbl
  have hm : ∀ w,(method 246 160 (.agg #[.pointer (some ⟨g,0,none⟩)]) "murmur/event.number").run Tryz.prog w = .ok (163,.agg #[.pointer (some ⟨g,0,none⟩)]) w:=fun w=>by kernel_rfl
  have hmF : ∀ w,(method 246 160 (.agg #[.pointer (some ⟨g,0,none⟩)]) "murmur/event.fail").run Tryz.prog w = .ok (123,.agg #[.pointer (some ⟨g,0,none⟩)]) w:=fun w=>by kernel_rfl
  have hmf : ∀ (fn : Fn) (first cap : Array Value) (w : World),(Instr.makeFunc fn first cap).run Tryz.prog w = .ok (.func fn first cap) w:=fun _ _ _ _=>rfl
  clear hne
  have hix0 : ∀ w,(Instr.index 174 (.agg #[.pointer (some ⟨b,0,none⟩),.pointer (some ⟨b,1,none⟩),.pointer (some ⟨b,2,none⟩),.pointer (some ⟨b,3,none⟩)]) (.int .i64 0)).run Tryz.prog w = .ok (.pointer (some ⟨b,0,none⟩)) w:=fun w=>by kernel_rfl
  have hix1 : ∀ w,(Instr.index 174 (.agg #[.pointer (some ⟨b,0,none⟩),.pointer (some ⟨b,1,none⟩),.pointer (some ⟨b,2,none⟩),.pointer (some ⟨b,3,none⟩)]) (.int .i64 1)).run Tryz.prog w = .ok (.pointer (some ⟨b,1,none⟩)) w:=fun w=>by kernel_rfl
  have hix2 : ∀ w,(Instr.index 174 (.agg #[.pointer (some ⟨b,0,none⟩),.pointer (some ⟨b,1,none⟩),.pointer (some ⟨b,2,none⟩),.pointer (some ⟨b,3,none⟩)]) (.int .i64 2)).run Tryz.prog w = .ok (.pointer (some ⟨b,2,none⟩)) w:=fun w=>by kernel_rfl
  have hix3 : ∀ w,(Instr.index 174 (.agg #[.pointer (some ⟨b,0,none⟩),.pointer (some ⟨b,1,none⟩),.pointer (some ⟨b,2,none⟩),.pointer (some ⟨b,3,none⟩)]) (.int .i64 3)).run Tryz.prog w = .ok (.pointer (some ⟨b,3,none⟩)) w:=fun w=>by kernel_rfl
  go_enter Tryz.func112,Tryz.ntmps112
  go_wp2_with fail
  go_region
  go_wp2_with fail;have h0 : Rdr w.drew g A0 n0 c0 bs 0:=h;have b0 : Blk w.drew b 47 #[.int .i64 0,.int .i64 0,.int .i64 0,.int .i64 0,.int .i64 0,.int .i64 0,.int .i64 0,.int .i64 0,.int .i64 0,.int .i64 0,.int .i64 0,.int .i64 0,.int .i64 0,.slice none 0 0]:=hb;have o0 : Only (GB g b) w w.drew:=⟨rfl,rfl,rfl,Nat.le_refl _,fun _ _ _=>rfl⟩;clear h hb;refine wp_loop_rounds 5 ?_;rw [rounds_succ];go_wp2_with fail;refine (rdnum_any g b 47 _ 0 A0 n0 c0 bs _ h0 b0 HGB.out (by simp)).mono ?_;intro e w1 hn
  rcases hd : Vint.dec bs with x | ⟨n,l1⟩
  · obtain ⟨rfl,oo⟩:=hn.bad hd
    have HE:=Lib.hid (show decE bs = .error x by simp [decE,decK,hd]);have HO:=Lib.hid (gb_trans o0 oo);clear hd hn oo;go_wp2_with fail;exact ⟨rfl,HO.out,.inr ⟨x,HE.out,rfl⟩⟩
  obtain ⟨rfl,⟨A1,c1,h1⟩,bb,oo⟩:=hn.good hd;have b1 : Blk w1 b 47 #[.int .i64 (n : Nat),.int .i64 0,.int .i64 0,.int .i64 0,.int .i64 0,.int .i64 0,.int .i64 0,.int .i64 0,.int .i64 0,.int .i64 0,.int .i64 0,.int .i64 0,.int .i64 0,.slice none 0 0]:=bb;have o1:=gb_trans o0 oo;have HD0:=Lib.hid hd;clear hd hn oo bb h0 b0 o0;go_wp2_with fail;rw [rounds_succ];go_wp2_with fail;refine (rdnum_any g b 47 _ 1 A1 _ c1 l1 _ h1 b1 HGB.out (by simp)).mono ?_;intro e w2 hn
  rcases hd : Vint.dec l1 with x | ⟨q,l2⟩
  · obtain ⟨rfl,oo⟩:=hn.bad hd
    have HE:=Lib.hid (show decE bs = .error x by simp [decE,decK,HD0.out,hd]);have HO:=Lib.hid (gb_trans o1 oo);clear hd hn oo;go_wp2_with fail;exact ⟨rfl,HO.out,.inr ⟨x,HE.out,rfl⟩⟩
  obtain ⟨rfl,⟨A2,c2,h2⟩,bb,oo⟩:=hn.good hd;have b2 : Blk w2 b 47 #[.int .i64 (n : Nat),.int .i64 (q : Nat),.int .i64 0,.int .i64 0,.int .i64 0,.int .i64 0,.int .i64 0,.int .i64 0,.int .i64 0,.int .i64 0,.int .i64 0,.int .i64 0,.int .i64 0,.slice none 0 0]:=bb;have o2:=gb_trans o1 oo;have HD1:=Lib.hid hd;clear hd hn oo bb h1 b1 o1;go_wp2_with fail;rw [rounds_succ];go_wp2_with fail;refine (rdnum_any g b 47 _ 2 A2 _ c2 l2 _ h2 b2 HGB.out (by simp)).mono ?_;intro e w3 hn
  rcases hd : Vint.dec l2 with x | ⟨t,l3⟩
  · obtain ⟨rfl,oo⟩:=hn.bad hd
    have HE:=Lib.hid (show decE bs = .error x by simp [decE,decK,HD0.out,HD1.out,hd]);have HO:=Lib.hid (gb_trans o2 oo);clear hd hn oo;go_wp2_with fail;exact ⟨rfl,HO.out,.inr ⟨x,HE.out,rfl⟩⟩
  obtain ⟨rfl,⟨A3,c3,h3⟩,bb,oo⟩:=hn.good hd;have b3 : Blk w3 b 47 #[.int .i64 (n : Nat),.int .i64 (q : Nat),.int .i64 (t : Nat),.int .i64 0,.int .i64 0,.int .i64 0,.int .i64 0,.int .i64 0,.int .i64 0,.int .i64 0,.int .i64 0,.int .i64 0,.int .i64 0,.slice none 0 0]:=bb;have o3:=gb_trans o2 oo;have HD2:=Lib.hid hd;clear hd hn oo bb h2 b2 o2;go_wp2_with fail;rw [rounds_succ];go_wp2_with fail;refine (rdnum_any g b 47 _ 3 A3 _ c3 l3 _ h3 b3 HGB.out (by simp)).mono ?_;intro e w4 hn
  rcases hd : Vint.dec l3 with x | ⟨k,l4⟩
  · obtain ⟨rfl,oo⟩:=hn.bad hd
    have HE:=Lib.hid (show decE bs = .error x by simp [decE,decK,HD0.out,HD1.out,HD2.out,hd]);have HO:=Lib.hid (gb_trans o3 oo);clear hd hn oo;go_wp2_with fail;exact ⟨rfl,HO.out,.inr ⟨x,HE.out,rfl⟩⟩
  obtain ⟨rfl,⟨A4,c4,h4⟩,bb,oo⟩:=hn.good hd;have b4 : Blk w4 b 47 #[.int .i64 (n : Nat),.int .i64 (q : Nat),.int .i64 (t : Nat),.int .i64 (k : Nat),.int .i64 0,.int .i64 0,.int .i64 0,.int .i64 0,.int .i64 0,.int .i64 0,.int .i64 0,.int .i64 0,.int .i64 0,.slice none 0 0]:=bb;have o4:=gb_trans o3 oo;have HD3:=Lib.hid hd;clear hd hn oo bb h3 b3 o3;go_wp2_with fail;rw [rounds_succ];have ck : w4.cell? ⟨b,3,none⟩ = some (.int .i64 (k : Nat)):=b4.cell 3;go_wp2_with fail;refine (within_any _ _ _ _).mono ?_;rintro e w4' ⟨rfl,rfl⟩
  by_cases hk : 1≤k∧k≤3
  case neg =>
    have HE:=Lib.hid (show decE bs = .error 4 by simp only [decE,HD0.out,HD1.out,HD2.out,HD3.out];rw [if_neg hk]);rw [show inB (k : Int) 1 3 = false by rw [← Bool.not_eq_true,inB_iff];omega];clear hk;go_wp2_with fail;refine (rdfail_any g 4 _).mono ?_;rintro e w5 ⟨rfl,b5⟩;go_wp2_with fail;exact ⟨rfl,o4.then_below (b5.mono o4.size),.inr ⟨4,HE.out,rfl⟩⟩
  have HK:=Lib.hid hk;rw [show inB (k : Int) 1 3 = true by rw [inB_iff];omega];clear hk;go_wp2_with fail;refine (rdnum_any g b 47 _ 4 A4 _ c4 l4 _ h4 b4 HGB.out (by simp)).mono ?_;intro e w5 hn
  rcases hd : Vint.dec l4 with x | ⟨wk,l5⟩
  · obtain ⟨rfl,oo⟩:=hn.bad hd
    have HE:=Lib.hid (show decE bs = .error x by simp [decE,decK,HD0.out,HD1.out,HD2.out,HD3.out,HK.out.1,HK.out.2,hd]);have HO:=Lib.hid (gb_trans o4 oo);clear hd hn oo;go_wp2_with fail;exact ⟨rfl,HO.out,.inr ⟨x,HE.out,rfl⟩⟩
  obtain ⟨rfl,⟨A5,c5,h5⟩,bb,oo⟩:=hn.good hd;have b5 : Blk w5 b 47 #[.int .i64 (n : Nat),.int .i64 (q : Nat),.int .i64 (t : Nat),.int .i64 (k : Nat),.int .i64 (wk : Nat),.int .i64 0,.int .i64 0,.int .i64 0,.int .i64 0,.int .i64 0,.int .i64 0,.int .i64 0,.int .i64 0,.slice none 0 0]:=bb;have o5:=gb_trans o4 oo;have HD4:=Lib.hid hd;clear hd hn oo bb h4 b4 o4
  have hdK : decE bs = decK n q t k wk l5:=by simp [decE,HD0.out,HD1.out,HD2.out,HD3.out,HK.out.1,HK.out.2,HD4.out]
  have HDK:=Lib.hid hdK;clear hdK ck;have ck : w5.cell? ⟨b,3,none⟩ = some (.int .i64 (k : Nat)):=b5.cell 3
  by_cases hk1 : k = 1
  · have hq1 : ((k : Int) == 1) = true:=by rw [beq_iff_eq];omega
    have HK1:=Lib.hid hk1;clear hk1;go_wp2_with fail;refine (rdnum_any g b 47 _ 5 A5 _ c5 l5 _ h5 b5 HGB.out (by simp)).mono ?_;intro e w6 hn
    rcases hd : Vint.dec l5 with x | ⟨v,l6⟩
    · obtain ⟨rfl,oo⟩:=hn.bad hd
      have HE:=Lib.hid (show decE bs = .error x by simp [HDK.out,decK,HK1.out,hd]);have HO:=Lib.hid (gb_trans o5 oo);clear hd hn oo;go_wp2_with fail;exact ⟨rfl,HO.out,.inr ⟨x,HE.out,rfl⟩⟩
    obtain ⟨rfl,⟨A6,c6,h6⟩,bb,oo⟩:=hn.good hd;have b6 : Blk w6 b 47 #[.int .i64 (n : Nat),.int .i64 (q : Nat),.int .i64 (t : Nat),.int .i64 (k : Nat),.int .i64 (wk : Nat),.int .i64 (v : Nat),.int .i64 0,.int .i64 0,.int .i64 0,.int .i64 0,.int .i64 0,.int .i64 0,.int .i64 0,.slice none 0 0]:=bb;have o6:=gb_trans o5 oo;have HD5:=Lib.hid hd;clear hd hn oo bb h5 b5 o5;have HE:=Lib.hid (show decE bs = .ok (⟨((n : Int),(q : Int)),(t : Nat),(k : Nat),(wk : Nat),(v : Nat),Evt.p0,[]⟩,l6) by simp [HDK.out,decK,HK1.out,HD5.out]);go_wp2_with fail
    (try simp only [Exit.inBlock,Exit.then])
    refine bodyPost_ret (results_none rfl _ _ _) rfl ?_;exact ⟨o6,.inl ⟨_,_,HE.out,rfl,⟨A6,c6,h6⟩,none,0,0,b6,OwnD.nil _ _⟩⟩
  have hq1 : ((k : Int) == 1) = false:=by rw [beq_eq_false_iff_ne];omega
  have HK1:=Lib.hid hk1;clear hk1
  by_cases hk2 : k = 2
  · have hq2 : ((k : Int) == 2) = true:=by rw [beq_iff_eq];omega
    have HK2:=Lib.hid hk2;clear hk2;go_wp2_with fail;refine (polr_any b g _ _ _ _ _ _ _ _ _ _ _ _ _ _ A5 _ c5 l5 _ h5 b5 HGB.out).mono ?_;rintro e w6 ⟨oo,⟨x0,x1,x2,x3,x4,x5,x6,l6,hd,rfl,⟨A6,c6,h6⟩,b6⟩ | ⟨x,hd,rfl⟩⟩
    case inr =>
      have HE:=Lib.hid (show decE bs = .error x by simp [HDK.out,decK,HK2.out,hd]);have HO:=Lib.hid (gb_trans o5 oo);clear hd oo;go_wp2_with fail;exact ⟨rfl,HO.out,.inr ⟨x,HE.out,rfl⟩⟩
    have o6:=gb_trans o5 oo;have HD5:=Lib.hid hd;clear hd oo h5 b5 o5;have cs : w6.cell? ⟨b,13,none⟩ = some (.slice none 0 0):=b6.cell 13
    go_upto_region 15 with fail
    refine nameW ?_;intro wa hwa;obtain ⟨r,hr⟩ : ∃ r,r = w6.heap.size:=⟨_,rfl⟩;rw [← hr]
    have ka : Blk wa r 3 #[.int .i64 0]:=by rw [hwa,hr];exact Blk.new _ _ _
    have ha : Rdr wa g A6 l6.length c6 l6 0:=by rw [hwa];exact h6.below ((Below.refl _ _).alloc (by have:=h6.lt;omega) _)
    have ba : Blk wa b 47 #[.int .i64 (n : Nat),.int .i64 (q : Nat),.int .i64 (t : Nat),.int .i64 (k : Nat),.int .i64 (wk : Nat),.int .i64 0,.int .i64 (x0 : Nat),.int .i64 (x1 : Nat),.int .i64 (x2 : Nat),.int .i64 (x3 : Nat),.int .i64 (x4 : Nat),.int .i64 (x5 : Nat),.int .i64 (x6 : Nat),.slice none 0 0]:=by rw [hwa];exact b6.alloc _
    have oa : Only (GB g b) w wa:=by rw [hwa];exact o6.alloc _
    have hrw : w.heap.size≤r:=by rw [hr];exact o6.size
    have hgr : g < r:=by have:=h6.lt;omega
    have hbr : b < r:=by have:=b6.lt;omega
    have HR3:=Lib.hid (show w.heap.size≤r∧g < r∧b < r from ⟨hrw,hgr,hbr⟩);clear hwa hr h6 b6 o6 cs hgr ck hbr hrw;go_wp2_with fail;refine (rdnum_any g r 3 _ 0 A6 _ c6 l6 _ ha ka HR3.out.2.1 (by simp)).mono ?_;intro e wc hn
    rcases hd : Vint.dec l6 with x | ⟨m,lm⟩
    · obtain ⟨rfl,oo⟩:=hn.bad hd
      have HE:=Lib.hid (show decE bs = .error x by simp [HDK.out,decK,decL,HK2.out,HD5.out,hd]);have HO:=Lib.hid (gb_new oa oo HR3.out.1);clear hd hn oo;go_wp2_with fail;exact ⟨rfl,HO.out,.inr ⟨x,HE.out,rfl⟩⟩
    obtain ⟨rfl,⟨Am,cm,hM⟩,bb,oo⟩:=hn.good hd;have kc : Blk wc r 3 #[.int .i64 (m : Nat)]:=bb;have bC : Blk wc b 47 #[.int .i64 (n : Nat),.int .i64 (q : Nat),.int .i64 (t : Nat),.int .i64 (k : Nat),.int .i64 (wk : Nat),.int .i64 0,.int .i64 (x0 : Nat),.int .i64 (x1 : Nat),.int .i64 (x2 : Nat),.int .i64 (x3 : Nat),.int .i64 (x4 : Nat),.int .i64 (x5 : Nat),.int .i64 (x6 : Nat),.slice none 0 0]:=(oo.block b ba.lt (by rintro (h | h);have:=HGB.out;omega;have:=HR3.out.2.2;omega)).trans ba;have oC:=gb_new oa oo HR3.out.1;have HDM:=Lib.hid hd;have cr : wc.cell? ⟨r,0,none⟩ = some (.int .i64 (m : Nat)):=kc.cell 0;clear hd hn oo bb ha ba oa ka
    by_cases hm96 : 96 < m
    · have hmd : decide ((96 : Int) < (m : Int)) = true:=decide_eq_true (by omega)
      have HE:=Lib.hid (show decE bs = .error 6 by simp [HDK.out,decK,decL,HK2.out,HD5.out,HDM.out,hm96]);clear hm96;go_wp2_with fail;refine (rdfail_any g 6 _).mono ?_;rintro e w8 ⟨rfl,b8⟩;go_wp2_with fail;exact ⟨rfl,oC.then_below (b8.mono oC.size),.inr ⟨6,HE.out,rfl⟩⟩
    have hmd : decide ((96 : Int) < (m : Int)) = false:=decide_eq_false (by omega);have H96:=Lib.hid (show m≤96 by omega)
    have HDD:=Lib.hid (show ∀ j x,j≤m→decD j lm = .error x→decE bs = .error x from fun j x hj hx=>by
      have hx2:=decD_err hx m hj
      simp [HDK.out,decK,decL,HK2.out,HD5.out,HDM.out,hm96,hx2])
    have HDK2:=Lib.hid (show ∀ ds lr,decD m lm = .ok (ds,lr)→decE bs = .ok (⟨((n : Int),(q : Int)),(t : Nat),(k : Nat),(wk : Nat),0,[x0,x1,x2,x3,x4,x5,x6].map fun x : Nat=>(x : Int),ds⟩,lr) from fun ds lr hx=>by
      simp [HDK.out,decK,decL,HK2.out,HD5.out,HDM.out,hm96,hx])
    clear hm96;have cs : wc.cell? ⟨b,13,none⟩ = some (.slice none 0 0):=bC.cell 13
    go_upto_region 18 with fail
    by_cases hm0 : m = 0
    · subst hm0
      have HF:=HDK2.out [] lm rfl;have HFF:=Lib.hid HF;clear HF
      go_region
      go_wp2_with fail;refine wp_loop_rounds 1 ?_;rw [rounds_succ];go_wp2_with fail
      go_end0
      exact ⟨oC.drewN 1,.inl ⟨_,_,HFF.out,rfl,⟨Am,cm,hM⟩,none,0,0,bC,OwnD.nil _ _⟩⟩
    have hmn : ((0 : Int) != (m : Int)) = true:=by rw [bne_iff_ne];omega
    have hmk:=run_makeD wc.drew m (by have:=H96.out;omega);have hbw : b < wc.heap.size:=bC.lt;have fb:=bC.free 13
    go_region
    go_upto_region 20 with fail
    refine nameW ?_;intro wd hwd;obtain ⟨d,hd⟩ : ∃ d,d = wc.heap.size:=⟨_,rfl⟩;rw [← hd]
    have kd : Blk wd d 42 (dzs [] m):=by
      have h1:=Blk.new (wc.setCell ⟨b,13,none⟩ (.slice (some ⟨wc.heap.size,0,none⟩) m m)) 42 (dzs [] m);rw [show (wc.setCell ⟨b,13,none⟩ (.slice (some ⟨wc.heap.size,0,none⟩) m m)).heap.size = wc.heap.size by simp [World.setCell]] at h1;rw [hwd,hd];exact h1
    have bD : Blk wd b 47 #[.int .i64 (n : Nat),.int .i64 (q : Nat),.int .i64 (t : Nat),.int .i64 (k : Nat),.int .i64 (wk : Nat),.int .i64 0,.int .i64 (x0 : Nat),.int .i64 (x1 : Nat),.int .i64 (x2 : Nat),.int .i64 (x3 : Nat),.int .i64 (x4 : Nat),.int .i64 (x5 : Nat),.int .i64 (x6 : Nat),.slice (some ⟨d,0,none⟩) m m]:=by
      rw [hwd,hd];exact (bC.set_ 13 (.slice (some ⟨wc.heap.size,0,none⟩) m m)).alloc _
    have hD : Rdr wd g Am lm.length cm lm 0:=by
      rw [hwd];refine hM.below ?_;have h1 : Below (g + 1) wc (wc.setCell ⟨b,13,none⟩ (.slice (some ⟨wc.heap.size,0,none⟩) m m)):=(Below.refl _ _).setCell (by show g + 1≤b;have:=HGB.out;omega) _;exact (h1.alloc (by have:=hM.lt;simp [World.setCell];omega) _).drew
    have oD : Only (GB g b) w wd:=by
      rw [hwd];have h1:=(oC.setCell (p:=⟨b,13,none⟩) (.inl (.inr rfl)) (.slice (some ⟨wc.heap.size,0,none⟩) m m)).alloc (.cells (dzs [] m) 42);exact ⟨h1.os,h1.tape,h1.output,h1.size,h1.block⟩
    have hgd : g < d:=by have:=hM.lt;omega
    have hbd : b < d:=by omega
    have HGD:=Lib.hid (show g < d∧b < d∧w.heap.size≤d from ⟨hgd,hbd,by rw [hd];exact oC.size⟩);clear hwd hd hM bC kc oC cr cs hmk fb hbw hmn hgd hbd hm0;have cs : wd.cell? ⟨b,13,none⟩ = some (.slice (some ⟨d,0,none⟩) m m):=bD.cell 13;go_wp2_with fail
    go_loopw [93] (fun i wr=>∃ (j : Nat) (ds : List Dt) (lr : List UInt8) (A : Option Addr) (c : Nat),j≤m∧i = .int .i64 j∧decD j lm = .ok (ds,lr)∧Rdr wr g A lr.length c lr 0∧Blk wr b 47 #[.int .i64 (n : Nat),.int .i64 (q : Nat),.int .i64 (t : Nat),.int .i64 (k : Nat),.int .i64 (wk : Nat),.int .i64 0,.int .i64 (x0 : Nat),.int .i64 (x1 : Nat),.int .i64 (x2 : Nat),.int .i64 (x3 : Nat),.int .i64 (x4 : Nat),.int .i64 (x5 : Nat),.int .i64 (x6 : Nat),.slice (some ⟨d,0,none⟩) m m]∧Blk wr d 42 (dzs ds m)∧Only (GB g b) w wr) (fun i _=>m - (intOf i).toNat)
    case atStart=>exact ⟨0,[],lm,Am,cm,by omega,rfl,rfl,hD,bD,kd,oD⟩
    case round =>
      clear hD bD kd oD cs;obtain ⟨j,ds,lr,A,c,hj,rfl,hdj,hR,bR,kR,oR⟩:=hrel;have cs : wr.cell? ⟨b,13,none⟩ = some (.slice (some ⟨d,0,none⟩) m m):=bR.cell 13;have hdl:=decD_len _ _ _ _ hdj;have HDJ:=Lib.hid hdj;have HDL:=Lib.hid hdl;clear hdj hdl
      by_cases hlt : j < m
      · have hj0 : (0 : Int)≤(j : Int):=by omega
        have hjm : (j : Int) < (m : Int):=by omega
        have hsz:=dzs_size (ds:=ds) (m:=m) (by rw [HDL.out];omega);have HSZ:=Lib.hid hsz;clear hsz;go_wp2_with fail;refine (rdnum_any g d 42 _ (j * 2) A _ c lr _ hR kR HGD.out.1 (by rw [HSZ.out];omega)).mono ?_;intro e wx hn
        rcases hd : Vint.dec lr with x | ⟨x,lx⟩
        · obtain ⟨rfl,oo⟩:=hn.bad hd
          have HE:=Lib.hid (HDD.out (j + 1) x (by omega) (by simp [decD,HDJ.out,hd]));have HO:=Lib.hid (gb_new oR oo HGD.out.2.2);clear hd hn oo;go_wp2_with fail;exact ⟨rfl,HO.out,.inr ⟨x,HE.out,rfl⟩⟩
        obtain ⟨rfl,⟨Ax,cx,hX⟩,kX,oo⟩:=hn.good hd;have bX:=(show Blk wx b _ _ from (oo.block b bR.lt (by rintro (h | h);have:=HGB.out;omega;have:=HGD.out.2.1;omega)).trans bR);have oX:=gb_new oR oo HGD.out.2.2;have HDX:=Lib.hid hd;have cs : wx.cell? ⟨b,13,none⟩ = some (.slice (some ⟨d,0,none⟩) m m):=bX.cell 13;clear hd hn oo hR kR bR oR;go_wp2_with fail;refine (rdnum_any g d 42 _ (j * 2 + 1) Ax _ cx lx _ hX kX HGD.out.1 (by rw [Array.size_setIfInBounds,HSZ.out];omega)).mono ?_;intro e wy hn
        rcases hd : Vint.dec lx with y | ⟨y,ly⟩
        · obtain ⟨rfl,oo⟩:=hn.bad hd
          have HE:=Lib.hid (HDD.out (j + 1) y (by omega) (by simp [decD,HDJ.out,HDX.out,hd]));have HO:=Lib.hid (gb_new oX oo HGD.out.2.2);clear hd hn oo;go_wp2_with fail;exact ⟨rfl,HO.out,.inr ⟨y,HE.out,rfl⟩⟩
        obtain ⟨rfl,⟨Ay,cy,hY⟩,kY,oo⟩:=hn.good hd;have bY:=(show Blk wy b _ _ from (oo.block b bX.lt (by rintro (h | h);have:=HGB.out;omega;have:=HGD.out.2.1;omega)).trans bX);have oY:=gb_new oX oo HGD.out.2.2;have hds:=dzs_set ds m x y (by rw [HDL.out];exact hlt);rw [HDL.out] at hds;rw [hds] at kY;have HDY:=Lib.hid (show decD (j + 1) lm = .ok (ds ++ [((x : Int),(y : Int))],ly) by simp [decD,HDJ.out,HDX.out,hd]);clear hd hn oo hX kX bX oX hds;go_wp2_with fail
        go_roundw
        case rel=>exact ⟨j + 1,_,ly,Ay,cy,by omega,num_succ j (by have:=H96.out;omega),HDY.out,hY,bY,kY,oY⟩
        case measure=>exact meas_succ j m hlt (by have:=H96.out;omega)
      · obtain rfl : j = m:=by omega
        have HF:=Lib.hid (HDK2.out ds lr HDJ.out);have hkd : decide ((j : Int) < (j : Int)) = false:=decide_eq_false (by omega);go_wp2_with fail
        go_end0
        exact ⟨oR,.inl ⟨_,_,HF.out,rfl,⟨A,c,hR⟩,_,_,_,bR,own_dzs kR HDL.out HGD.out.2.2 (by have:=H96.out;omega)⟩⟩
  have hq2 : ((k : Int) == 2) = false:=by rw [beq_eq_false_iff_ne];omega
  have HK2:=Lib.hid hk2;clear hk2;have cs : w5.cell? ⟨b,13,none⟩ = some (.slice none 0 0):=b5.cell 13
  go_upto_region 15 with fail
  refine nameW ?_;intro wa hwa;obtain ⟨r,hr⟩ : ∃ r,r = w5.heap.size:=⟨_,rfl⟩;rw [← hr]
  have ka : Blk wa r 3 #[.int .i64 0]:=by rw [hwa,hr];exact Blk.new _ _ _
  have ha : Rdr wa g A5 l5.length c5 l5 0:=by rw [hwa];exact h5.below ((Below.refl _ _).alloc (by have:=h5.lt;omega) _)
  have ba : Blk wa b 47 #[.int .i64 (n : Nat),.int .i64 (q : Nat),.int .i64 (t : Nat),.int .i64 (k : Nat),.int .i64 (wk : Nat),.int .i64 0,.int .i64 0,.int .i64 0,.int .i64 0,.int .i64 0,.int .i64 0,.int .i64 0,.int .i64 0,.slice none 0 0]:=by rw [hwa];exact b5.alloc _
  have oa : Only (GB g b) w wa:=by rw [hwa];exact o5.alloc _
  have hrw : w.heap.size≤r:=by rw [hr];exact o5.size
  have hgr : g < r:=by have:=h5.lt;omega
  have hbr : b < r:=by have:=b5.lt;omega
  have HR3:=Lib.hid (show w.heap.size≤r∧g < r∧b < r from ⟨hrw,hgr,hbr⟩);clear hwa hr h5 b5 o5 cs hgr ck hbr hrw;go_wp2_with fail;refine (rdnum_any g r 3 _ 0 A5 _ c5 l5 _ ha ka HR3.out.2.1 (by simp)).mono ?_;intro e wc hn
  rcases hd : Vint.dec l5 with x | ⟨m,lm⟩
  · obtain ⟨rfl,oo⟩:=hn.bad hd
    have HE:=Lib.hid (show decE bs = .error x by simp [HDK.out,decK,decL,HK1.out,HK2.out,hd]);have HO:=Lib.hid (gb_new oa oo HR3.out.1);clear hd hn oo;go_wp2_with fail;exact ⟨rfl,HO.out,.inr ⟨x,HE.out,rfl⟩⟩
  obtain ⟨rfl,⟨Am,cm,hM⟩,bb,oo⟩:=hn.good hd;have kc : Blk wc r 3 #[.int .i64 (m : Nat)]:=bb;have bC : Blk wc b 47 #[.int .i64 (n : Nat),.int .i64 (q : Nat),.int .i64 (t : Nat),.int .i64 (k : Nat),.int .i64 (wk : Nat),.int .i64 0,.int .i64 0,.int .i64 0,.int .i64 0,.int .i64 0,.int .i64 0,.int .i64 0,.int .i64 0,.slice none 0 0]:=(oo.block b ba.lt (by rintro (h | h);have:=HGB.out;omega;have:=HR3.out.2.2;omega)).trans ba;have oC:=gb_new oa oo HR3.out.1;have HDM:=Lib.hid hd;have cr : wc.cell? ⟨r,0,none⟩ = some (.int .i64 (m : Nat)):=kc.cell 0;clear hd hn oo bb ha ba oa ka
  by_cases hm96 : 96 < m
  · have hmd : decide ((96 : Int) < (m : Int)) = true:=decide_eq_true (by omega)
    have HE:=Lib.hid (show decE bs = .error 6 by simp [HDK.out,decK,decL,HK1.out,HK2.out,HDM.out,hm96]);clear hm96;go_wp2_with fail;refine (rdfail_any g 6 _).mono ?_;rintro e w8 ⟨rfl,b8⟩;go_wp2_with fail;exact ⟨rfl,oC.then_below (b8.mono oC.size),.inr ⟨6,HE.out,rfl⟩⟩
  have hmd : decide ((96 : Int) < (m : Int)) = false:=decide_eq_false (by omega);have H96:=Lib.hid (show m≤96 by omega)
  have HDD:=Lib.hid (show ∀ j x,j≤m→decD j lm = .error x→decE bs = .error x from fun j x hj hx=>by
    have hx2:=decD_err hx m hj
    simp [HDK.out,decK,decL,HK1.out,HK2.out,HDM.out,hm96,hx2])
  have HDK2:=Lib.hid (show ∀ ds lr,decD m lm = .ok (ds,lr)→decE bs = .ok (⟨((n : Int),(q : Int)),(t : Nat),(k : Nat),(wk : Nat),0,Evt.p0,ds⟩,lr) from fun ds lr hx=>by
    simp [HDK.out,decK,decL,HK1.out,HK2.out,HDM.out,hm96,hx])
  clear hm96;have cs : wc.cell? ⟨b,13,none⟩ = some (.slice none 0 0):=bC.cell 13
  go_upto_region 18 with fail
  by_cases hm0 : m = 0
  · subst hm0
    have HF:=HDK2.out [] lm rfl;have HFF:=Lib.hid HF;clear HF
    go_region
    go_wp2_with fail;refine wp_loop_rounds 1 ?_;rw [rounds_succ];go_wp2_with fail
    go_end0
    exact ⟨oC.drewN 1,.inl ⟨_,_,HFF.out,rfl,⟨Am,cm,hM⟩,none,0,0,bC,OwnD.nil _ _⟩⟩
  have hmn : ((0 : Int) != (m : Int)) = true:=by rw [bne_iff_ne];omega
  have hmk:=run_makeD wc.drew m (by have:=H96.out;omega);have hbw : b < wc.heap.size:=bC.lt;have fb:=bC.free 13
  go_region
  go_upto_region 20 with fail
  refine nameW ?_;intro wd hwd;obtain ⟨d,hd⟩ : ∃ d,d = wc.heap.size:=⟨_,rfl⟩;rw [← hd]
  have kd : Blk wd d 42 (dzs [] m):=by
    have h1:=Blk.new (wc.setCell ⟨b,13,none⟩ (.slice (some ⟨wc.heap.size,0,none⟩) m m)) 42 (dzs [] m);rw [show (wc.setCell ⟨b,13,none⟩ (.slice (some ⟨wc.heap.size,0,none⟩) m m)).heap.size = wc.heap.size by simp [World.setCell]] at h1;rw [hwd,hd];exact h1
  have bD : Blk wd b 47 #[.int .i64 (n : Nat),.int .i64 (q : Nat),.int .i64 (t : Nat),.int .i64 (k : Nat),.int .i64 (wk : Nat),.int .i64 0,.int .i64 0,.int .i64 0,.int .i64 0,.int .i64 0,.int .i64 0,.int .i64 0,.int .i64 0,.slice (some ⟨d,0,none⟩) m m]:=by
    rw [hwd,hd];exact (bC.set_ 13 (.slice (some ⟨wc.heap.size,0,none⟩) m m)).alloc _
  have hD : Rdr wd g Am lm.length cm lm 0:=by
    rw [hwd];refine hM.below ?_;have h1 : Below (g + 1) wc (wc.setCell ⟨b,13,none⟩ (.slice (some ⟨wc.heap.size,0,none⟩) m m)):=(Below.refl _ _).setCell (by show g + 1≤b;have:=HGB.out;omega) _;exact (h1.alloc (by have:=hM.lt;simp [World.setCell];omega) _).drew
  have oD : Only (GB g b) w wd:=by
    rw [hwd];have h1:=(oC.setCell (p:=⟨b,13,none⟩) (.inl (.inr rfl)) (.slice (some ⟨wc.heap.size,0,none⟩) m m)).alloc (.cells (dzs [] m) 42);exact ⟨h1.os,h1.tape,h1.output,h1.size,h1.block⟩
  have hgd : g < d:=by have:=hM.lt;omega
  have hbd : b < d:=by omega
  have HGD:=Lib.hid (show g < d∧b < d∧w.heap.size≤d from ⟨hgd,hbd,by rw [hd];exact oC.size⟩);clear hwd hd hM bC kc oC cr cs hmk fb hbw hmn hgd hbd hm0;have cs : wd.cell? ⟨b,13,none⟩ = some (.slice (some ⟨d,0,none⟩) m m):=bD.cell 13;go_wp2_with fail
  go_loopw [93] (fun i wr=>∃ (j : Nat) (ds : List Dt) (lr : List UInt8) (A : Option Addr) (c : Nat),j≤m∧i = .int .i64 j∧decD j lm = .ok (ds,lr)∧Rdr wr g A lr.length c lr 0∧Blk wr b 47 #[.int .i64 (n : Nat),.int .i64 (q : Nat),.int .i64 (t : Nat),.int .i64 (k : Nat),.int .i64 (wk : Nat),.int .i64 0,.int .i64 0,.int .i64 0,.int .i64 0,.int .i64 0,.int .i64 0,.int .i64 0,.int .i64 0,.slice (some ⟨d,0,none⟩) m m]∧Blk wr d 42 (dzs ds m)∧Only (GB g b) w wr) (fun i _=>m - (intOf i).toNat)
  case atStart=>exact ⟨0,[],lm,Am,cm,by omega,rfl,rfl,hD,bD,kd,oD⟩
  case round =>
    clear hD bD kd oD cs;obtain ⟨j,ds,lr,A,c,hj,rfl,hdj,hR,bR,kR,oR⟩:=hrel;have cs : wr.cell? ⟨b,13,none⟩ = some (.slice (some ⟨d,0,none⟩) m m):=bR.cell 13;have hdl:=decD_len _ _ _ _ hdj;have HDJ:=Lib.hid hdj;have HDL:=Lib.hid hdl;clear hdj hdl
    by_cases hlt : j < m
    · have hj0 : (0 : Int)≤(j : Int):=by omega
      have hjm : (j : Int) < (m : Int):=by omega
      have hsz:=dzs_size (ds:=ds) (m:=m) (by rw [HDL.out];omega);have HSZ:=Lib.hid hsz;clear hsz;go_wp2_with fail;refine (rdnum_any g d 42 _ (j * 2) A _ c lr _ hR kR HGD.out.1 (by rw [HSZ.out];omega)).mono ?_;intro e wx hn
      rcases hd : Vint.dec lr with x | ⟨x,lx⟩
      · obtain ⟨rfl,oo⟩:=hn.bad hd
        have HE:=Lib.hid (HDD.out (j + 1) x (by omega) (by simp [decD,HDJ.out,hd]));have HO:=Lib.hid (gb_new oR oo HGD.out.2.2);clear hd hn oo;go_wp2_with fail;exact ⟨rfl,HO.out,.inr ⟨x,HE.out,rfl⟩⟩
      obtain ⟨rfl,⟨Ax,cx,hX⟩,kX,oo⟩:=hn.good hd;have bX:=(show Blk wx b _ _ from (oo.block b bR.lt (by rintro (h | h);have:=HGB.out;omega;have:=HGD.out.2.1;omega)).trans bR);have oX:=gb_new oR oo HGD.out.2.2;have HDX:=Lib.hid hd;have cs : wx.cell? ⟨b,13,none⟩ = some (.slice (some ⟨d,0,none⟩) m m):=bX.cell 13;clear hd hn oo hR kR bR oR;go_wp2_with fail;refine (rdnum_any g d 42 _ (j * 2 + 1) Ax _ cx lx _ hX kX HGD.out.1 (by rw [Array.size_setIfInBounds,HSZ.out];omega)).mono ?_;intro e wy hn
      rcases hd : Vint.dec lx with y | ⟨y,ly⟩
      · obtain ⟨rfl,oo⟩:=hn.bad hd
        have HE:=Lib.hid (HDD.out (j + 1) y (by omega) (by simp [decD,HDJ.out,HDX.out,hd]));have HO:=Lib.hid (gb_new oX oo HGD.out.2.2);clear hd hn oo;go_wp2_with fail;exact ⟨rfl,HO.out,.inr ⟨y,HE.out,rfl⟩⟩
      obtain ⟨rfl,⟨Ay,cy,hY⟩,kY,oo⟩:=hn.good hd;have bY:=(show Blk wy b _ _ from (oo.block b bX.lt (by rintro (h | h);have:=HGB.out;omega;have:=HGD.out.2.1;omega)).trans bX);have oY:=gb_new oX oo HGD.out.2.2;have hds:=dzs_set ds m x y (by rw [HDL.out];exact hlt);rw [HDL.out] at hds;rw [hds] at kY;have HDY:=Lib.hid (show decD (j + 1) lm = .ok (ds ++ [((x : Int),(y : Int))],ly) by simp [decD,HDJ.out,HDX.out,hd]);clear hd hn oo hX kX bX oX hds;go_wp2_with fail
      go_roundw
      case rel=>exact ⟨j + 1,_,ly,Ay,cy,by omega,num_succ j (by have:=H96.out;omega),HDY.out,hY,bY,kY,oY⟩
      case measure=>exact meas_succ j m hlt (by have:=H96.out;omega)
    · obtain rfl : j = m:=by omega
      have HF:=Lib.hid (HDK2.out ds lr HDJ.out);have hkd : decide ((j : Int) < (j : Int)) = false:=decide_eq_false (by omega);go_wp2_with fail
      go_end0
      exact ⟨oR,.inl ⟨_,_,HF.out,rfl,⟨A,c,hR⟩,_,_,_,bR,own_dzs kR HDL.out HGD.out.2.2 (by have:=H96.out;omega)⟩⟩
end Go.Proofs.YtfpenfgmpbdakaaGreat

namespace Go.Proofs.YtfpenfgmpbdakaaGreat
set_option linter.unusedVariables false
set_option linter.unusedSimpArgs false
set_option maxRecDepth 100000
open Go.RowKit
open Dot Evt
def getEv (bs : List UInt8) : Ev × Nat:=match decE bs with
  | .ok (x,r)=>if r = []∧rightE x = true then (x,0) else (exZ,4)
  | .error y=>(exZ,y)
def GetEv (w : World) (bs : List UInt8) (e : Ending) (w' : World) : Prop:=∃ A m c,e = .returned (.tuple #[.agg (ec (getEv bs).1 (.slice A m c)),.int .i64 ((getEv bs).2 : Nat)])∧OwnD w' w.heap.size A m c (getEv bs).1.l∧Below w.heap.size w w'
theorem results_cc {P : Program} {T U : TypeId} {n g : Nat} {cs : Array Value} {t : TypeId} {fn : Func} {p q : Tmp} {w : World} {tmps : Array Value} {ad : Addr} {v : Value} (h : fn.results = #[.cell p T,.cell q U]) (hR : RowT P T n) (hB : Blk w g t cs) (hn : cs.size = n) (hp : tmps.getD p undef = .pointer (some ⟨g,0,none⟩)) (hq : tmps.getD q undef = .pointer (some ad)) (hl2 : (loadVar U ad).run P w = .ok v w) : (results fn tmps).run P w = .ok (.tuple #[.agg cs,v]) w:=by
  obtain ⟨d,hu,hd,hi⟩:=hR;rw [← hn,← Array.length_toList] at hi
  have hp' : tmps[p]?.getD undef = .pointer (some ⟨g,0,none⟩):=by simpa using hp
  have hq' : tmps[q]?.getD undef = .pointer (some ad):=by simpa using hq
  have hl:=run_loadVar_mid w g 0 T cs.toList d hB.range hu hd hi;rw [Array.toArray_toList] at hl
  simp [results,h,hp',hq',asAddr,hl,hl2]
def PanicQ (K : Nat) (T0 : Array Value) (D : List Deferred) (c0 : List PanicEntry) (S : World→Prop) (Q : Exit→Act→World→Prop) : Exit→Act→World→Prop
  | .panic c,a,w=>c = c0∧(∀ i,i < K→a.tmps.getD i undef = T0.getD i undef)∧a.defers = D∧S w
  | e,a,w=>Q e a w
theorem wp_panicQ {P : Program} {c : Code} {Q : Exit→Act→World→Prop} {a : Act} {w : World} {K : Nat} {T0 : Array Value} {D : List Deferred} {c0 : List PanicEntry} {S : World→Prop}
    (hp : ∀ a w,(∀ i,i < K→a.tmps.getD i undef = T0.getD i undef)→a.defers = D→S w→Q (.panic c0) a w) (h : c.wp P (PanicQ K T0 D c0 S Q) a w) : c.wp P Q a w :=
  Code.wp_mono (fun e a w h=>by
    cases e
    case panic c =>
      obtain ⟨rfl,h1,h2,h3⟩:=h;exact hp a w h1 h2 h3
    all_goals exact h) h
theorem panicQ_put {K : Nat} {T0 : Array Value} {D : List Deferred} {c0 : List PanicEntry} {S : World→Prop} {Q : Exit→Act→World→Prop} {d : Nat} {v : Value} (hd : K≤d) (c : List PanicEntry) (a : Act) (w : World) (h : PanicQ K T0 D c0 S Q (.panic c) (a.put (some d) v) w) : PanicQ K T0 D c0 S Q (.panic c) a w:=by
  obtain ⟨h1,h2,h3,h4⟩:=h;refine ⟨h1,fun i hi=>?_,h3,h4⟩;rw [← h2 i hi]
  show _ = (a.tmps.setIfInBounds d v).getD i undef
  rw [Array.getD_eq_getD_getElem?,Array.getD_eq_getD_getElem?,Array.getElem?_setIfInBounds_ne (by omega)]
theorem PanicQ.ok {K : Nat} {T0 : Array Value} {D : List Deferred} {c0 : List PanicEntry} {S : World→Prop} {Q : Exit→Act→World→Prop} {a : Act} {w : World} (h : Q .normal a w) : PanicQ K T0 D c0 S Q .normal a w:=h
theorem rowRd : RowT Tryz.prog 160 1:=⟨_,Tryz.underlying160,rfl,by kernel_rfl⟩
theorem decE_p {l : List UInt8} {x : Ev} {r : List UInt8} (h : decE l = .ok (x,r)) : x.p.length = 7:=by
  unfold decE at h
  split at h
  · cases h
  split at h
  · cases h
  split at h
  · cases h
  split at h
  · cases h
  split at h
  case isFalse=>cases h
  split at h
  · cases h
  unfold decK at h
  split at h
  · split at h
    · cases h
    · injection h with h;injection h with h _;rw [← h];rfl
  · split at h
    · split at h
      · cases h
      · rename_i hd
        split at h
        · cases h
        · injection h with h;injection h with h _
          rw [← h]
          show (List.map _ _).length = 7
          rw [List.length_map,decs_len _ _ _ _ hd]
    · split at h
      · cases h
      · injection h with h;injection h with h _;rw [← h];rfl
theorem exZ_cs : cT 0 = ec exZ (.slice none 0 0):=by kernel_rfl
set_option maxRecDepth 100000 in
set_option maxHeartbeats 2000000 in
theorem eget_any (A : Option Addr) (n c : Nat) (bs : List UInt8) (w : World) (hb : RdB w w.heap.size A n bs) (hl : n≤1000000000) :
    Calls Tryz.prog 96 #[.slice A n c] w (GetEv w bs):=by
  have HBS:=Lib.hid fun (w' : World) (h : Below w.heap.size w w')=>hb.below h
  have HL:=Lib.hid hl;clear hb hl
  go_enter_defers Tryz.func96,Tryz.ntmps96
  go_upto_region 2 with fail
  refine nameW ?_;intro W hW;obtain ⟨B,hB⟩ : ∃ B,B = w.heap.size:=⟨_,rfl⟩;rw [← hB]
  have ke : Blk W B 47 (cT 0):=by rw [hW,hB];exact (Blk.new w _ _).alloc _
  have kf : Blk W (B + 1) 27 #[.int .i64 0]:=by
    have h:=Blk.new (w.alloc (.cells (cT 0) 47)) 27 #[.int .i64 0];rw [show (w.alloc (.cells (cT 0) 47)).heap.size = w.heap.size + 1 by simp] at h;rw [hW,hB];exact h
  have gb : Below B w W:=by rw [hW,hB];exact ((Below.refl _ _).alloc (Nat.le_refl _) _).alloc (by simp) _
  have HB:=Lib.hid hB;rw [← hB] at HBS;clear hW hB;go_wp2_with fail;refine (new_any A n c bs B W (HBS.out W gb) (by have:=kf.lt;omega) (by have:=HL.out;omega)).mono ?_;rintro e w1 ⟨A1,c1,g,rfl,hg,hR,b1⟩;have ke1:=ke.below b1 ke.lt;have kf1:=kf.below b1 kf.lt;have gb1:=gb.trans (b1.mono (by have:=ke.lt;omega))
  have hgB : B + 1 < g:=by have:=kf.lt;omega
  clear ke kf gb b1 hg
  go_upto_region 4 with fail
  refine nameW ?_;intro W2 hW2;obtain ⟨v,hv⟩ : ∃ v,v = w1.heap.size:=⟨_,rfl⟩;rw [← hv]
  have kv : Blk W2 v 160 #[.pointer (some ⟨g,0,none⟩)]:=by rw [hW2,hv];exact (Blk.new w1 _ _).alloc _
  have kx : Blk W2 (v + 1) 47 (cT 0):=by
    have h:=Blk.new (w1.alloc (.cells #[.pointer (some ⟨g,0,none⟩)] 160)) 47 (cT 0);rw [show (w1.alloc (.cells #[.pointer (some ⟨g,0,none⟩)] 160)).heap.size = w1.heap.size + 1 by simp] at h;rw [hW2,hv];exact h
  have bA : Below w1.heap.size w1 W2:=by rw [hW2];exact ((Below.refl _ _).alloc (Nat.le_refl _) _).alloc (by simp) _
  have ke2:=ke1.below bA ke1.lt;have kf2:=kf1.below bA kf1.lt;have gb2:=gb1.trans (bA.mono (by have:=ke1.lt;omega));have hR2:=hR.below (bA.mono (by have:=hR.lt;omega))
  have hgv : g < v:=by have:=hR.lt;omega
  have cv : W2.cell? ⟨v,0,none⟩ = some (.pointer (some ⟨g,0,none⟩)):=kv.cell 0;clear hW2 hv ke1 kf1 gb1 hR bA;go_wp2_with fail;refine (thrr_any (v + 1) g A1 bs.length c1 bs W2 hR2 kx (by omega)).mono ?_;rintro e w3 ⟨oo,⟨x,r,hd,rfl,⟨A3,c3,hR3⟩,A4,m4,c4,kx3,o4⟩ | ⟨y,hd,rfl⟩⟩
  case inr =>
    have ke3:=ke2.only oo (by rintro (h | h) <;> omega);have kf3:=kf2.only oo (by rintro (h | h) <;> omega);have gb3:=gb2.trans (oo.to_below (B:=B) (by rintro k (h | h) <;> omega) (by have:=ke2.lt;omega))
    have he : getEv bs = (exZ,y):=by unfold getEv;rw [hd]
    have HE:=Lib.hid he;clear hd he oo;go_wp2_with fail;refine leaves_cons (f:=100) (args:=#[.pointer (some ⟨B + 1,0,none⟩)]) (by simp) (by simp [go_sem]) ?_;refine (ecaught_panic _ _ _ _ _ (kf3.cell 0) (kf3.free 0)).mono ?_;rintro e u' w4 ⟨rfl,rfl,rfl⟩;have k4:=(kf3.alloc (.cells #[.int .i64 (y : Nat)] 166)).set_ 0 (.int .i64 (y : Nat));have e4:=(ke3.alloc (.cells #[.int .i64 (y : Nat)] 166)).far (p:=⟨B + 1,0,none⟩) (by show B ≠ B + 1;omega) (.int .i64 (y : Nat));have c4:=k4.cell 0;have g4 : Below B w ((w3.alloc (.cells #[.int .i64 (y : Nat)] 166)).setCell ⟨B + 1,0,none⟩ (.int .i64 (y : Nat))):=(gb3.alloc (by have:=gb3.size;have:=HB.out;omega) _).setCell (by show B≤B + 1;omega) _;refine ⟨.tuple #[.agg (cT 0),.int .i64 (y : Nat)],results_cc rfl rowE e4 rfl rfl rfl (by simp [go_sem,c4]),none,0,0,by rw [HE.out,exZ_cs],?_,by rw [← HB.out];exact g4⟩;rw [HE.out];exact OwnD.nil _ _
  have hp7:=decE_p hd;have ke3:=ke2.only oo (by rintro (h | h) <;> omega);have kf3:=kf2.only oo (by rintro (h | h) <;> omega);have kv3:=kv.only oo (by rintro (h | h) <;> omega);have gb3:=gb2.trans (oo.to_below (B:=B) (by rintro k (h | h) <;> omega) (by have:=ke2.lt;omega));have hs2 : B < W2.heap.size:=ke2.lt;have o3:=o4.mono (base':=B) (by omega);obtain ⟨cx,hcx⟩ : ∃ cx,cx = ec x (.slice A4 m4 c4):=⟨_,rfl⟩;have SX:=Lib.hid (show cx.size = 14 by rw [hcx];rfl);have OX:=Lib.hid (show cx.all (·.oneCell') = true by rw [hcx];exact ec_one _ _ _ _)
  have hrt:=fun (w' : World) (h : Below w3.heap.size w3 w')=>eright_any x hp7 A4 m4 c4 w' (o3.rd.below h).size
  rw [← hcx] at kx3 hrt;have HCX:=Lib.hid hcx;have HRT:=Lib.hid hrt;have HO:=Lib.hid o3;have hb0:=o3.rd
  have hre:=fun (w' : World) (h : Below w3.heap.size w3 w') (z : Bool)=>rdend_any g A3 r.length c3 r z w' (hR3.below (h.mono (by have:=hR3.lt;omega)))
  have HRE:=Lib.hid hre;clear hcx hrt hre hp7 oo o4 o3 ke2 kf2 kv kx gb2 hR2 cv hb0
  by_cases hz : r = []∧rightE x = true
  · have he : getEv bs = (x,0):=by unfold getEv;rw [hd];simp only;rw [if_pos hz]
    have HE:=Lib.hid he;have HZ:=Lib.hid hz;clear he hz hd
    go_upto_region 5 with fail
    refine wp_nopanic ?_;refine wp_region_held_drew (S:=fun w'=>Below w3.heap.size w3 w') (by kernel_rfl) (Below.refl _ _).drew (fun hS=>?_);refine wpAnyH_take (i:=0) rfl (by kernel_rfl) (by kernel_rfl) (by kernel_rfl) (fun _ _ _ h=>h) (yieldsIf_ld (by rfl) rowRd (.tmp 4) rfl rfl (fun w' h=>kv3.below h kv3.lt) rfl) hS ?_
    try simp only [Act.put,List.getElem_toArray,List.getElem_cons_zero,List.getElem_cons_succ,List.setIfInBounds_toArray,List.set_cons_succ,List.set_cons_zero]
    refine wpAnyH_take (i:=1) rfl (by kernel_rfl) (by kernel_rfl) (by kernel_rfl) (fun _ _ _ h=>h) (yieldsIf_ld (by rfl) rowE (.tmp 5) rfl rfl (fun w' h=>kx3.below h kx3.lt) SX.out) hS ?_
    try simp only [Act.put,List.getElem_toArray,List.getElem_cons_zero,List.getElem_cons_succ,List.setIfInBounds_toArray,List.set_cons_succ,List.set_cons_zero]
    refine wpAnyH_ready (rs:=[2]) (by kernel_rfl) (by simp) ?_;refine AllReadyH.cons rfl (fun K hK=>?_) .nil;go_simp;refine (HRT.out _ hS).mono ?_;rintro e w4 ⟨rfl,b4⟩;refine hK.out _ _ (hS.trans (b4.mono hS.size)) (fun hS=>?_);clear hK K b4
    try simp only [Act.put,List.getElem_toArray,List.getElem_cons_zero,List.getElem_cons_succ,List.setIfInBounds_toArray,List.set_cons_succ,List.set_cons_zero]
    refine wpAnyH_ready (rs:=[3]) (by kernel_rfl) (by simp) ?_;refine AllReadyH.cons rfl (fun K hK=>?_) .nil;go_simp;refine (HRE.out _ hS _).mono ?_;rintro e w5 ⟨he,b5⟩;rw [if_pos HZ.out] at he;subst he;refine hK.out _ _ (hS.trans (b5.mono hS.size)) (fun hS=>?_);clear hK K b5;refine wpAnyH_done (by kernel_rfl) ?_ _
    try simp only [Act.put,List.getElem_toArray,List.getElem_cons_zero,List.getElem_cons_succ,List.setIfInBounds_toArray,List.set_cons_succ,List.set_cons_zero]
    refine NoPanic.ok ?_;have ke5:=ke3.below hS ke3.lt;have kf5:=kf3.below hS kf3.lt;have kx5:=kx3.below hS kx3.lt;have o5:=HO.out.below hS (Nat.le_refl _);have gb5:=gb3.trans (hS.mono (by have:=ke3.lt;omega));have SZ:=Lib.hid (show (cT 0).size = 14 from rfl);have cf5 : w5.cell? ⟨B + 1,0,none⟩ = some (.int .i64 0):=kf5.cell 0;have ff5:=kf5.free 0;clear ke3 kf3 kx3 kv3 gb3 hS HRT HRE
    go_wp2_with first
      | ((with_reducible refine wpList_ld rowE kx5 SX.out ?_ ?_);rotate_left;(rfl))
      | ((with_reducible refine wpList_st rowE ke5 SX.out SZ.out OX.out ?_ ?_ ?_);rotate_left;(rfl);(rfl);intro w6 k6 g6 z6;have cf6 : w6.cell? ⟨B + 1,0,none⟩ = some (.int .i64 0):=(kf5.grown g6 (by simp)).cell 0;have ff6:=(kf5.grown g6 (by simp)).free 0)
    have kf6:=kf5.grown g6 (by simp);refine leaves_cons (f:=100) (args:=#[.pointer (some ⟨B + 1,0,none⟩)]) (by simp) (by simp [go_sem]) ?_;refine (ecaught_none _ _).mono ?_;rintro e u' w7 ⟨rfl,rfl,rfl⟩;have k7:=k6.far (p:=⟨B + 1,0,none⟩) (by show B ≠ B + 1;omega) (.int .i64 0);have f7:=kf6.set_ 0 (.int .i64 0);have c7:=f7.cell 0;have o6:=o5.grown g6 (.inr (own_ne o5.2 ke5 (by decide)));have o7:=o6.setFar (p:=⟨B + 1,0,none⟩) (own_ne o6.2 kf6 (by decide)) (.int .i64 0);have gb7 : Below B w (w6.setCell ⟨B + 1,0,none⟩ (.int .i64 0)):=(gb5.trans (only_Below g6 (Nat.le_refl B) (by have:=ke5.lt;omega))).setCell (by show B≤B + 1;omega) _;refine ⟨.tuple #[.agg cx,.int .i64 0],results_cc rfl rowE k7 SX.out rfl rfl (by simp [go_sem,c7]),A4,m4,c4,by rw [HE.out,HCX.out];rfl,by rw [HE.out,← HB.out];exact o7,by rw [← HB.out];exact gb7⟩
  · have he : getEv bs = (exZ,4):=by unfold getEv;rw [hd];simp only;rw [if_neg hz]
    have HE:=Lib.hid he;have HZ:=Lib.hid hz;clear he hz hd
    go_upto_region 5 with fail
    refine wp_panicQ (K:=4) (T0:=#[.slice A n c,undef,.pointer (some ⟨B,0,none⟩),.pointer (some ⟨B + 1,0,none⟩)]) (D:=[{ target:=.fn (.func 100) #[],args:=#[.pointer (some ⟨B + 1,0,none⟩)] }]) (c0:=[{ v:=eflt 4,recovered:=false }]) (S:=fun w'=>Below w3.heap.size w3 w') ?hp ?hr
    case hr =>
      refine wp_region_held_drew (S:=fun w'=>Below w3.heap.size w3 w') (by kernel_rfl) (Below.refl _ _).drew (fun hS=>?_);refine wpAnyH_take (i:=0) rfl (by kernel_rfl) (by kernel_rfl) (by kernel_rfl) (fun c a w h=>panicQ_put (d:=12) (by decide) c a w h) (yieldsIf_ld (by rfl) rowRd (.tmp 4) rfl rfl (fun w' h=>kv3.below h kv3.lt) rfl) hS ?_
      try simp only [Act.put,List.getElem_toArray,List.getElem_cons_zero,List.getElem_cons_succ,List.setIfInBounds_toArray,List.set_cons_succ,List.set_cons_zero]
      refine wpAnyH_take (i:=1) rfl (by kernel_rfl) (by kernel_rfl) (by kernel_rfl) (fun c a w h=>panicQ_put (d:=13) (by decide) c a w h) (yieldsIf_ld (by rfl) rowE (.tmp 5) rfl rfl (fun w' h=>kx3.below h kx3.lt) SX.out) hS ?_
      try simp only [Act.put,List.getElem_toArray,List.getElem_cons_zero,List.getElem_cons_succ,List.setIfInBounds_toArray,List.set_cons_succ,List.set_cons_zero]
      refine wpAnyH_ready (rs:=[2]) (by kernel_rfl) (by simp) ?_;refine AllReadyH.cons rfl (fun K hK=>?_) .nil;go_simp;refine (HRT.out _ hS).mono ?_;rintro e w4 ⟨rfl,b4⟩;refine hK.out _ _ (hS.trans (b4.mono hS.size)) (fun hS=>?_);clear hK K b4
      try simp only [Act.put,List.getElem_toArray,List.getElem_cons_zero,List.getElem_cons_succ,List.setIfInBounds_toArray,List.set_cons_succ,List.set_cons_zero]
      refine wpAnyH_ready (rs:=[3]) (by kernel_rfl) (by simp) ?_;refine AllReadyH.cons rfl (fun K hK=>?_) .nil;go_simp;refine (HRE.out _ hS _).mono ?_;rintro e w5 ⟨he,b5⟩;rw [if_neg HZ.out] at he;subst he
      exact ⟨rfl,fun i hi=>by
        rcases i with _ | _ | _ | _ | i
        all_goals first | rfl | omega,rfl,hS.trans (b5.mono hS.size)⟩
    case hp =>
      rintro ⟨tm,df⟩ w' ht hdf hS;have h2:=ht 2 (by omega);have h3:=ht 3 (by omega);subst hdf;have ke5:=ke3.below hS ke3.lt;have kf5:=kf3.below hS kf3.lt;have gb5:=gb3.trans (hS.mono (by have:=ke3.lt;omega));refine leaves_cons (f:=100) (args:=#[.pointer (some ⟨B + 1,0,none⟩)]) (by simp) (by simp [go_sem]) ?_;refine (ecaught_panic _ _ _ _ _ (kf5.cell 0) (kf5.free 0)).mono ?_;rintro e u' w4 ⟨rfl,rfl,rfl⟩;have k4:=(kf5.alloc (.cells #[.int .i64 4] 166)).set_ 0 (.int .i64 4);have e4:=(ke5.alloc (.cells #[.int .i64 4] 166)).far (p:=⟨B + 1,0,none⟩) (by show B ≠ B + 1;omega) (.int .i64 4);have c4:=k4.cell 0;have g4 : Below B w ((w'.alloc (.cells #[.int .i64 4] 166)).setCell ⟨B + 1,0,none⟩ (.int .i64 4)):=(gb5.alloc (by have:=gb5.size;have:=HB.out;omega) _).setCell (by show B≤B + 1;omega) _;refine ⟨.tuple #[.agg (cT 0),.int .i64 4],results_cc rfl rowE e4 rfl h2 h3 (by simp [go_sem,c4]),none,0,0,by rw [HE.out,exZ_cs];rfl,?_,by rw [← HB.out];exact g4⟩;rw [HE.out];exact OwnD.nil _ _
end Go.Proofs.YtfpenfgmpbdakaaGreat

namespace Go.Proofs.YtfpenfgmpbdakaaGreat
set_option linter.unusedVariables false
set_option linter.unusedSimpArgs false
set_option maxRecDepth 100000
open Go.RowKit
open Dot Evt
open Disk
namespace Sto.Stp
theorem getEv_facts (bs : List UInt8) : (getEv bs).1.p.length = 7∧(getEv bs).1.l.length≤96:=by
  have hz : exZ.p.length = 7∧exZ.l.length≤96:=⟨by decide,by decide⟩
  unfold getEv
  split
  · rename_i x r hd
    split
    · rename_i h
      have hp:=decE_p hd;exact ⟨hp,(right_facts hp h.2).2.2.1⟩
    · exact ⟨hz.1,hz.2⟩
  · exact ⟨hz.1,hz.2⟩
def addE (l : List Ev) (x : Ev) : List Ev:=if hasE l x.d = true then l else l ++ [x]
def HapE (w : World) (F : Nat→Prop) (b g used u i base : Nat) (A : Option Addr) (evs : List Ev) (x : Ev) (y : Nat) (e : Ending) (w' : World) : Prop :=
  Only (fun k=>k = b∨A.map (·.block) = some k) w w'∧if y = 0 then ∃ A' n' c' xs',e = .returned (.tuple #[])∧Blk w' b 88 (sc g used u i (.slice A' n' c'))∧EvsAt w' F b base A' n' c' xs'∧xs'.map (·.e) = addE evs x∧(∀ k,A'.map (·.block) = some k→A.map (·.block) = some k∨w.heap.size≤k)
    else e = .panicked [{ v:=flt 4,recovered:=false }]
theorem HapE.ok {w w' : World} {F : Nat→Prop} {b g used u i base : Nat} {A : Option Addr} {evs : List Ev} {x : Ev} {e : Ending} (h : Only (fun k=>k = b∨A.map (·.block) = some k) w w') (h2 : ∃ A' n' c' xs',e = .returned (.tuple #[])∧Blk w' b 88 (sc g used u i (.slice A' n' c'))∧EvsAt w' F b base A' n' c' xs'∧xs'.map (·.e) = addE evs x∧(∀ k,A'.map (·.block) = some k→A.map (·.block) = some k∨w.heap.size≤k)) : HapE w F b g used u i base A evs x 0 e w':=⟨h,by rw [if_pos rfl];exact h2⟩
def HapEnd (w : World) (F : Nat→Prop) (b g used u i base : Nat) (A : Option Addr) (evs : List Ev) (t : List UInt8) : Ending→World→Prop:=HapE w F b g used u i base A evs (getEv t).1 (getEv t).2
set_option maxHeartbeats 8000000 in
theorem happens_any (F : Nat→Prop) (b g used u i base : Nat) (A : Option Addr) (n c : Nat) (xs : List EvV) (Ab : Option Addr) (nb cb : Nat) (t : List UInt8) (ws : World) (h0 : Blk ws b 88 (sc g used u i (.slice A n c))) (he : EvsAt ws F b base A n c xs) (hF : ∀ k,F k→k < ws.heap.size) (hB : base≤ws.heap.size) (hn : n≤100000) (hb : RdB ws ws.heap.size Ab nb t) (hl : nb≤1000000000) :
    Calls Tryz.prog 71 #[.pointer (some ⟨b,0,none⟩),.slice Ab nb cb] ws (HapEnd ws F b g used u i base A (xs.map (·.e)) t):=by
  obtain ⟨gp,gl⟩:=getEv_facts t;have HGE:=Lib.hid (eget_any Ab nb cb t ws hb hl);obtain ⟨x,hx⟩ : ∃ x,x = (getEv t).1:=⟨_,rfl⟩;obtain ⟨y,hy⟩ : ∃ y,y = (getEv t).2:=⟨_,rfl⟩
  unfold GetEv at HGE
  rw [← hx,← hy] at HGE
  unfold HapEnd
  rw [← hx,← hy];rw [← hx] at gp gl;have HP:=Lib.hid (And.intro gp gl);have HEV:=Lib.hid he;have hlb:=h0.lt;clear gp gl hb he;clear hx hy
  by_cases hy0 : y = 0
  case neg =>
    have hq : ((y : Int) == 0) = false:=by rw [beq_eq_false_iff_ne];omega
    have hq2 : ¬ ((y : Nat) : Int) = 0:=by omega
    go_enter Tryz.func71,Tryz.ntmps71
    go_wp2_with fail;refine HGE.out.mono ?_;rintro e w1 ⟨Ax,m,cx,rfl,ox,b1⟩;obtain ⟨ce,hce⟩ : ∃ ce,ce = ec x (.slice Ax m cx):=⟨_,rfl⟩;have SC:=Lib.hid (show ce.size = 14 by rw [hce];rfl);have OC:=Lib.hid (show ce.all (·.oneCell') = true by rw [hce];exact ec_one _ _ _ _);rw [← hce];clear hce ox
    go_upto_region 1 with ((with_reducible refine wpList_st rowE (Blk.new _ _ _) SC.out ?_ OC.out ?_ ?_ ?_);(rfl);rotate_left;(rfl);(rfl);intro w6 k6 g6 z6)
    have b6 : Below ws.heap.size ws w6:=b1.trans ((new_below g6).mono b1.size);clear g6 z6 k6;go_wp2_with fail;refine (must_no (by first | with_reducible rfl | assumption | (simp;done) | (simp;omega)) _ _).mono ?_;rintro e w7 ⟨rfl,rfl⟩;go_wp2_with fail;exact ⟨rfl,Only.of_below _ b6,by rw [if_neg hy0]⟩
  subst hy0
  go_enter Tryz.func71,Tryz.ntmps71
  go_wp2_with fail;refine HGE.out.mono ?_;rintro e w1 ⟨Ax,m,cx,rfl,ox,b1⟩;obtain ⟨z,hz⟩ : ∃ z : EvV,z = ⟨x,Ax,m,cx⟩:=⟨_,rfl⟩
  have hzc : ec x (.slice Ax m cx) = z.cs:=by rw [hz];rfl
  rw [hzc]
  have hzo : EvOwn w1 ws.heap.size z:=by rw [hz];exact ⟨HP.out.1,ox,by show m≤_;rw [ox.1];have:=HP.out.2;omega⟩
  have hze : z.e = x:=by rw [hz]
  obtain ⟨ce,hce⟩ : ∃ ce,ce = z.cs:=⟨_,rfl⟩;have SC:=Lib.hid (show ce.size = 14 by rw [hce];rfl);have OC:=Lib.hid (show ce.all (·.oneCell') = true by rw [hce];exact z.one);have X0:=Lib.hid (show ce[0]? = some (.int .i64 x.d.1) by rw [hce,← hze];rfl);have X1:=Lib.hid (show ce[1]? = some (.int .i64 x.d.2) by rw [hce,← hze];rfl);have HCE:=Lib.hid hce;have HZE:=Lib.hid hze;have HZO:=Lib.hid hzo;rw [← hce];clear hce ox hz hzc hzo hze
  go_upto_region 1 with ((with_reducible refine wpList_st rowE (Blk.new _ _ _) SC.out ?_ OC.out ?_ ?_ ?_);(rfl);rotate_left;(rfl);(rfl);intro w6 k6 g6 z6)
  have b16 : Below w1.heap.size w1 w6:=new_below g6;have b6 : Below ws.heap.size ws w6:=b1.trans (b16.mono b1.size);obtain ⟨gE,hgE⟩ : ∃ gE,gE = w1.heap.size:=⟨_,rfl⟩;rw [← hgE] at k6 ⊢
  have hgEs : ws.heap.size≤gE:=by rw [hgE];exact b1.size
  have HZO6:=Lib.hid (⟨HZO.out.1,HZO.out.2.1.below b16 (Nat.le_refl _),HZO.out.2.2⟩ : EvOwn w6 ws.heap.size z);have kS6:=h0.below b6 hlb;have HB6:=Lib.hid b6;have ev6:=HEV.out.below b6;have HE6:=Lib.hid ev6;have c4 : w6.cell? ⟨b,4,none⟩ = some (.slice A n c):=kS6.cell 4;have hlb6:=kS6.lt;have hlE:=k6.lt;have HDT:=Lib.hid (ev_dot k6 X0.out X1.out);obtain ⟨R,hR⟩ : ∃ R,R = hasE (xs.map (·.e)) x.d:=⟨_,rfl⟩;have HR:=Lib.hid hR
  have HHAS:=Lib.hid fun (w' : World) (hb : Below w6.heap.size w6 w')=>(by
    have hs:=HE6.out.below hb
    have:=shas_any A n c xs x.d.1 x.d.2 w' (hs.row.row (fun y hy=>(hs.own y hy).ok)) (by omega)
    rw [show ((x.d.1,x.d.2) : Dt) = x.d from rfl,← HR.out] at this
    exact this : Calls Tryz.prog 53 #[.slice A n c,.agg #[.int .i64 x.d.1,.int .i64 x.d.2]] w' fun e w''=>e = .returned (.bool R)∧Below w'.heap.size w' w'')
  clear g6 z6 b1 b16 b6 hR ev6 HZO hgE;go_wp2_with fail;refine (must_yes (by first | with_reducible rfl | assumption | (simp;done) | (simp;omega)) _ _).mono ?_;rintro e w7 ⟨rfl,rfl⟩
  go_upto_region 2 with fail
  refine wp_region_facts (fun L v w=>v 0 = .pointer (some ⟨b,0,none⟩)∧v 4 = .pointer (some ⟨gE,0,none⟩)∧Below w6.heap.size w6 w∧(L 0 = true→v 14 = .pointer (some ⟨b,0,none⟩))∧(L 1 = true→v 15 = .pointer (some ⟨b,0,none⟩))∧(L 2 = true→v 16 = .pointer (some ⟨b,4,none⟩))∧(L 3 = true→v 17 = .slice A n c)∧(L 4 = true→v 18 = .pointer (some ⟨gE,0,none⟩))∧(L 5 = true→v 19 = .agg #[.int .i64 x.d.1,.int .i64 x.d.2])∧(L 6 = true→v 20 = .bool R)∧(L 7 = true→v 21 = .bool (!R))) [14,15,16,17,18,19,20,21] (by kernel_rfl) (by kernel_rfl) (by kernel_rfl) (by kernel_rfl) ?h0 ?hst ?hend
  case h0 =>
    intro L h0;have h0 : ∀ i,i < 8→L i = false:=h0;exact ⟨rfl,rfl,(Below.refl _ _).drew,offF h0 (i:=0) (by decide),offF h0 (i:=1) (by decide),offF h0 (i:=2) (by decide),offF h0 (i:=3) (by decide),offF h0 (i:=4) (by decide),offF h0 (i:=5) (by decide),offF h0 (i:=6) (by decide),offF h0 (i:=7) (by decide)⟩
  case hst =>
    show FactSteps _ _ _ _ [0,1,2,3,4,5,6,7]
    refine @FactSteps.cons _ _ _ _ 0 _ [] _ rfl (by kernel_rfl) ?s0 ?_;rotate_left;refine @FactSteps.cons _ _ _ _ 1 _ [0] _ rfl (by kernel_rfl) ?s1 ?_;rotate_left;refine @FactSteps.cons _ _ _ _ 2 _ [1] _ rfl (by kernel_rfl) ?s2 ?_;rotate_left;refine @FactSteps.cons _ _ _ _ 3 _ [2] _ rfl (by kernel_rfl) ?s3 ?_;rotate_left;refine @FactSteps.cons _ _ _ _ 4 _ [] _ rfl (by kernel_rfl) ?s4 ?_;rotate_left;refine @FactSteps.cons _ _ _ _ 5 _ [4] _ rfl (by kernel_rfl) ?s5 ?_;rotate_left;refine @FactSteps.cons _ _ _ _ 6 _ [3,5] _ rfl (by kernel_rfl) ?s6 ?_;rotate_left;refine @FactSteps.cons _ _ _ _ 7 _ [6] _ rfl (by kernel_rfl) ?s7 ?_;rotate_left;exact FactSteps.nil
    case s0 =>
      rintro L a v w hv hg hL hd hcl ⟨e0,e4,hb,f0,f1,f2,f3,f4,f5,f6,f7⟩ K hK;refine step_do rfl ?_;clear hv;go_simp;exact hK.out _ _ ⟨e0,e4,hb,fun _=>rfl,f1,f2,f3,f4,f5,f6,f7⟩
    case s1 =>
      rintro L a v w hv hg hL hd hcl ⟨e0,e4,hb,f0,f1,f2,f3,f4,f5,f6,f7⟩ K hK;have g0:=f0 (hd 0 (by decide));have g0:=f0 (hd 0 (by decide));refine step_do rfl ?_;clear hv;go_simp;exact hK.out _ _ ⟨e0,e4,hb,f0,fun _=>rfl,f2,f3,f4,f5,f6,f7⟩
    case s2 =>
      rintro L a v w hv hg hL hd hcl ⟨e0,e4,hb,f0,f1,f2,f3,f4,f5,f6,f7⟩ K hK;have g1:=f1 (hd 1 (by decide));have g1:=f1 (hd 1 (by decide));refine step_do rfl ?_;clear hv;go_simp;exact hK.out _ _ ⟨e0,e4,hb,f0,f1,fun _=>rfl,f3,f4,f5,f6,f7⟩
    case s3 =>
      rintro L a v w hv hg hL hd hcl ⟨e0,e4,hb,f0,f1,f2,f3,f4,f5,f6,f7⟩ K hK;have g2:=f2 (hd 2 (by decide));have g2:=f2 (hd 2 (by decide));have cs4 : w.cell? ⟨b,4,none⟩ = some (.slice A n c):=(hb.cell (p:=⟨b,4,none⟩) hlb6).trans c4;refine step_do rfl ?_;clear hv;go_simp;exact hK.out _ _ ⟨e0,e4,hb,f0,f1,f2,fun _=>rfl,f4,f5,f6,f7⟩
    case s4 =>
      rintro L a v w hv hg hL hd hcl ⟨e0,e4,hb,f0,f1,f2,f3,f4,f5,f6,f7⟩ K hK;refine step_do rfl ?_;clear hv;go_simp;exact hK.out _ _ ⟨e0,e4,hb,f0,f1,f2,f3,fun _=>rfl,f5,f6,f7⟩
    case s5 =>
      rintro L a v w hv hg hL hd hcl ⟨e0,e4,hb,f0,f1,f2,f3,f4,f5,f6,f7⟩ K hK;have g4:=f4 (hd 4 (by decide));refine step_do rfl ?_;refine wp_ldr rowDt2 (.tmp 18) rfl ((hv 18).trans g4) (range_keep HDT.out hb hlE) rfl ?_;exact hK.out _ _ ⟨e0,e4,hb,f0,f1,f2,f3,f4,fun _=>rfl,f6,f7⟩
    case s6 =>
      rintro L a v w hv hg hL hd hcl ⟨e0,e4,hb,f0,f1,f2,f3,f4,f5,f6,f7⟩ K hK;have g3:=f3 (hd 3 (by decide));have g5:=f5 (hd 5 (by decide));have hh:=HHAS.out w hb;refine step_do rfl ?_;clear hv;go_simp;refine hh.mono ?_;rintro e wy ⟨rfl,bb⟩;exact hK.out _ _ ⟨e0,e4,(hb.trans (bb.mono hb.size)),f0,f1,f2,f3,f4,f5,fun _=>rfl,f7⟩
    case s7 =>
      rintro L a v w hv hg hL hd hcl ⟨e0,e4,hb,f0,f1,f2,f3,f4,f5,f6,f7⟩ K hK;have g6:=f6 (hd 6 (by decide));refine step_do rfl ?_;clear hv;go_simp;exact hK.out _ _ ⟨e0,e4,hb,f0,f1,f2,f3,f4,f5,f6,fun _=>rfl⟩
  case hend =>
  rintro L v w7 hall ⟨e0,e4,hb,f0,f1,f2,f3,f4,f5,f6,f7⟩;have hL : ∀ i,i < 8→L i = true:=hall;have f0:=f0 (hL 0 (by decide));have f1:=f1 (hL 1 (by decide));have f2:=f2 (hL 2 (by decide));have f3:=f3 (hL 3 (by decide));have f4:=f4 (hL 4 (by decide));have f5:=f5 (hL 5 (by decide));have f6:=f6 (hL 6 (by decide));have f7:=f7 (hL 7 (by decide))
  simp only [finA,List.foldl_cons,List.foldl_nil,Act.put,List.setIfInBounds_toArray,List.set_cons_succ,List.set_cons_zero,f0,f1,f2,f3,f4,f7,f5,f6]
  have k7:=k6.below hb k6.lt;have kS7:=kS6.below hb kS6.lt;have e7:=HE6.out.below hb;have HZ7:=Lib.hid (⟨HZO6.out.1,HZO6.out.2.1.below hb (Nat.le_refl _),HZO6.out.2.2⟩ : EvOwn w7 ws.heap.size z);have HB7:=Lib.hid (HB6.out.trans (hb.mono HB6.out.size));clear e0 e4 f0 f1 f2 f3 f4 f5 f6 f7 hL hall hb;have HE7:=Lib.hid e7;clear HHAS HDT HE6 HB6 HZO6 c4 hlb6 hlE e7
  cases R
  case true =>
    have hadd : addE (xs.map (·.e)) x = xs.map (·.e):=by unfold addE;rw [if_pos HR.out.symm]
    have HAD:=Lib.hid hadd;clear hadd;go_wp2_with fail
    go_end0
    exact HapE.ok (Only.of_below _ HB7.out) ⟨A,n,c,xs,rfl,kS7,HE7.out,HAD.out.symm,fun k hk=>.inl hk⟩
  have hadd : addE (xs.map (·.e)) x = xs.map (·.e) ++ [x]:=by unfold addE;rw [if_neg (by rw [← HR.out];decide)]
  have HAD:=Lib.hid hadd
  have hnEA : ¬ A.map (·.block) = some gE:=fun e=>by have:=(HEV.out.row.lt gE e).2;omega
  have hnbA : ¬ A.map (·.block) = some b:=own_ne HE7.out.row.2 kS7 (by decide);have hbase : base≤w7.heap.size:=Nat.le_trans hB HB7.out.size;have HBS:=Lib.hid (fun w=>(by have:=buildE1 z w;rw [← HCE.out] at this;exact this : (Instr.buildSlice 48 1 #[(0,.agg ce)]).run Tryz.prog w = .ok (.slice (some ⟨w.heap.size,0,none⟩) 1 1) (w.alloc (.cells ce 47))));clear hadd
  go_upto_region 3 with fail
  refine wp_region_tailF 12 8 (fun L v w=>v 4 = .pointer (some ⟨gE,0,none⟩)∧v 0 = .pointer (some ⟨b,0,none⟩)∧Only (fun k=>A.map (·.block) = some k) w7 w∧(L 7 = false→Below w7.heap.size w7 w)∧(L 0 = true→v 22 = .pointer (some ⟨b,0,none⟩))∧(L 1 = true→v 23 = .pointer (some ⟨b,0,none⟩))∧(L 2 = true→v 24 = .pointer (some ⟨b,0,none⟩))∧(L 3 = true→v 25 = .pointer (some ⟨b,4,none⟩))∧(L 4 = true→v 26 = .slice A n c)∧(L 5 = true→v 27 = .agg ce)∧(L 6 = true→(L 7 = false→∃ (gB : Nat),v 28 = .slice (some ⟨gB,0,none⟩) 1 1∧Blk w gB 47 ce))∧(L 7 = true→KpRow ws w base A n xs x (v 29))) [22,23,24,25,26,27,28,29] (by kernel_rfl) (by kernel_rfl) (by kernel_rfl) (by kernel_rfl) (by kernel_rfl) (by kernel_rfl) ?h0 ?hst ?hend
  case h0 =>
    intro L h0;have h0 : ∀ i,i < 8→L i = false:=h0;exact ⟨rfl,rfl,(Only.of_below _ (Below.refl _ _).drew),(fun _=>(Below.refl _ _).drew),offF h0 (i:=0) (by decide),offF h0 (i:=1) (by decide),offF h0 (i:=2) (by decide),offF h0 (i:=3) (by decide),offF h0 (i:=4) (by decide),offF h0 (i:=5) (by decide),offF h0 (i:=6) (by decide),offF h0 (i:=7) (by decide)⟩
  case hst =>
    show FactSteps _ _ _ _ [0,1,2,3,4,5,6,7]
    refine @FactSteps.cons _ _ _ _ 0 _ [] _ rfl (by kernel_rfl) ?s0 ?_;rotate_left;refine @FactSteps.cons _ _ _ _ 1 _ [] _ rfl (by kernel_rfl) ?s1 ?_;rotate_left;refine @FactSteps.cons _ _ _ _ 2 _ [1] _ rfl (by kernel_rfl) ?s2 ?_;rotate_left;refine @FactSteps.cons _ _ _ _ 3 _ [2] _ rfl (by kernel_rfl) ?s3 ?_;rotate_left;refine @FactSteps.cons _ _ _ _ 4 _ [3] _ rfl (by kernel_rfl) ?s4 ?_;rotate_left;refine @FactSteps.cons _ _ _ _ 5 _ [] _ rfl (by kernel_rfl) ?s5 ?_;rotate_left;refine @FactSteps.cons _ _ _ _ 6 _ [5] _ rfl (by kernel_rfl) ?s6 ?_;rotate_left;refine @FactSteps.cons _ _ _ _ 7 _ [4,6] _ rfl (by kernel_rfl) ?s7 ?_;rotate_left;exact FactSteps.nil
    case s0 =>
      rintro L a v w hv hg hL hd hcl ⟨e4,e0,ho,hb7,f0,f1,f2,f3,f4,f5,f6,f7⟩ K hK;refine step_do rfl ?_;clear hv;go_simp;exact hK.out _ _ ⟨e4,e0,ho,hb7,fun _=>rfl,f1,f2,f3,f4,f5,f6,f7⟩
    case s1 =>
      rintro L a v w hv hg hL hd hcl ⟨e4,e0,ho,hb7,f0,f1,f2,f3,f4,f5,f6,f7⟩ K hK;refine step_do rfl ?_;clear hv;go_simp;exact hK.out _ _ ⟨e4,e0,ho,hb7,f0,fun _=>rfl,f2,f3,f4,f5,f6,f7⟩
    case s2 =>
      rintro L a v w hv hg hL hd hcl ⟨e4,e0,ho,hb7,f0,f1,f2,f3,f4,f5,f6,f7⟩ K hK;have g1:=f1 (hd 1 (by decide));have g1:=f1 (hd 1 (by decide));refine step_do rfl ?_;clear hv;go_simp;exact hK.out _ _ ⟨e4,e0,ho,hb7,f0,f1,fun _=>rfl,f3,f4,f5,f6,f7⟩
    case s3 =>
      rintro L a v w hv hg hL hd hcl ⟨e4,e0,ho,hb7,f0,f1,f2,f3,f4,f5,f6,f7⟩ K hK;have g2:=f2 (hd 2 (by decide));have g2:=f2 (hd 2 (by decide));refine step_do rfl ?_;clear hv;go_simp;exact hK.out _ _ ⟨e4,e0,ho,hb7,f0,f1,f2,fun _=>rfl,f4,f5,f6,f7⟩
    case s4 =>
      rintro L a v w hv hg hL hd hcl ⟨e4,e0,ho,hb7,f0,f1,f2,f3,f4,f5,f6,f7⟩ K hK;have g3:=f3 (hd 3 (by decide));have g3:=f3 (hd 3 (by decide));have cs4 : w.cell? ⟨b,4,none⟩ = some (.slice A n c):=(kS7.only ho hnbA).cell 4;refine step_do rfl ?_;clear hv;go_simp;exact hK.out _ _ ⟨e4,e0,ho,hb7,f0,f1,f2,f3,fun _=>rfl,f5,f6,f7⟩
    case s5 =>
      rintro L a v w hv hg hL hd hcl ⟨e4,e0,ho,hb7,f0,f1,f2,f3,f4,f5,f6,f7⟩ K hK;refine step_do rfl ?_;refine wp_ld rowE (.tmp 4) rfl ((hv 4).trans e4) (k7.only ho hnEA) SC.out ?_;exact hK.out _ _ ⟨e4,e0,ho,hb7,f0,f1,f2,f3,f4,fun _=>rfl,f6,f7⟩
    case s6 =>
      rintro L a v w hv hg hL hd hcl ⟨e4,e0,ho,hb7,f0,f1,f2,f3,f4,f5,f6,f7⟩ K hK;have c7 : L 7 = false:=off_of hcl (j:=7) (by kernel_rfl : waitsAt _ 7 = [4,6]) (d:=6) (by decide) hL;have q5:=(hv 27).trans (f5 (hd 5 (by decide)));have bb : Below w.heap.size w (w.alloc (.cells ce 47)):=(Below.refl _ _).alloc (Nat.le_refl _) _;refine step_do rfl ?_;refine step_bs (v:=.slice (some ⟨w.heap.size,0,none⟩) 1 1) (w':=w.alloc (.cells ce 47)) 48 1 #[(0,.tmp 27)] rfl (by simp only [List.map_toArray,List.map_cons,List.map_nil,q5];exact HBS.out w) ?_;exact hK.out _ _ ⟨e4,e0,(ho.then_below (bb.mono ho.size)),(fun _=>(hb7 c7).trans (bb.mono (hb7 c7).size)),f0,f1,f2,f3,f4,f5,fun _ _=>⟨w.heap.size,rfl,Blk.new w _ _⟩,(offC c7)⟩
    case s7 =>
      rintro L a v w hv hg hL hd hcl ⟨e4,e0,ho,hb7,f0,f1,f2,f3,f4,f5,f6,f7⟩ K hK;have g4:=f4 (hd 4 (by decide));obtain ⟨gB,q6,kB⟩:=f6 (hd 6 (by decide)) hL;have hbx:=hb7 hL;have evx:=HE7.out.below hbx;have ozx : EvOwn w ws.heap.size z:=⟨HZ7.out.1,HZ7.out.2.1.below hbx (Nat.le_refl _),HZ7.out.2.2⟩;refine step_do rfl ?_;refine step_appE (.tmp 26) (.tmp 28) rfl ((hv 26).trans g4) evx.row ((hv 28).trans q6) (news:=[z]) (B:=gB + 1) (by rw [show ecsL [z] = ce.toList by rw [HCE.out];simp [ecsL]];exact Blk.rdMg kB) rfl (by omega) (Nat.le_trans hbase hbx.size) ?_;intro A9 c9 w9 o9 g9 m9 b9
      have kp : KpRow ws w9 base A n xs x (.slice A9 (n + 1) c9):=⟨A9,c9,z,rfl,o9,HZE.out,fun y hy=>(by
          rcases List.mem_append.1 hy with q | q
          · exact ⟨(evx.own y q).1,(evx.own y q).2.1.grown g9 (own2_ne (evx.own y q).2.1.2 evx.row.2 (by decide)),(evx.own y q).2.2⟩
          · rw [List.mem_singleton.1 q];exact ⟨ozx.1,(ozx.2.1.mono hB).grown g9 (own2_ne ozx.2.1.2 evx.row.2 (by decide)),ozx.2.2⟩),(by
          rcases m9 with q | q
          · exact .inl q
          · exact .inr (fun k hk=>by rw [q] at hk;injection hk with hk;rw [← hk];exact Nat.le_trans HB7.out.size hbx.size)),fun k hk=>(ozx.2.1.lt k hk).1⟩
      exact hK.out _ _ ⟨e4,e0,(ho.trans (only_row g9) (Grows.refl _ _)),(fun h=>(by cases h)),f0,f1,f2,f3,f4,f5,(fun _ h=>(by cases h)),fun _=>kp⟩
  case hend =>
  rintro L v we hall ⟨e4,e0,ho,hb7,f0,f1,f2,f3,f4,f5,f6,f7⟩;have hL : ∀ i,i < 8→L i = true:=hall;have f0:=f0 (hL 0 (by decide));have f1:=f1 (hL 1 (by decide));have f2:=f2 (hL 2 (by decide));have f3:=f3 (hL 3 (by decide));have f4:=f4 (hL 4 (by decide));have f5:=f5 (hL 5 (by decide));have f6:=f6 (hL 6 (by decide));have f7:=f7 (hL 7 (by decide));obtain ⟨A9,c9,z9,q8,o9,hz,hown,hmv,hzb⟩:=f7
  simp only [finA,List.foldl_cons,List.foldl_nil,Act.put,List.setIfInBounds_toArray,List.set_cons_succ,List.set_cons_zero,f0,f1,f2,f3,f4,f5,q8]
  have kS:=kS7.only ho hnbA;have HO:=Lib.hid ho;clear e4 e0 f0 f1 f2 f3 f4 f5 f6 hL hall ho hb7 q8
  show wpList _ _ _ [_,_,_] _ _
  have c4e : we.cell? ⟨b,4,none⟩ = some (.slice A n c):=kS.cell 4;have u4e:=kS.free 4;have hlbe:=kS.lt;have k10:=kS.set_ 4 (.slice A9 (n + 1) c9)
  have hev : EvsAt (we.setCell ⟨b,4,none⟩ (.slice A9 (n + 1) c9)) F b base A9 (n + 1) c9 (xs ++ [z9]):=by
    have e : EvsAt we F b base A9 (n + 1) c9 (xs ++ [z9]):=⟨o9,hown,fun k hk=>by
      rcases hmv with q | q
      · exact HEV.out.nf k (by rw [← q];exact hk)
      · have h9:=q k hk
        exact ⟨fun y=>by have:=hF k y;omega,by omega⟩,fun y hy k hk=>by
      rcases List.mem_append.1 hy with q | q
      · exact HEV.out.nfx y q k hk
      · rw [List.mem_singleton.1 q] at hk
        have h9:=hzb k hk
        exact ⟨fun y=>by have:=hF k y;omega,by omega⟩⟩
    exact e.setT kS (by decide) (by decide) 4 _
  have hmv2 : ∀ k,A9.map (·.block) = some k→A.map (·.block) = some k∨ws.heap.size≤k:=fun k hk=>by
    rcases hmv with q | q
    · exact .inl (by rw [← q];exact hk)
    · exact .inr (q k hk)
  have hon : Only (fun k=>k = b∨A.map (·.block) = some k) ws (we.setCell ⟨b,4,none⟩ (.slice A9 (n + 1) c9)):=Only.setCell (((Only.of_below _ HB7.out).trans (HO.out.mono (fun k hk=>.inl (.inr hk))) (Grows.refl _ _))) (.inl (.inl rfl)) _;have HFIN:=Lib.hid (And.intro hon (And.intro k10 (And.intro hev (And.intro hz hmv2))));clear k10 hev hmv hmv2 hon hown hzb o9 hz kS;go_wp2_with fail
  go_end0
  exact HapE.ok HFIN.out.1 ⟨A9,n + 1,c9,xs ++ [z9],rfl,HFIN.out.2.1,HFIN.out.2.2.1,by rw [List.map_append,List.map_cons,List.map_nil,HFIN.out.2.2.2.1,HAD.out],HFIN.out.2.2.2.2⟩
end Sto.Stp
end Go.Proofs.YtfpenfgmpbdakaaGreat

namespace Go.Proofs.YtfpenfgmpbdakaaGreat
set_option linter.unusedVariables false
set_option linter.unusedSimpArgs false
set_option maxRecDepth 100000
open Go.RowKit
open Disk
namespace Sto
theorem SaysEnd.from_ {w0 w1 w2 : World} {b g used : Nat} {E : Value} {o : Option (Nat × Nat)} {e : Ending} (hb : Below w0.heap.size w0 w1) (h : SaysEnd w1 b g used E o e w2) : SaysEnd w0 b g used E o e w2 :=
  ⟨⟨h.1.os.trans hb.os,h.1.tape.trans hb.tape,h.1.output.trans hb.output,Nat.le_trans hb.size h.1.size,fun k hk hne=>(h.1.block k (Nat.lt_of_lt_of_le hk hb.size) hne).trans (hb.block k hk)⟩,h.2⟩
def recM (s : Nat × Nat) : List UInt8→Option (Nat × Nat)
  | []=>none
  | k :: t=>if k = 1 then (numM 96 t).map fun x=>(max s.1 x,s.2) else if k = 2 then (numM 1099511627776 t).map fun x=>(s.1,max s.2 x) else none
theorem read_nil (b g used u i : Nat) (E : Value) (A : Option Addr) (c : Nat) (w : World) (h0 : Blk w b 88 (sc g used u i E)) :
    Calls Tryz.prog 41 #[.pointer (some ⟨b,0,none⟩),.slice A 0 c] w (SaysEnd w b g used E none):=by
  go_enter Tryz.func41,Tryz.ntmps41
  go_upto_region 1 with fail
  refine nameW ?_;intro W hW
  have hbW : Below w.heap.size w W:=by rw [hW];exact (Below.refl _ _).alloc (Nat.le_refl _) _
  clear hW;go_wp2_with fail;refine (must_bad _ _).mono ?_;rintro e w2 ⟨rfl,rfl⟩;go_wp2_with fail;exact ⟨rfl,only_of_below hbW _,rfl⟩
theorem read_bad (b g used u i : Nat) (E : Value) (a : Addr) (n c : Nat) (kd : UInt8) (t : List UInt8) (B : Nat) (w : World) (h0 : Blk w b 88 (sc g used u i E)) (hb : RdB w B (some a) n (kd :: t)) (hB : B≤w.heap.size) (hk : kd.toNat < 1∨3 < kd.toNat) :
    Calls Tryz.prog 41 #[.pointer (some ⟨b,0,none⟩),.slice (some a) n c] w (SaysEnd w b g used E none):=by
  have hn1 : 1≤n:=by have:=hb.1;simp at this;omega
  obtain ⟨ad,hA,hab,hv0⟩:=hb.at_ (k:=0) (by simp)
  obtain rfl : a = ad:=by injection hA
  have hv1 : w.cell? a = some (.int .u8 (kd.toNat : Nat)):=by simpa [go_sem] using hv0
  have hd0 : decide ((0 : Int) < (n : Int)) = true:=decide_eq_true (by omega);have hd1 : decide (0 < n) = true:=decide_eq_true (by omega)
  have hn0 : (0 : Int) < (n : Int):=by omega
  generalize kd.toNat = z at *
  clear hv0 hA hb h0
  rcases hk with hk | hk
  · have hk1 : (z : Int) < 1:=by omega
    have hk2 : ¬ (1 : Int)≤(z : Int):=by omega
    go_enter Tryz.func41,Tryz.ntmps41
    go_upto_region 1 with fail
    refine nameW ?_;intro W hW
    have hbW : Below w.heap.size w W:=by rw [hW];exact (Below.refl _ _).alloc (Nat.le_refl _) _
    have hvW : W.cell? a = some (.int .u8 (z : Nat)):=(hbW.cell (Nat.lt_of_lt_of_le hab hB)).trans hv1;clear hW hv1;go_wp2_with fail;refine (must_no (by first | with_reducible rfl | (simp;done) | (simp;omega)) _ _).mono ?_;rintro e w2 ⟨rfl,rfl⟩;go_wp2_with fail;exact ⟨rfl,only_of_below hbW _,rfl⟩
  · have hk1 : (1 : Int)≤(z : Int):=by omega
    have hk2 : ¬ (z : Int)≤3:=by omega
    have hk3 : (3 : Int) < (z : Int):=by omega
    go_enter Tryz.func41,Tryz.ntmps41
    go_upto_region 1 with fail
    refine nameW ?_;intro W hW
    have hbW : Below w.heap.size w W:=by rw [hW];exact (Below.refl _ _).alloc (Nat.le_refl _) _
    have hvW : W.cell? a = some (.int .u8 (z : Nat)):=(hbW.cell (Nat.lt_of_lt_of_le hab hB)).trans hv1;clear hW hv1;go_wp2_with fail;refine (must_no (by first | with_reducible rfl | (simp;done) | (simp;omega)) _ _).mono ?_;rintro e w2 ⟨rfl,rfl⟩;go_wp2_with fail;exact ⟨rfl,only_of_below hbW _,rfl⟩
set_option maxHeartbeats 1000000 in
theorem read1_any (b g used u i : Nat) (E : Value) (ad : Addr) (n c : Nat) (t : List UInt8) (B : Nat) (w0 : World) (h0 : Blk w0 b 88 (sc g used u i E)) (hb : RdB w0 B (some ad) n (1 :: t)) (hB : B≤w0.heap.size) (hl : n≤140737488355000) (hc : n≤c) (hm : c≤maxLen) :
    Calls Tryz.prog 41 #[.pointer (some ⟨b,0,none⟩),.slice (some ad) n c] w0 (SaysEnd w0 b g used E ((numM 96 t).map fun x=>(max u x,i))):=by
  have n1 : 1≤n:=by have:=hb.1;simp at this;omega
  have hlt:=h0.lt;obtain ⟨a',hA,hab,hv0⟩:=hb.at_ (k:=0) (by simp)
  obtain rfl : ad = a':=by injection hA
  have hv2 : w0.cell? ad = some (bv 1):=by simpa [go_sem] using hv0
  have hv1 : w0.cell? ad = some (.int .u8 1):=hv2;have hbt:=hb.drop 1;rw [List.drop_one,List.tail_cons] at hbt;have hd0 : decide ((0 : Int) < (n : Int)) = true:=decide_eq_true (by omega);have hd1 : decide (0 < n) = true:=decide_eq_true (by omega)
  have hn0 : (0 : Int) < (n : Int):=by omega
  have hnl : n = t.length + 1:=by have:=hb.1;simpa using this
  unfold maxLen at hm
  have hnp : 0 < n:=n1
  have hnz : (1 : Int)≤(n : Int):=by omega
  clear hv0 hv2 hA hb hd0 hd1
  by_cases hc1 : c = 1
  · obtain rfl : n = 1:=by omega
    subst hc1;obtain rfl : t = []:=List.eq_nil_of_length_eq_zero (by omega)
    have HC0:=Lib.hid fun (w' : World) (h : Below w0.heap.size w0 w')=>reserves_any b g used u i E (some ad) 0 0 [] 0 w' (h0.below h hlt) (RdB.nil _ _ _) (by omega) (by omega)
    generalize (numM 96 []).map (fun x=>(max u x,i)) = o at *
    clear hbt h0 hnl
    go_enter Tryz.func41,Tryz.ntmps41
    go_upto_region 1 with fail
    refine nameW ?_;intro W hW;obtain ⟨G,hG⟩ : ∃ G,G = w0.heap.size:=⟨_,rfl⟩;rw [← hG]
    have hbW : Below w0.heap.size w0 W:=by rw [hW];exact (Below.refl _ _).alloc (Nat.le_refl _) _
    have cG : W.cell? ⟨G,1,none⟩ = some (.func (.func 69) #[] #[]):=by rw [hW,hG];exact (Blk.new w0 _ #[.nilFunc,.func (.func 69) #[] #[],.func (.func 70) #[] #[],.func (.func 71) #[] #[]]).cell 1
    have hGW : G < W.heap.size:=by rw [hW,hG];simp
    have hvW : W.cell? ad = some (.int .u8 1):=(hbW.cell (Nat.lt_of_lt_of_le hab hB)).trans hv1
    have habW : ad.block < W.heap.size:=by have:=hbW.size;omega
    have HC:=Lib.hid fun (w' : World) (h : Below W.heap.size W w')=>HC0.out w' (hbW.trans (h.mono hbW.size))
    clear hW hG hv1;go_wp2_with fail;refine (must_ok _ _).mono ?_;rintro e w2 ⟨rfl,rfl⟩
    go_upto_region 2 with fail
    refine wp_region_tailF 6 8 (fun L v w=>v 0 = .pointer (some ⟨b,0,none⟩)∧v 1 = .slice (some ad) 1 1∧v 4 = .pointer (some ⟨G,0,none⟩)∧Below W.heap.size W w∧(L 0 = true→v 22 = .slice (some ad) 1 1)∧(L 1 = true→v 23 = .pointer (some ad))∧(L 2 = true→v 24 = .int .u8 1)∧(L 3 = true→v 25 = .pointer (some ⟨G,1,none⟩))∧(L 4 = true→v 26 = .func (.func 69) #[] #[])∧(L 5 = true→v 27 = .pointer (some ⟨b,0,none⟩))∧(L 6 = true→v 28 = .slice (some ad) 1 1)∧(L 7 = true→v 29 = .slice (some ad) 0 0)) [22,23,24,25,26,27,28,29] (by kernel_rfl) (by kernel_rfl) (by kernel_rfl) (by kernel_rfl) (by kernel_rfl) (by kernel_rfl) ?h0 ?hst ?hend
    case h0 =>
      intro L h0;have h0 : ∀ i,i < 8→L i = false:=h0;exact ⟨rfl,rfl,rfl,(Below.refl _ _).drew,offF h0 (i:=0) (by decide),offF h0 (i:=1) (by decide),offF h0 (i:=2) (by decide),offF h0 (i:=3) (by decide),offF h0 (i:=4) (by decide),offF h0 (i:=5) (by decide),offF h0 (i:=6) (by decide),offF h0 (i:=7) (by decide)⟩
    case hst =>
      show FactSteps _ _ _ _ [0,1,2,3,4,5,6,7]
      refine @FactSteps.cons _ _ _ _ 0 _ [] _ rfl (by kernel_rfl) ?s0 ?_;rotate_left;refine @FactSteps.cons _ _ _ _ 1 _ [0] _ rfl (by kernel_rfl) ?s1 ?_;rotate_left;refine @FactSteps.cons _ _ _ _ 2 _ [1] _ rfl (by kernel_rfl) ?s2 ?_;rotate_left;refine @FactSteps.cons _ _ _ _ 3 _ [2] _ rfl (by kernel_rfl) ?s3 ?_;rotate_left;refine @FactSteps.cons _ _ _ _ 4 _ [3] _ rfl (by kernel_rfl) ?s4 ?_;rotate_left;refine @FactSteps.cons _ _ _ _ 5 _ [] _ rfl (by kernel_rfl) ?s5 ?_;rotate_left;refine @FactSteps.cons _ _ _ _ 6 _ [] _ rfl (by kernel_rfl) ?s6 ?_;rotate_left;refine @FactSteps.cons _ _ _ _ 7 _ [6] _ rfl (by kernel_rfl) ?s7 ?_;rotate_left;exact FactSteps.nil
      case s0 =>
        rintro L a v w hv hg hL hd hcl ⟨e0,e1,e4,hb,f0,f1,f2,f3,f4,f5,f6,f7⟩ K hK;refine step_do rfl ?_;clear hv;go_simp;exact hK.out _ _ ⟨e0,e1,e4,hb,fun _=>rfl,f1,f2,f3,f4,f5,f6,f7⟩
      case s1 =>
        rintro L a v w hv hg hL hd hcl ⟨e0,e1,e4,hb,f0,f1,f2,f3,f4,f5,f6,f7⟩ K hK;have g0:=f0 (hd 0 (by decide));refine step_do rfl ?_;clear hv;go_simp;exact hK.out _ _ ⟨e0,e1,e4,hb,f0,fun _=>rfl,f2,f3,f4,f5,f6,f7⟩
      case s2 =>
        rintro L a v w hv hg hL hd hcl ⟨e0,e1,e4,hb,f0,f1,f2,f3,f4,f5,f6,f7⟩ K hK;have g1:=f1 (hd 1 (by decide));have hc2:=(hb.cell habW).trans hvW;refine step_do rfl ?_;clear hv;go_simp;exact hK.out _ _ ⟨e0,e1,e4,hb,f0,f1,fun _=>rfl,f3,f4,f5,f6,f7⟩
      case s3 =>
        rintro L a v w hv hg hL hd hcl ⟨e0,e1,e4,hb,f0,f1,f2,f3,f4,f5,f6,f7⟩ K hK;have g2:=f2 (hd 2 (by decide));refine step_do rfl ?_;clear hv;go_simp;exact hK.out _ _ ⟨e0,e1,e4,hb,f0,f1,f2,fun _=>rfl,f4,f5,f6,f7⟩
      case s4 =>
        rintro L a v w hv hg hL hd hcl ⟨e0,e1,e4,hb,f0,f1,f2,f3,f4,f5,f6,f7⟩ K hK;have g3:=f3 (hd 3 (by decide));have hc4:=(hb.cell (p:=⟨G,1,none⟩) hGW).trans cG;refine step_do rfl ?_;clear hv;go_simp;exact hK.out _ _ ⟨e0,e1,e4,hb,f0,f1,f2,f3,fun _=>rfl,f5,f6,f7⟩
      case s5 =>
        rintro L a v w hv hg hL hd hcl ⟨e0,e1,e4,hb,f0,f1,f2,f3,f4,f5,f6,f7⟩ K hK;refine step_do rfl ?_;clear hv;go_simp;exact hK.out _ _ ⟨e0,e1,e4,hb,f0,f1,f2,f3,f4,fun _=>rfl,f6,f7⟩
      case s6 =>
        rintro L a v w hv hg hL hd hcl ⟨e0,e1,e4,hb,f0,f1,f2,f3,f4,f5,f6,f7⟩ K hK;refine step_do rfl ?_;clear hv;go_simp;exact hK.out _ _ ⟨e0,e1,e4,hb,f0,f1,f2,f3,f4,f5,fun _=>rfl,f7⟩
      case s7 =>
        rintro L a v w hv hg hL hd hcl ⟨e0,e1,e4,hb,f0,f1,f2,f3,f4,f5,f6,f7⟩ K hK;have g6:=f6 (hd 6 (by decide));refine step_do rfl ?_;clear hv;go_simp;exact hK.out _ _ ⟨e0,e1,e4,hb,f0,f1,f2,f3,f4,f5,f6,fun _=>rfl⟩
    case hend =>
    rintro L v wx hall ⟨e0,e1,e4,hb,f0,f1,f2,f3,f4,f5,f6,f7⟩;have hL : ∀ i,i < 8→L i = true:=hall;have f0:=f0 (hL 0 (by decide));have f1:=f1 (hL 1 (by decide));have f2:=f2 (hL 2 (by decide));have f3:=f3 (hL 3 (by decide));have f4:=f4 (hL 4 (by decide));have f5:=f5 (hL 5 (by decide));have f6:=f6 (hL 6 (by decide));have f7:=f7 (hL 7 (by decide))
    simp only [finA,List.foldl_cons,List.foldl_nil,Act.put,List.setIfInBounds_toArray,List.set_cons_succ,List.set_cons_zero,f0,f1,f2,f3,f4,f5,f6,f7]
    clear e0 e1 e4 f0 f1 f2 f3 f4 f5 f6 f7 hL hall
    show wpList _ _ _ [_] _ _
    go_wp2_with fail;refine (HC.out wx hb).mono ?_;rintro e w3 h;have h:=SaysEnd.from_ (hbW.trans (hb.mono hbW.size)) h
    rcases o with _ | ⟨u',i'⟩
    · obtain ⟨h1,rfl⟩:=h
      exact ⟨rfl,h1,rfl⟩
    · obtain ⟨h1,rfl,h2⟩:=h
      go_wp2_with fail
      go_end0
      exact ⟨h1,rfl,h2⟩
  · have HC0:=Lib.hid fun (w' : World) (h : Below w0.heap.size w0 w')=>reserves_any b g used u i E (some ⟨ad.block,ad.off + 1,none⟩) (n - 1) (c - 1) t B w' (h0.below h hlt) (hbt.below (h.mono hB)) (Nat.le_trans hB h.size) (by omega)
    generalize (numM 96 t).map (fun x=>(max u x,i)) = o at *
    have hc2' : 1≤c:=by omega
    clear hbt h0 hnl
    go_enter Tryz.func41,Tryz.ntmps41
    go_upto_region 1 with fail
    refine nameW ?_;intro W hW;obtain ⟨G,hG⟩ : ∃ G,G = w0.heap.size:=⟨_,rfl⟩;rw [← hG]
    have hbW : Below w0.heap.size w0 W:=by rw [hW];exact (Below.refl _ _).alloc (Nat.le_refl _) _
    have cG : W.cell? ⟨G,1,none⟩ = some (.func (.func 69) #[] #[]):=by rw [hW,hG];exact (Blk.new w0 _ #[.nilFunc,.func (.func 69) #[] #[],.func (.func 70) #[] #[],.func (.func 71) #[] #[]]).cell 1
    have hGW : G < W.heap.size:=by rw [hW,hG];simp
    have hvW : W.cell? ad = some (.int .u8 1):=(hbW.cell (Nat.lt_of_lt_of_le hab hB)).trans hv1
    have habW : ad.block < W.heap.size:=by have:=hbW.size;omega
    have HC:=Lib.hid fun (w' : World) (h : Below W.heap.size W w')=>HC0.out w' (hbW.trans (h.mono hbW.size))
    clear hW hG hv1;go_wp2_with fail;refine (must_ok _ _).mono ?_;rintro e w2 ⟨rfl,rfl⟩
    go_upto_region 2 with fail
    refine wp_region_tailF 6 8 (fun L v w=>v 0 = .pointer (some ⟨b,0,none⟩)∧v 1 = .slice (some ad) n c∧v 4 = .pointer (some ⟨G,0,none⟩)∧Below W.heap.size W w∧(L 0 = true→v 22 = .slice (some ad) n c)∧(L 1 = true→v 23 = .pointer (some ad))∧(L 2 = true→v 24 = .int .u8 1)∧(L 3 = true→v 25 = .pointer (some ⟨G,1,none⟩))∧(L 4 = true→v 26 = .func (.func 69) #[] #[])∧(L 5 = true→v 27 = .pointer (some ⟨b,0,none⟩))∧(L 6 = true→v 28 = .slice (some ad) n c)∧(L 7 = true→v 29 = .slice (some ⟨ad.block,ad.off + 1,none⟩) (n - 1) (c - 1))) [22,23,24,25,26,27,28,29] (by kernel_rfl) (by kernel_rfl) (by kernel_rfl) (by kernel_rfl) (by kernel_rfl) (by kernel_rfl) ?h0 ?hst ?hend
    case h0 =>
      intro L h0;have h0 : ∀ i,i < 8→L i = false:=h0;exact ⟨rfl,rfl,rfl,(Below.refl _ _).drew,offF h0 (i:=0) (by decide),offF h0 (i:=1) (by decide),offF h0 (i:=2) (by decide),offF h0 (i:=3) (by decide),offF h0 (i:=4) (by decide),offF h0 (i:=5) (by decide),offF h0 (i:=6) (by decide),offF h0 (i:=7) (by decide)⟩
    case hst =>
      show FactSteps _ _ _ _ [0,1,2,3,4,5,6,7]
      refine @FactSteps.cons _ _ _ _ 0 _ [] _ rfl (by kernel_rfl) ?s0 ?_;rotate_left;refine @FactSteps.cons _ _ _ _ 1 _ [0] _ rfl (by kernel_rfl) ?s1 ?_;rotate_left;refine @FactSteps.cons _ _ _ _ 2 _ [1] _ rfl (by kernel_rfl) ?s2 ?_;rotate_left;refine @FactSteps.cons _ _ _ _ 3 _ [2] _ rfl (by kernel_rfl) ?s3 ?_;rotate_left;refine @FactSteps.cons _ _ _ _ 4 _ [3] _ rfl (by kernel_rfl) ?s4 ?_;rotate_left;refine @FactSteps.cons _ _ _ _ 5 _ [] _ rfl (by kernel_rfl) ?s5 ?_;rotate_left;refine @FactSteps.cons _ _ _ _ 6 _ [] _ rfl (by kernel_rfl) ?s6 ?_;rotate_left;refine @FactSteps.cons _ _ _ _ 7 _ [6] _ rfl (by kernel_rfl) ?s7 ?_;rotate_left;exact FactSteps.nil
      case s0 =>
        rintro L a v w hv hg hL hd hcl ⟨e0,e1,e4,hb,f0,f1,f2,f3,f4,f5,f6,f7⟩ K hK;refine step_do rfl ?_;clear hv;go_simp;exact hK.out _ _ ⟨e0,e1,e4,hb,fun _=>rfl,f1,f2,f3,f4,f5,f6,f7⟩
      case s1 =>
        rintro L a v w hv hg hL hd hcl ⟨e0,e1,e4,hb,f0,f1,f2,f3,f4,f5,f6,f7⟩ K hK;have g0:=f0 (hd 0 (by decide));refine step_do rfl ?_;clear hv;go_simp;exact hK.out _ _ ⟨e0,e1,e4,hb,f0,fun _=>rfl,f2,f3,f4,f5,f6,f7⟩
      case s2 =>
        rintro L a v w hv hg hL hd hcl ⟨e0,e1,e4,hb,f0,f1,f2,f3,f4,f5,f6,f7⟩ K hK;have g1:=f1 (hd 1 (by decide));have hc2:=(hb.cell habW).trans hvW;refine step_do rfl ?_;clear hv;go_simp;exact hK.out _ _ ⟨e0,e1,e4,hb,f0,f1,fun _=>rfl,f3,f4,f5,f6,f7⟩
      case s3 =>
        rintro L a v w hv hg hL hd hcl ⟨e0,e1,e4,hb,f0,f1,f2,f3,f4,f5,f6,f7⟩ K hK;have g2:=f2 (hd 2 (by decide));refine step_do rfl ?_;clear hv;go_simp;exact hK.out _ _ ⟨e0,e1,e4,hb,f0,f1,f2,fun _=>rfl,f4,f5,f6,f7⟩
      case s4 =>
        rintro L a v w hv hg hL hd hcl ⟨e0,e1,e4,hb,f0,f1,f2,f3,f4,f5,f6,f7⟩ K hK;have g3:=f3 (hd 3 (by decide));have hc4:=(hb.cell (p:=⟨G,1,none⟩) hGW).trans cG;refine step_do rfl ?_;clear hv;go_simp;exact hK.out _ _ ⟨e0,e1,e4,hb,f0,f1,f2,f3,fun _=>rfl,f5,f6,f7⟩
      case s5 =>
        rintro L a v w hv hg hL hd hcl ⟨e0,e1,e4,hb,f0,f1,f2,f3,f4,f5,f6,f7⟩ K hK;refine step_do rfl ?_;clear hv;go_simp;exact hK.out _ _ ⟨e0,e1,e4,hb,f0,f1,f2,f3,f4,fun _=>rfl,f6,f7⟩
      case s6 =>
        rintro L a v w hv hg hL hd hcl ⟨e0,e1,e4,hb,f0,f1,f2,f3,f4,f5,f6,f7⟩ K hK;refine step_do rfl ?_;clear hv;go_simp;exact hK.out _ _ ⟨e0,e1,e4,hb,f0,f1,f2,f3,f4,f5,fun _=>rfl,f7⟩
      case s7 =>
        rintro L a v w hv hg hL hd hcl ⟨e0,e1,e4,hb,f0,f1,f2,f3,f4,f5,f6,f7⟩ K hK;have g6:=f6 (hd 6 (by decide));refine step_do rfl ?_;clear hv;go_simp;exact hK.out _ _ ⟨e0,e1,e4,hb,f0,f1,f2,f3,f4,f5,f6,fun _=>rfl⟩
    case hend =>
    rintro L v wx hall ⟨e0,e1,e4,hb,f0,f1,f2,f3,f4,f5,f6,f7⟩;have hL : ∀ i,i < 8→L i = true:=hall;have f0:=f0 (hL 0 (by decide));have f1:=f1 (hL 1 (by decide));have f2:=f2 (hL 2 (by decide));have f3:=f3 (hL 3 (by decide));have f4:=f4 (hL 4 (by decide));have f5:=f5 (hL 5 (by decide));have f6:=f6 (hL 6 (by decide));have f7:=f7 (hL 7 (by decide))
    simp only [finA,List.foldl_cons,List.foldl_nil,Act.put,List.setIfInBounds_toArray,List.set_cons_succ,List.set_cons_zero,f0,f1,f2,f3,f4,f5,f6,f7]
    clear e0 e1 e4 f0 f1 f2 f3 f4 f5 f6 f7 hL hall
    show wpList _ _ _ [_] _ _
    go_wp2_with fail;refine (HC.out wx hb).mono ?_;rintro e w3 h;have h:=SaysEnd.from_ (hbW.trans (hb.mono hbW.size)) h
    rcases o with _ | ⟨u',i'⟩
    · obtain ⟨h1,rfl⟩:=h
      exact ⟨rfl,h1,rfl⟩
    · obtain ⟨h1,rfl,h2⟩:=h
      go_wp2_with fail
      go_end0
      exact ⟨h1,rfl,h2⟩
set_option maxHeartbeats 1000000 in
theorem read2_any (b g used u i : Nat) (E : Value) (ad : Addr) (n c : Nat) (t : List UInt8) (B : Nat) (w0 : World) (h0 : Blk w0 b 88 (sc g used u i E)) (hb : RdB w0 B (some ad) n (2 :: t)) (hB : B≤w0.heap.size) (hl : n≤140737488355000) (hc : n≤c) (hm : c≤maxLen) :
    Calls Tryz.prog 41 #[.pointer (some ⟨b,0,none⟩),.slice (some ad) n c] w0 (SaysEnd w0 b g used E ((numM 1099511627776 t).map fun x=>(u,max i x))):=by
  have n1 : 1≤n:=by have:=hb.1;simp at this;omega
  have hlt:=h0.lt;obtain ⟨a',hA,hab,hv0⟩:=hb.at_ (k:=0) (by simp)
  obtain rfl : ad = a':=by injection hA
  have hv2 : w0.cell? ad = some (bv 2):=by simpa [go_sem] using hv0
  have hv1 : w0.cell? ad = some (.int .u8 2):=hv2;have hbt:=hb.drop 1;rw [List.drop_one,List.tail_cons] at hbt;have hd0 : decide ((0 : Int) < (n : Int)) = true:=decide_eq_true (by omega);have hd1 : decide (0 < n) = true:=decide_eq_true (by omega)
  have hn0 : (0 : Int) < (n : Int):=by omega
  have hnl : n = t.length + 1:=by have:=hb.1;simpa using this
  unfold maxLen at hm
  have hnp : 0 < n:=n1
  have hnz : (1 : Int)≤(n : Int):=by omega
  clear hv0 hv2 hA hb hd0 hd1
  by_cases hc1 : c = 1
  · obtain rfl : n = 1:=by omega
    subst hc1;obtain rfl : t = []:=List.eq_nil_of_length_eq_zero (by omega)
    have HC0:=Lib.hid fun (w' : World) (h : Below w0.heap.size w0 w')=>bumps_any b g used u i E (some ad) 0 0 [] 0 w' (h0.below h hlt) (RdB.nil _ _ _) (by omega) (by omega)
    generalize (numM 1099511627776 []).map (fun x=>(u,max i x)) = o at *
    clear hbt h0 hnl
    go_enter Tryz.func41,Tryz.ntmps41
    go_upto_region 1 with fail
    refine nameW ?_;intro W hW;obtain ⟨G,hG⟩ : ∃ G,G = w0.heap.size:=⟨_,rfl⟩;rw [← hG]
    have hbW : Below w0.heap.size w0 W:=by rw [hW];exact (Below.refl _ _).alloc (Nat.le_refl _) _
    have cG : W.cell? ⟨G,2,none⟩ = some (.func (.func 70) #[] #[]):=by rw [hW,hG];exact (Blk.new w0 _ #[.nilFunc,.func (.func 69) #[] #[],.func (.func 70) #[] #[],.func (.func 71) #[] #[]]).cell 2
    have hGW : G < W.heap.size:=by rw [hW,hG];simp
    have hvW : W.cell? ad = some (.int .u8 2):=(hbW.cell (Nat.lt_of_lt_of_le hab hB)).trans hv1
    have habW : ad.block < W.heap.size:=by have:=hbW.size;omega
    have HC:=Lib.hid fun (w' : World) (h : Below W.heap.size W w')=>HC0.out w' (hbW.trans (h.mono hbW.size))
    clear hW hG hv1;go_wp2_with fail;refine (must_ok _ _).mono ?_;rintro e w2 ⟨rfl,rfl⟩
    go_upto_region 2 with fail
    refine wp_region_tailF 6 8 (fun L v w=>v 0 = .pointer (some ⟨b,0,none⟩)∧v 1 = .slice (some ad) 1 1∧v 4 = .pointer (some ⟨G,0,none⟩)∧Below W.heap.size W w∧(L 0 = true→v 22 = .slice (some ad) 1 1)∧(L 1 = true→v 23 = .pointer (some ad))∧(L 2 = true→v 24 = .int .u8 2)∧(L 3 = true→v 25 = .pointer (some ⟨G,2,none⟩))∧(L 4 = true→v 26 = .func (.func 70) #[] #[])∧(L 5 = true→v 27 = .pointer (some ⟨b,0,none⟩))∧(L 6 = true→v 28 = .slice (some ad) 1 1)∧(L 7 = true→v 29 = .slice (some ad) 0 0)) [22,23,24,25,26,27,28,29] (by kernel_rfl) (by kernel_rfl) (by kernel_rfl) (by kernel_rfl) (by kernel_rfl) (by kernel_rfl) ?h0 ?hst ?hend
    case h0 =>
      intro L h0;have h0 : ∀ i,i < 8→L i = false:=h0;exact ⟨rfl,rfl,rfl,(Below.refl _ _).drew,offF h0 (i:=0) (by decide),offF h0 (i:=1) (by decide),offF h0 (i:=2) (by decide),offF h0 (i:=3) (by decide),offF h0 (i:=4) (by decide),offF h0 (i:=5) (by decide),offF h0 (i:=6) (by decide),offF h0 (i:=7) (by decide)⟩
    case hst =>
      show FactSteps _ _ _ _ [0,1,2,3,4,5,6,7]
      refine @FactSteps.cons _ _ _ _ 0 _ [] _ rfl (by kernel_rfl) ?s0 ?_;rotate_left;refine @FactSteps.cons _ _ _ _ 1 _ [0] _ rfl (by kernel_rfl) ?s1 ?_;rotate_left;refine @FactSteps.cons _ _ _ _ 2 _ [1] _ rfl (by kernel_rfl) ?s2 ?_;rotate_left;refine @FactSteps.cons _ _ _ _ 3 _ [2] _ rfl (by kernel_rfl) ?s3 ?_;rotate_left;refine @FactSteps.cons _ _ _ _ 4 _ [3] _ rfl (by kernel_rfl) ?s4 ?_;rotate_left;refine @FactSteps.cons _ _ _ _ 5 _ [] _ rfl (by kernel_rfl) ?s5 ?_;rotate_left;refine @FactSteps.cons _ _ _ _ 6 _ [] _ rfl (by kernel_rfl) ?s6 ?_;rotate_left;refine @FactSteps.cons _ _ _ _ 7 _ [6] _ rfl (by kernel_rfl) ?s7 ?_;rotate_left;exact FactSteps.nil
      case s0 =>
        rintro L a v w hv hg hL hd hcl ⟨e0,e1,e4,hb,f0,f1,f2,f3,f4,f5,f6,f7⟩ K hK;refine step_do rfl ?_;clear hv;go_simp;exact hK.out _ _ ⟨e0,e1,e4,hb,fun _=>rfl,f1,f2,f3,f4,f5,f6,f7⟩
      case s1 =>
        rintro L a v w hv hg hL hd hcl ⟨e0,e1,e4,hb,f0,f1,f2,f3,f4,f5,f6,f7⟩ K hK;have g0:=f0 (hd 0 (by decide));refine step_do rfl ?_;clear hv;go_simp;exact hK.out _ _ ⟨e0,e1,e4,hb,f0,fun _=>rfl,f2,f3,f4,f5,f6,f7⟩
      case s2 =>
        rintro L a v w hv hg hL hd hcl ⟨e0,e1,e4,hb,f0,f1,f2,f3,f4,f5,f6,f7⟩ K hK;have g1:=f1 (hd 1 (by decide));have hc2:=(hb.cell habW).trans hvW;refine step_do rfl ?_;clear hv;go_simp;exact hK.out _ _ ⟨e0,e1,e4,hb,f0,f1,fun _=>rfl,f3,f4,f5,f6,f7⟩
      case s3 =>
        rintro L a v w hv hg hL hd hcl ⟨e0,e1,e4,hb,f0,f1,f2,f3,f4,f5,f6,f7⟩ K hK;have g2:=f2 (hd 2 (by decide));refine step_do rfl ?_;clear hv;go_simp;exact hK.out _ _ ⟨e0,e1,e4,hb,f0,f1,f2,fun _=>rfl,f4,f5,f6,f7⟩
      case s4 =>
        rintro L a v w hv hg hL hd hcl ⟨e0,e1,e4,hb,f0,f1,f2,f3,f4,f5,f6,f7⟩ K hK;have g3:=f3 (hd 3 (by decide));have hc4:=(hb.cell (p:=⟨G,2,none⟩) hGW).trans cG;refine step_do rfl ?_;clear hv;go_simp;exact hK.out _ _ ⟨e0,e1,e4,hb,f0,f1,f2,f3,fun _=>rfl,f5,f6,f7⟩
      case s5 =>
        rintro L a v w hv hg hL hd hcl ⟨e0,e1,e4,hb,f0,f1,f2,f3,f4,f5,f6,f7⟩ K hK;refine step_do rfl ?_;clear hv;go_simp;exact hK.out _ _ ⟨e0,e1,e4,hb,f0,f1,f2,f3,f4,fun _=>rfl,f6,f7⟩
      case s6 =>
        rintro L a v w hv hg hL hd hcl ⟨e0,e1,e4,hb,f0,f1,f2,f3,f4,f5,f6,f7⟩ K hK;refine step_do rfl ?_;clear hv;go_simp;exact hK.out _ _ ⟨e0,e1,e4,hb,f0,f1,f2,f3,f4,f5,fun _=>rfl,f7⟩
      case s7 =>
        rintro L a v w hv hg hL hd hcl ⟨e0,e1,e4,hb,f0,f1,f2,f3,f4,f5,f6,f7⟩ K hK;have g6:=f6 (hd 6 (by decide));refine step_do rfl ?_;clear hv;go_simp;exact hK.out _ _ ⟨e0,e1,e4,hb,f0,f1,f2,f3,f4,f5,f6,fun _=>rfl⟩
    case hend =>
    rintro L v wx hall ⟨e0,e1,e4,hb,f0,f1,f2,f3,f4,f5,f6,f7⟩;have hL : ∀ i,i < 8→L i = true:=hall;have f0:=f0 (hL 0 (by decide));have f1:=f1 (hL 1 (by decide));have f2:=f2 (hL 2 (by decide));have f3:=f3 (hL 3 (by decide));have f4:=f4 (hL 4 (by decide));have f5:=f5 (hL 5 (by decide));have f6:=f6 (hL 6 (by decide));have f7:=f7 (hL 7 (by decide))
    simp only [finA,List.foldl_cons,List.foldl_nil,Act.put,List.setIfInBounds_toArray,List.set_cons_succ,List.set_cons_zero,f0,f1,f2,f3,f4,f5,f6,f7]
    clear e0 e1 e4 f0 f1 f2 f3 f4 f5 f6 f7 hL hall
    show wpList _ _ _ [_] _ _
    go_wp2_with fail;refine (HC.out wx hb).mono ?_;rintro e w3 h;have h:=SaysEnd.from_ (hbW.trans (hb.mono hbW.size)) h
    rcases o with _ | ⟨u',i'⟩
    · obtain ⟨h1,rfl⟩:=h
      exact ⟨rfl,h1,rfl⟩
    · obtain ⟨h1,rfl,h2⟩:=h
      go_wp2_with fail
      go_end0
      exact ⟨h1,rfl,h2⟩
  · have HC0:=Lib.hid fun (w' : World) (h : Below w0.heap.size w0 w')=>bumps_any b g used u i E (some ⟨ad.block,ad.off + 1,none⟩) (n - 1) (c - 1) t B w' (h0.below h hlt) (hbt.below (h.mono hB)) (Nat.le_trans hB h.size) (by omega)
    generalize (numM 1099511627776 t).map (fun x=>(u,max i x)) = o at *
    have hc2' : 1≤c:=by omega
    clear hbt h0 hnl
    go_enter Tryz.func41,Tryz.ntmps41
    go_upto_region 1 with fail
    refine nameW ?_;intro W hW;obtain ⟨G,hG⟩ : ∃ G,G = w0.heap.size:=⟨_,rfl⟩;rw [← hG]
    have hbW : Below w0.heap.size w0 W:=by rw [hW];exact (Below.refl _ _).alloc (Nat.le_refl _) _
    have cG : W.cell? ⟨G,2,none⟩ = some (.func (.func 70) #[] #[]):=by rw [hW,hG];exact (Blk.new w0 _ #[.nilFunc,.func (.func 69) #[] #[],.func (.func 70) #[] #[],.func (.func 71) #[] #[]]).cell 2
    have hGW : G < W.heap.size:=by rw [hW,hG];simp
    have hvW : W.cell? ad = some (.int .u8 2):=(hbW.cell (Nat.lt_of_lt_of_le hab hB)).trans hv1
    have habW : ad.block < W.heap.size:=by have:=hbW.size;omega
    have HC:=Lib.hid fun (w' : World) (h : Below W.heap.size W w')=>HC0.out w' (hbW.trans (h.mono hbW.size))
    clear hW hG hv1;go_wp2_with fail;refine (must_ok _ _).mono ?_;rintro e w2 ⟨rfl,rfl⟩
    go_upto_region 2 with fail
    refine wp_region_tailF 6 8 (fun L v w=>v 0 = .pointer (some ⟨b,0,none⟩)∧v 1 = .slice (some ad) n c∧v 4 = .pointer (some ⟨G,0,none⟩)∧Below W.heap.size W w∧(L 0 = true→v 22 = .slice (some ad) n c)∧(L 1 = true→v 23 = .pointer (some ad))∧(L 2 = true→v 24 = .int .u8 2)∧(L 3 = true→v 25 = .pointer (some ⟨G,2,none⟩))∧(L 4 = true→v 26 = .func (.func 70) #[] #[])∧(L 5 = true→v 27 = .pointer (some ⟨b,0,none⟩))∧(L 6 = true→v 28 = .slice (some ad) n c)∧(L 7 = true→v 29 = .slice (some ⟨ad.block,ad.off + 1,none⟩) (n - 1) (c - 1))) [22,23,24,25,26,27,28,29] (by kernel_rfl) (by kernel_rfl) (by kernel_rfl) (by kernel_rfl) (by kernel_rfl) (by kernel_rfl) ?h0 ?hst ?hend
    case h0 =>
      intro L h0;have h0 : ∀ i,i < 8→L i = false:=h0;exact ⟨rfl,rfl,rfl,(Below.refl _ _).drew,offF h0 (i:=0) (by decide),offF h0 (i:=1) (by decide),offF h0 (i:=2) (by decide),offF h0 (i:=3) (by decide),offF h0 (i:=4) (by decide),offF h0 (i:=5) (by decide),offF h0 (i:=6) (by decide),offF h0 (i:=7) (by decide)⟩
    case hst =>
      show FactSteps _ _ _ _ [0,1,2,3,4,5,6,7]
      refine @FactSteps.cons _ _ _ _ 0 _ [] _ rfl (by kernel_rfl) ?s0 ?_;rotate_left;refine @FactSteps.cons _ _ _ _ 1 _ [0] _ rfl (by kernel_rfl) ?s1 ?_;rotate_left;refine @FactSteps.cons _ _ _ _ 2 _ [1] _ rfl (by kernel_rfl) ?s2 ?_;rotate_left;refine @FactSteps.cons _ _ _ _ 3 _ [2] _ rfl (by kernel_rfl) ?s3 ?_;rotate_left;refine @FactSteps.cons _ _ _ _ 4 _ [3] _ rfl (by kernel_rfl) ?s4 ?_;rotate_left;refine @FactSteps.cons _ _ _ _ 5 _ [] _ rfl (by kernel_rfl) ?s5 ?_;rotate_left;refine @FactSteps.cons _ _ _ _ 6 _ [] _ rfl (by kernel_rfl) ?s6 ?_;rotate_left;refine @FactSteps.cons _ _ _ _ 7 _ [6] _ rfl (by kernel_rfl) ?s7 ?_;rotate_left;exact FactSteps.nil
      case s0 =>
        rintro L a v w hv hg hL hd hcl ⟨e0,e1,e4,hb,f0,f1,f2,f3,f4,f5,f6,f7⟩ K hK;refine step_do rfl ?_;clear hv;go_simp;exact hK.out _ _ ⟨e0,e1,e4,hb,fun _=>rfl,f1,f2,f3,f4,f5,f6,f7⟩
      case s1 =>
        rintro L a v w hv hg hL hd hcl ⟨e0,e1,e4,hb,f0,f1,f2,f3,f4,f5,f6,f7⟩ K hK;have g0:=f0 (hd 0 (by decide));refine step_do rfl ?_;clear hv;go_simp;exact hK.out _ _ ⟨e0,e1,e4,hb,f0,fun _=>rfl,f2,f3,f4,f5,f6,f7⟩
      case s2 =>
        rintro L a v w hv hg hL hd hcl ⟨e0,e1,e4,hb,f0,f1,f2,f3,f4,f5,f6,f7⟩ K hK;have g1:=f1 (hd 1 (by decide));have hc2:=(hb.cell habW).trans hvW;refine step_do rfl ?_;clear hv;go_simp;exact hK.out _ _ ⟨e0,e1,e4,hb,f0,f1,fun _=>rfl,f3,f4,f5,f6,f7⟩
      case s3 =>
        rintro L a v w hv hg hL hd hcl ⟨e0,e1,e4,hb,f0,f1,f2,f3,f4,f5,f6,f7⟩ K hK;have g2:=f2 (hd 2 (by decide));refine step_do rfl ?_;clear hv;go_simp;exact hK.out _ _ ⟨e0,e1,e4,hb,f0,f1,f2,fun _=>rfl,f4,f5,f6,f7⟩
      case s4 =>
        rintro L a v w hv hg hL hd hcl ⟨e0,e1,e4,hb,f0,f1,f2,f3,f4,f5,f6,f7⟩ K hK;have g3:=f3 (hd 3 (by decide));have hc4:=(hb.cell (p:=⟨G,2,none⟩) hGW).trans cG;refine step_do rfl ?_;clear hv;go_simp;exact hK.out _ _ ⟨e0,e1,e4,hb,f0,f1,f2,f3,fun _=>rfl,f5,f6,f7⟩
      case s5 =>
        rintro L a v w hv hg hL hd hcl ⟨e0,e1,e4,hb,f0,f1,f2,f3,f4,f5,f6,f7⟩ K hK;refine step_do rfl ?_;clear hv;go_simp;exact hK.out _ _ ⟨e0,e1,e4,hb,f0,f1,f2,f3,f4,fun _=>rfl,f6,f7⟩
      case s6 =>
        rintro L a v w hv hg hL hd hcl ⟨e0,e1,e4,hb,f0,f1,f2,f3,f4,f5,f6,f7⟩ K hK;refine step_do rfl ?_;clear hv;go_simp;exact hK.out _ _ ⟨e0,e1,e4,hb,f0,f1,f2,f3,f4,f5,fun _=>rfl,f7⟩
      case s7 =>
        rintro L a v w hv hg hL hd hcl ⟨e0,e1,e4,hb,f0,f1,f2,f3,f4,f5,f6,f7⟩ K hK;have g6:=f6 (hd 6 (by decide));refine step_do rfl ?_;clear hv;go_simp;exact hK.out _ _ ⟨e0,e1,e4,hb,f0,f1,f2,f3,f4,f5,f6,fun _=>rfl⟩
    case hend =>
    rintro L v wx hall ⟨e0,e1,e4,hb,f0,f1,f2,f3,f4,f5,f6,f7⟩;have hL : ∀ i,i < 8→L i = true:=hall;have f0:=f0 (hL 0 (by decide));have f1:=f1 (hL 1 (by decide));have f2:=f2 (hL 2 (by decide));have f3:=f3 (hL 3 (by decide));have f4:=f4 (hL 4 (by decide));have f5:=f5 (hL 5 (by decide));have f6:=f6 (hL 6 (by decide));have f7:=f7 (hL 7 (by decide))
    simp only [finA,List.foldl_cons,List.foldl_nil,Act.put,List.setIfInBounds_toArray,List.set_cons_succ,List.set_cons_zero,f0,f1,f2,f3,f4,f5,f6,f7]
    clear e0 e1 e4 f0 f1 f2 f3 f4 f5 f6 f7 hL hall
    show wpList _ _ _ [_] _ _
    go_wp2_with fail;refine (HC.out wx hb).mono ?_;rintro e w3 h;have h:=SaysEnd.from_ (hbW.trans (hb.mono hbW.size)) h
    rcases o with _ | ⟨u',i'⟩
    · obtain ⟨h1,rfl⟩:=h
      exact ⟨rfl,h1,rfl⟩
    · obtain ⟨h1,rfl,h2⟩:=h
      go_wp2_with fail
      go_end0
      exact ⟨h1,rfl,h2⟩
theorem recM_cons (s : Nat × Nat) (k : UInt8) (t : List UInt8) : recM s (k :: t) = if k = 1 then (numM 96 t).map fun x=>(max s.1 x,s.2) else if k = 2 then (numM 1099511627776 t).map fun x=>(s.1,max s.2 x) else none:=rfl
theorem read_any (b g used u i : Nat) (E : Value) (A : Option Addr) (n c : Nat) (bs : List UInt8) (B : Nat) (w : World) (h0 : Blk w b 88 (sc g used u i E)) (hb : RdB w B A n bs) (hB : B≤w.heap.size) (hl : n≤140737488355000) (hc : n≤c) (hm : c≤maxLen) (h3 : bs.head? ≠ some 3) :
    Calls Tryz.prog 41 #[.pointer (some ⟨b,0,none⟩),.slice A n c] w (SaysEnd w b g used E (recM (u,i) bs)):=by
  rcases bs with _ | ⟨kd,t⟩
  · obtain rfl : n = 0:=hb.1
    exact read_nil b g used u i E A c w h0
  · obtain ⟨a,rfl,_,_⟩:=hb.at_ (k:=0) (by simp)
    rw [recM_cons]
    by_cases k1 : kd = 1
    · subst k1
      rw [if_pos rfl];exact read1_any b g used u i E a n c t B w h0 hb hB hl hc hm
    rw [if_neg k1]
    by_cases k2 : kd = 2
    · subst k2
      rw [if_pos rfl];exact read2_any b g used u i E a n c t B w h0 hb hB hl hc hm
    rw [if_neg k2]
    have k3 : kd ≠ 3:=fun e=>h3 (by rw [e];rfl)
    refine read_bad b g used u i E a n c kd t B w h0 hb hB ?_
    have e1 : kd.toNat ≠ 1:=fun e=>k1 (UInt8.toNat_inj.1 e)
    have e2 : kd.toNat ≠ 2:=fun e=>k2 (UInt8.toNat_inj.1 e)
    have e3 : kd.toNat ≠ 3:=fun e=>k3 (UInt8.toNat_inj.1 e)
    omega
end Sto
end Go.Proofs.YtfpenfgmpbdakaaGreat

namespace Go.Proofs.YtfpenfgmpbdakaaGreat
set_option linter.unusedVariables false
set_option linter.unusedSimpArgs false
set_option maxRecDepth 100000
open Go.RowKit
open Dot Evt
open Disk
namespace Sto.Stp
def HapG (w : World) (F : Nat→Prop) (b g used u i base : Nat) (A : Option Addr) (evs : List Ev) (x : Ev) (w' : World) : Prop :=
  ∃ A' n' c' xs',Blk w' b 88 (sc g used u i (.slice A' n' c'))∧EvsAt w' F b base A' n' c' xs'∧xs'.map (·.e) = addE evs x∧(∀ k,A'.map (·.block) = some k→A.map (·.block) = some k∨w.heap.size≤k)
section
variable {w w0 w1 w' : World} {F : Nat→Prop} {b g used u i base : Nat} {A : Option Addr} {evs : List Ev} {x : Ev} {y : Nat} {e : Ending}
theorem HapE.from_ (h : HapE w1 F b g used u i base A evs x y e w') (hb : Below w0.heap.size w0 w1) : HapE w0 F b g used u i base A evs x y e w':=by
  obtain ⟨h1,h2⟩:=h;refine ⟨(Only.of_below (fun k=>k = b∨A.map (·.block) = some k) hb).trans h1 (Grows.refl _ _),?_⟩
  by_cases hy : y = 0
  · rw [if_pos hy] at h2 ⊢
    obtain ⟨A',n',c',xs',q1,q2,q3,q4,q5⟩:=h2;exact ⟨A',n',c',xs',q1,q2,q3,q4,fun k hk=>(q5 k hk).imp id fun q=>Nat.le_trans hb.size q⟩
  · rw [if_neg hy] at h2 ⊢
    exact h2
theorem HapE.split (h : HapE w F b g used u i base A evs x y e w') : (y ≠ 0∧Only (fun k=>k = b∨A.map (·.block) = some k) w w'∧e = .panicked [{ v:=flt 4,recovered:=false }])∨(y = 0∧Only (fun k=>k = b∨A.map (·.block) = some k) w w'∧e = .returned (.tuple #[])∧HapG w F b g used u i base A evs x w'):=by
  obtain ⟨h1,h2⟩:=h
  by_cases hy : y = 0
  · rw [if_pos hy] at h2
    obtain ⟨A',n',c',xs',q1,q2⟩:=h2;exact .inr ⟨hy,h1,q1,A',n',c',xs',q2⟩
  · rw [if_neg hy] at h2
    exact .inl ⟨hy,h1,h2⟩
theorem HapE.bad (hy : y ≠ 0) (h1 : Only (fun k=>k = b∨A.map (·.block) = some k) w w') : HapE w F b g used u i base A evs x y (.panicked [{ v:=flt 4,recovered:=false }]) w':=⟨h1,by rw [if_neg hy]⟩
theorem HapE.good (hy : y = 0) (h1 : Only (fun k=>k = b∨A.map (·.block) = some k) w w') (h2 : HapG w F b g used u i base A evs x w') : HapE w F b g used u i base A evs x y (.returned (.tuple #[])) w':=⟨h1,by
  obtain ⟨A',n',c',xs',q⟩:=h2
  rw [if_pos hy];exact ⟨A',n',c',xs',rfl,q⟩⟩
end
set_option maxHeartbeats 1000000 in
theorem read3_any (F : Nat→Prop) (b g used u i base : Nat) (Ae : Option Addr) (ne qe : Nat) (xs : List EvV) (ad : Addr) (n c : Nat) (t : List UInt8) (B : Nat) (w0 : World) (h0 : Blk w0 b 88 (sc g used u i (.slice Ae ne qe))) (he : EvsAt w0 F b base Ae ne qe xs) (hF : ∀ k,F k→k < w0.heap.size) (hba : base≤w0.heap.size) (hn : ne≤100000) (hb : RdB w0 B (some ad) n (3 :: t)) (hB : B≤w0.heap.size) (hl : n≤1000000000) (hc : n≤c) (hm : c≤maxLen) :
    Calls Tryz.prog 41 #[.pointer (some ⟨b,0,none⟩),.slice (some ad) n c] w0 (HapEnd w0 F b g used u i base Ae (xs.map (·.e)) t):=by
  have n1 : 1≤n:=by have:=hb.1;simp at this;omega
  have hlt:=h0.lt;obtain ⟨a',hA,hab,hv0⟩:=hb.at_ (k:=0) (by simp)
  obtain rfl : ad = a':=by injection hA
  have hv2 : w0.cell? ad = some (bv 3):=by simpa [go_sem] using hv0
  have hv1 : w0.cell? ad = some (.int .u8 3):=hv2;have hbt:=hb.drop 1;rw [List.drop_one,List.tail_cons] at hbt;have hd0 : decide ((0 : Int) < (n : Int)) = true:=decide_eq_true (by omega);have hd1 : decide (0 < n) = true:=decide_eq_true (by omega)
  have hn0 : (0 : Int) < (n : Int):=by omega
  have hnl : n = t.length + 1:=by have:=hb.1;simpa using this
  unfold maxLen at hm
  have hnp : 0 < n:=n1
  have hnz : (1 : Int)≤(n : Int):=by omega
  clear hv0 hv2 hA hb hd0 hd1
  by_cases hc1 : c = 1
  · obtain rfl : n = 1:=by omega
    subst hc1;obtain rfl : t = []:=List.eq_nil_of_length_eq_zero (by omega)
    have HC0:=Lib.hid fun (w' : World) (h : Below w0.heap.size w0 w')=>happens_any F b g used u i base Ae ne qe xs (some ad) 0 0 [] w' (h0.below h hlt) (he.below h) (fun k hk=>Nat.lt_of_lt_of_le (hF k hk) h.size) (Nat.le_trans hba h.size) hn (RdB.nil _ _ _) (by omega)
    unfold HapEnd at HC0 ⊢
    generalize (getEv []).1 = x at *
    generalize (getEv []).2 = y at *
    generalize xs.map (·.e) = evs at *
    clear hbt h0 hnl he hF hba hn
    go_enter Tryz.func41,Tryz.ntmps41
    go_upto_region 1 with fail
    refine nameW ?_;intro W hW;obtain ⟨G,hG⟩ : ∃ G,G = w0.heap.size:=⟨_,rfl⟩;rw [← hG]
    have hbW : Below w0.heap.size w0 W:=by rw [hW];exact (Below.refl _ _).alloc (Nat.le_refl _) _
    have cG : W.cell? ⟨G,3,none⟩ = some (.func (.func 71) #[] #[]):=by rw [hW,hG];exact (Blk.new w0 _ #[.nilFunc,.func (.func 69) #[] #[],.func (.func 70) #[] #[],.func (.func 71) #[] #[]]).cell 3
    have hGW : G < W.heap.size:=by rw [hW,hG];simp
    have hvW : W.cell? ad = some (.int .u8 3):=(hbW.cell (Nat.lt_of_lt_of_le hab hB)).trans hv1
    have habW : ad.block < W.heap.size:=by have:=hbW.size;omega
    have HC:=Lib.hid fun (w' : World) (h : Below W.heap.size W w')=>HC0.out w' (hbW.trans (h.mono hbW.size))
    clear hW hG hv1;go_wp2_with fail;refine (must_ok _ _).mono ?_;rintro e w2 ⟨rfl,rfl⟩
    go_upto_region 2 with fail
    refine wp_region_tailF 6 8 (fun L v w=>v 0 = .pointer (some ⟨b,0,none⟩)∧v 1 = .slice (some ad) 1 1∧v 4 = .pointer (some ⟨G,0,none⟩)∧Below W.heap.size W w∧(L 0 = true→v 22 = .slice (some ad) 1 1)∧(L 1 = true→v 23 = .pointer (some ad))∧(L 2 = true→v 24 = .int .u8 3)∧(L 3 = true→v 25 = .pointer (some ⟨G,3,none⟩))∧(L 4 = true→v 26 = .func (.func 71) #[] #[])∧(L 5 = true→v 27 = .pointer (some ⟨b,0,none⟩))∧(L 6 = true→v 28 = .slice (some ad) 1 1)∧(L 7 = true→v 29 = .slice (some ad) 0 0)) [22,23,24,25,26,27,28,29] (by kernel_rfl) (by kernel_rfl) (by kernel_rfl) (by kernel_rfl) (by kernel_rfl) (by kernel_rfl) ?h0 ?hst ?hend
    case h0 =>
      intro L h0;have h0 : ∀ i,i < 8→L i = false:=h0;exact ⟨rfl,rfl,rfl,(Below.refl _ _).drew,offF h0 (i:=0) (by decide),offF h0 (i:=1) (by decide),offF h0 (i:=2) (by decide),offF h0 (i:=3) (by decide),offF h0 (i:=4) (by decide),offF h0 (i:=5) (by decide),offF h0 (i:=6) (by decide),offF h0 (i:=7) (by decide)⟩
    case hst =>
      show FactSteps _ _ _ _ [0,1,2,3,4,5,6,7]
      refine @FactSteps.cons _ _ _ _ 0 _ [] _ rfl (by kernel_rfl) ?s0 ?_;rotate_left;refine @FactSteps.cons _ _ _ _ 1 _ [0] _ rfl (by kernel_rfl) ?s1 ?_;rotate_left;refine @FactSteps.cons _ _ _ _ 2 _ [1] _ rfl (by kernel_rfl) ?s2 ?_;rotate_left;refine @FactSteps.cons _ _ _ _ 3 _ [2] _ rfl (by kernel_rfl) ?s3 ?_;rotate_left;refine @FactSteps.cons _ _ _ _ 4 _ [3] _ rfl (by kernel_rfl) ?s4 ?_;rotate_left;refine @FactSteps.cons _ _ _ _ 5 _ [] _ rfl (by kernel_rfl) ?s5 ?_;rotate_left;refine @FactSteps.cons _ _ _ _ 6 _ [] _ rfl (by kernel_rfl) ?s6 ?_;rotate_left;refine @FactSteps.cons _ _ _ _ 7 _ [6] _ rfl (by kernel_rfl) ?s7 ?_;rotate_left;exact FactSteps.nil
      case s0 =>
        rintro L a v w hv hg hL hd hcl ⟨e0,e1,e4,hb,f0,f1,f2,f3,f4,f5,f6,f7⟩ K hK;refine step_do rfl ?_;clear hv;go_simp;exact hK.out _ _ ⟨e0,e1,e4,hb,fun _=>rfl,f1,f2,f3,f4,f5,f6,f7⟩
      case s1 =>
        rintro L a v w hv hg hL hd hcl ⟨e0,e1,e4,hb,f0,f1,f2,f3,f4,f5,f6,f7⟩ K hK;have g0:=f0 (hd 0 (by decide));refine step_do rfl ?_;clear hv;go_simp;exact hK.out _ _ ⟨e0,e1,e4,hb,f0,fun _=>rfl,f2,f3,f4,f5,f6,f7⟩
      case s2 =>
        rintro L a v w hv hg hL hd hcl ⟨e0,e1,e4,hb,f0,f1,f2,f3,f4,f5,f6,f7⟩ K hK;have g1:=f1 (hd 1 (by decide));have hc2:=(hb.cell habW).trans hvW;refine step_do rfl ?_;clear hv;go_simp;exact hK.out _ _ ⟨e0,e1,e4,hb,f0,f1,fun _=>rfl,f3,f4,f5,f6,f7⟩
      case s3 =>
        rintro L a v w hv hg hL hd hcl ⟨e0,e1,e4,hb,f0,f1,f2,f3,f4,f5,f6,f7⟩ K hK;have g2:=f2 (hd 2 (by decide));refine step_do rfl ?_;clear hv;go_simp;exact hK.out _ _ ⟨e0,e1,e4,hb,f0,f1,f2,fun _=>rfl,f4,f5,f6,f7⟩
      case s4 =>
        rintro L a v w hv hg hL hd hcl ⟨e0,e1,e4,hb,f0,f1,f2,f3,f4,f5,f6,f7⟩ K hK;have g3:=f3 (hd 3 (by decide));have hc4:=(hb.cell (p:=⟨G,3,none⟩) hGW).trans cG;refine step_do rfl ?_;clear hv;go_simp;exact hK.out _ _ ⟨e0,e1,e4,hb,f0,f1,f2,f3,fun _=>rfl,f5,f6,f7⟩
      case s5 =>
        rintro L a v w hv hg hL hd hcl ⟨e0,e1,e4,hb,f0,f1,f2,f3,f4,f5,f6,f7⟩ K hK;refine step_do rfl ?_;clear hv;go_simp;exact hK.out _ _ ⟨e0,e1,e4,hb,f0,f1,f2,f3,f4,fun _=>rfl,f6,f7⟩
      case s6 =>
        rintro L a v w hv hg hL hd hcl ⟨e0,e1,e4,hb,f0,f1,f2,f3,f4,f5,f6,f7⟩ K hK;refine step_do rfl ?_;clear hv;go_simp;exact hK.out _ _ ⟨e0,e1,e4,hb,f0,f1,f2,f3,f4,f5,fun _=>rfl,f7⟩
      case s7 =>
        rintro L a v w hv hg hL hd hcl ⟨e0,e1,e4,hb,f0,f1,f2,f3,f4,f5,f6,f7⟩ K hK;have g6:=f6 (hd 6 (by decide));refine step_do rfl ?_;clear hv;go_simp;exact hK.out _ _ ⟨e0,e1,e4,hb,f0,f1,f2,f3,f4,f5,f6,fun _=>rfl⟩
    case hend =>
    rintro L v wx hall ⟨e0,e1,e4,hb,f0,f1,f2,f3,f4,f5,f6,f7⟩;have hL : ∀ i,i < 8→L i = true:=hall;have f0:=f0 (hL 0 (by decide));have f1:=f1 (hL 1 (by decide));have f2:=f2 (hL 2 (by decide));have f3:=f3 (hL 3 (by decide));have f4:=f4 (hL 4 (by decide));have f5:=f5 (hL 5 (by decide));have f6:=f6 (hL 6 (by decide));have f7:=f7 (hL 7 (by decide))
    simp only [finA,List.foldl_cons,List.foldl_nil,Act.put,List.setIfInBounds_toArray,List.set_cons_succ,List.set_cons_zero,f0,f1,f2,f3,f4,f5,f6,f7]
    clear e0 e1 e4 f0 f1 f2 f3 f4 f5 f6 f7 hL hall
    show wpList _ _ _ [_] _ _
    go_wp2_with fail;refine (HC.out wx hb).mono ?_;rintro e w3 h;have h:=h.from_ (hbW.trans (hb.mono hbW.size))
    rcases h.split with ⟨h1,h2,rfl⟩ | ⟨h1,h2,h3⟩
    · exact ⟨rfl,HapE.bad h1 h2⟩
    · obtain ⟨rfl,h4⟩:=h3
      have H4:=Lib.hid (HapE.good h1 h2 h4);clear h1 h2 h4 h;go_wp2_with fail
      go_end0
      exact H4.out
  · have HC0:=Lib.hid fun (w' : World) (h : Below w0.heap.size w0 w')=>happens_any F b g used u i base Ae ne qe xs (some ⟨ad.block,ad.off + 1,none⟩) (n - 1) (c - 1) t w' (h0.below h hlt) (he.below h) (fun k hk=>Nat.lt_of_lt_of_le (hF k hk) h.size) (Nat.le_trans hba h.size) hn ((hbt.below (h.mono hB)).more (Nat.le_trans hB h.size)) (by omega)
    unfold HapEnd at HC0 ⊢
    generalize (getEv t).1 = x at *
    generalize (getEv t).2 = y at *
    generalize xs.map (·.e) = evs at *
    have hc2' : 1≤c:=by omega
    clear hbt h0 hnl he hF hba hn
    go_enter Tryz.func41,Tryz.ntmps41
    go_upto_region 1 with fail
    refine nameW ?_;intro W hW;obtain ⟨G,hG⟩ : ∃ G,G = w0.heap.size:=⟨_,rfl⟩;rw [← hG]
    have hbW : Below w0.heap.size w0 W:=by rw [hW];exact (Below.refl _ _).alloc (Nat.le_refl _) _
    have cG : W.cell? ⟨G,3,none⟩ = some (.func (.func 71) #[] #[]):=by rw [hW,hG];exact (Blk.new w0 _ #[.nilFunc,.func (.func 69) #[] #[],.func (.func 70) #[] #[],.func (.func 71) #[] #[]]).cell 3
    have hGW : G < W.heap.size:=by rw [hW,hG];simp
    have hvW : W.cell? ad = some (.int .u8 3):=(hbW.cell (Nat.lt_of_lt_of_le hab hB)).trans hv1
    have habW : ad.block < W.heap.size:=by have:=hbW.size;omega
    have HC:=Lib.hid fun (w' : World) (h : Below W.heap.size W w')=>HC0.out w' (hbW.trans (h.mono hbW.size))
    clear hW hG hv1;go_wp2_with fail;refine (must_ok _ _).mono ?_;rintro e w2 ⟨rfl,rfl⟩
    go_upto_region 2 with fail
    refine wp_region_tailF 6 8 (fun L v w=>v 0 = .pointer (some ⟨b,0,none⟩)∧v 1 = .slice (some ad) n c∧v 4 = .pointer (some ⟨G,0,none⟩)∧Below W.heap.size W w∧(L 0 = true→v 22 = .slice (some ad) n c)∧(L 1 = true→v 23 = .pointer (some ad))∧(L 2 = true→v 24 = .int .u8 3)∧(L 3 = true→v 25 = .pointer (some ⟨G,3,none⟩))∧(L 4 = true→v 26 = .func (.func 71) #[] #[])∧(L 5 = true→v 27 = .pointer (some ⟨b,0,none⟩))∧(L 6 = true→v 28 = .slice (some ad) n c)∧(L 7 = true→v 29 = .slice (some ⟨ad.block,ad.off + 1,none⟩) (n - 1) (c - 1))) [22,23,24,25,26,27,28,29] (by kernel_rfl) (by kernel_rfl) (by kernel_rfl) (by kernel_rfl) (by kernel_rfl) (by kernel_rfl) ?h0 ?hst ?hend
    case h0 =>
      intro L h0;have h0 : ∀ i,i < 8→L i = false:=h0;exact ⟨rfl,rfl,rfl,(Below.refl _ _).drew,offF h0 (i:=0) (by decide),offF h0 (i:=1) (by decide),offF h0 (i:=2) (by decide),offF h0 (i:=3) (by decide),offF h0 (i:=4) (by decide),offF h0 (i:=5) (by decide),offF h0 (i:=6) (by decide),offF h0 (i:=7) (by decide)⟩
    case hst =>
      show FactSteps _ _ _ _ [0,1,2,3,4,5,6,7]
      refine @FactSteps.cons _ _ _ _ 0 _ [] _ rfl (by kernel_rfl) ?s0 ?_;rotate_left;refine @FactSteps.cons _ _ _ _ 1 _ [0] _ rfl (by kernel_rfl) ?s1 ?_;rotate_left;refine @FactSteps.cons _ _ _ _ 2 _ [1] _ rfl (by kernel_rfl) ?s2 ?_;rotate_left;refine @FactSteps.cons _ _ _ _ 3 _ [2] _ rfl (by kernel_rfl) ?s3 ?_;rotate_left;refine @FactSteps.cons _ _ _ _ 4 _ [3] _ rfl (by kernel_rfl) ?s4 ?_;rotate_left;refine @FactSteps.cons _ _ _ _ 5 _ [] _ rfl (by kernel_rfl) ?s5 ?_;rotate_left;refine @FactSteps.cons _ _ _ _ 6 _ [] _ rfl (by kernel_rfl) ?s6 ?_;rotate_left;refine @FactSteps.cons _ _ _ _ 7 _ [6] _ rfl (by kernel_rfl) ?s7 ?_;rotate_left;exact FactSteps.nil
      case s0 =>
        rintro L a v w hv hg hL hd hcl ⟨e0,e1,e4,hb,f0,f1,f2,f3,f4,f5,f6,f7⟩ K hK;refine step_do rfl ?_;clear hv;go_simp;exact hK.out _ _ ⟨e0,e1,e4,hb,fun _=>rfl,f1,f2,f3,f4,f5,f6,f7⟩
      case s1 =>
        rintro L a v w hv hg hL hd hcl ⟨e0,e1,e4,hb,f0,f1,f2,f3,f4,f5,f6,f7⟩ K hK;have g0:=f0 (hd 0 (by decide));refine step_do rfl ?_;clear hv;go_simp;exact hK.out _ _ ⟨e0,e1,e4,hb,f0,fun _=>rfl,f2,f3,f4,f5,f6,f7⟩
      case s2 =>
        rintro L a v w hv hg hL hd hcl ⟨e0,e1,e4,hb,f0,f1,f2,f3,f4,f5,f6,f7⟩ K hK;have g1:=f1 (hd 1 (by decide));have hc2:=(hb.cell habW).trans hvW;refine step_do rfl ?_;clear hv;go_simp;exact hK.out _ _ ⟨e0,e1,e4,hb,f0,f1,fun _=>rfl,f3,f4,f5,f6,f7⟩
      case s3 =>
        rintro L a v w hv hg hL hd hcl ⟨e0,e1,e4,hb,f0,f1,f2,f3,f4,f5,f6,f7⟩ K hK;have g2:=f2 (hd 2 (by decide));refine step_do rfl ?_;clear hv;go_simp;exact hK.out _ _ ⟨e0,e1,e4,hb,f0,f1,f2,fun _=>rfl,f4,f5,f6,f7⟩
      case s4 =>
        rintro L a v w hv hg hL hd hcl ⟨e0,e1,e4,hb,f0,f1,f2,f3,f4,f5,f6,f7⟩ K hK;have g3:=f3 (hd 3 (by decide));have hc4:=(hb.cell (p:=⟨G,3,none⟩) hGW).trans cG;refine step_do rfl ?_;clear hv;go_simp;exact hK.out _ _ ⟨e0,e1,e4,hb,f0,f1,f2,f3,fun _=>rfl,f5,f6,f7⟩
      case s5 =>
        rintro L a v w hv hg hL hd hcl ⟨e0,e1,e4,hb,f0,f1,f2,f3,f4,f5,f6,f7⟩ K hK;refine step_do rfl ?_;clear hv;go_simp;exact hK.out _ _ ⟨e0,e1,e4,hb,f0,f1,f2,f3,f4,fun _=>rfl,f6,f7⟩
      case s6 =>
        rintro L a v w hv hg hL hd hcl ⟨e0,e1,e4,hb,f0,f1,f2,f3,f4,f5,f6,f7⟩ K hK;refine step_do rfl ?_;clear hv;go_simp;exact hK.out _ _ ⟨e0,e1,e4,hb,f0,f1,f2,f3,f4,f5,fun _=>rfl,f7⟩
      case s7 =>
        rintro L a v w hv hg hL hd hcl ⟨e0,e1,e4,hb,f0,f1,f2,f3,f4,f5,f6,f7⟩ K hK;have g6:=f6 (hd 6 (by decide));refine step_do rfl ?_;clear hv;go_simp;exact hK.out _ _ ⟨e0,e1,e4,hb,f0,f1,f2,f3,f4,f5,f6,fun _=>rfl⟩
    case hend =>
    rintro L v wx hall ⟨e0,e1,e4,hb,f0,f1,f2,f3,f4,f5,f6,f7⟩;have hL : ∀ i,i < 8→L i = true:=hall;have f0:=f0 (hL 0 (by decide));have f1:=f1 (hL 1 (by decide));have f2:=f2 (hL 2 (by decide));have f3:=f3 (hL 3 (by decide));have f4:=f4 (hL 4 (by decide));have f5:=f5 (hL 5 (by decide));have f6:=f6 (hL 6 (by decide));have f7:=f7 (hL 7 (by decide))
    simp only [finA,List.foldl_cons,List.foldl_nil,Act.put,List.setIfInBounds_toArray,List.set_cons_succ,List.set_cons_zero,f0,f1,f2,f3,f4,f5,f6,f7]
    clear e0 e1 e4 f0 f1 f2 f3 f4 f5 f6 f7 hL hall
    show wpList _ _ _ [_] _ _
    go_wp2_with fail;refine (HC.out wx hb).mono ?_;rintro e w3 h;have h:=h.from_ (hbW.trans (hb.mono hbW.size))
    rcases h.split with ⟨h1,h2,rfl⟩ | ⟨h1,h2,h3⟩
    · exact ⟨rfl,HapE.bad h1 h2⟩
    · obtain ⟨rfl,h4⟩:=h3
      have H4:=Lib.hid (HapE.good h1 h2 h4);clear h1 h2 h4 h;go_wp2_with fail
      go_end0
      exact H4.out
end Sto.Stp
end Go.Proofs.YtfpenfgmpbdakaaGreat
