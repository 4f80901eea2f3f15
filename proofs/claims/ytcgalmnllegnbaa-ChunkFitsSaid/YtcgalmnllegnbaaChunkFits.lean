/- ChunkFits: each part of a message has an event at least, and is short enough; all together have the events, in order; none but the last could have held one more: the whole statement, without a condition. -/
import Derived.Test.YtcgalmnllegnbaaMsgMath
import Derived.Test.YtcgalmnllegnbaaVintMath
import Derived.Test.YtcgalmnllegnbaaFrameMath
import Derived.Test.YtcgalmnllegnbaaEvWput
import Derived.Test.YtcgalmnllegnbaaDotPut
import Derived.Test.YtcgalmnllegnbaaDotEq
import Derived.Test.YtcgalmnllegnbaaDotMath
import Derived.Lib.SliceRun
import Derived.Test.YtcgalmnllegnbaaEvRow
import Derived.Test.YtcgalmnllegnbaaVintPut
import Derived.Test.YtcgalmnllegnbaaBytes
import Derived.Test.YtcgalmnllegnbaaStop
import Derived.Test.YtcgalmnllegnbaaVintWalks
import Derived.Test.YtcgalmnllegnbaaEvNum
import Derived.Test.YtcgalmnllegnbaaFoot
import Derived.Test.YtcgalmnllegnbaaEvMath
import Derived.Test.YtcgalmnllegnbaaEvPolW
import Derived.Test.YtcgalmnllegnbaaEvMem
import Derived.Test.YtcgalmnllegnbaaDotRow
import Derived.Test.YtcgalmnllegnbaaEvAlive
import Derived.Test.YtcgalmnllegnbaaMem
import Derived.Test.YtcgalmnllegnbaaEvCopy
import Derived.WideLaws
import Derived.Test.YtcgalmnllegnbaaMsgRight3
import Derived.Test.YtcgalmnllegnbaaFramePut
import Derived.Test.YtcgalmnllegnbaaDotRight
import Derived.Test.YtcgalmnllegnbaaFacts
import Derived.Test.YtcgalmnllegnbaaClone
import Derived.Deep.DeepCutAuto
import Derived.Deep.RegionWith
import Derived.Test.YtcgalmnllegnbaaDotSame
import Derived.Test.YtcgalmnllegnbaaRows
import Derived.ProofKit
import Derived.OpenShut
import Derived.ShutString
import Derived.ChangeOld
import Derived.Below
import Derived.Deep.Slices
import Derived.Deep.Fields
import Derived.Deep.Strs
import Derived.SizedLaws
import Derived.Test.YtcgalmnllegnbaaDotMem
import Derived.Test.YtcgalmnllegnbaaDotAdd
import Derived.Test.YtcgalmnllegnbaaEvRight
import Derived.Test.YtcgalmnllegnbaaInts
import Derived.Laws.CopyOwn
import Derived.Test.YtcgalmnllegnbaaMsgMem
namespace Go.Proofs.Ytcgalmnllegnbaa.Ms
set_option linter.unusedVariables false
set_option linter.unusedSimpArgs false
set_option maxRecDepth 100000
open Dot
open Evt (Ev inB inB_iff)
def nb (ns : List Int) : List UInt8:=ns.flatMap fun z=>Vint.enc z.toNat
theorem nb_cons (z : Int) (l : List Int) : nb (z :: l) = Vint.enc z.toNat ++ nb l:=rfl
theorem nb_app (a b : List Int) : nb (a ++ b) = nb a ++ nb b:=by unfold nb;rw [List.flatMap_append]
def zero : Msg:=⟨0,0,0,0,0,[0,0,0,0,0,0,0,0],[],[],[]⟩
def Small3 (l : List Mem) : Prop:=∀ v ∈ l,(0≤v.1∧v.1≤top)∧(0≤v.2.1∧v.2.1≤top)∧0≤v.2.2∧v.2.2≤top
theorem members_small {l : List Mem} (h : membersB l = true) : Small3 l:=fun v hv=>by
  obtain ⟨i,hi,rfl⟩:=List.getElem_of_mem hv;have h1:=(memAt_iff l i).1 ((members_iff l).1 h i hi);rw [List.getD_eq_getElem?_getD,List.getElem?_eq_getElem hi,Option.getD_some] at h1
  unfold top at *
  omega
theorem right_head {m : Msg} (h : rightM m = true) : (1≤m.kind∧m.kind≤5)∧(0≤m.frm∧m.frm≤7)∧(0≤m.to∧m.to≤7)∧membersB m.mem = true∧(0≤m.seq∧m.seq≤top)∧(0≤m.node∧m.node≤7)∧(m.kind = 5→m.seq = 0)∧(¬ (m.kind = 2∨m.kind = 3)→m.node = 0):=by
  obtain ⟨h1,h2,h3,_,_⟩:=(right_iff m).1 h
  unfold headB at h1
  simp only [Bool.and_eq_true,inB_iff,nodeB_iff] at h1
  obtain ⟨⟨⟨⟨a,b⟩,c⟩,_⟩,d⟩:=h1
  have hseq : m.seq≤top∧(m.kind = 5→m.seq = 0):=by
    unfold mostS at h2
    split at h2
    · exact ⟨by unfold top;omega,fun _=>by omega⟩
    · rename_i hk
      split at h2
      · exact ⟨by unfold top;omega,fun hk2=>absurd hk2 hk⟩
      · exact ⟨h2.2,fun hk2=>absurd hk2 hk⟩
  have hnode : (0≤m.node∧m.node≤7)∧(¬ (m.kind = 2∨m.kind = 3)→m.node = 0):=by
    unfold askNode at h3
    split at h3
    · rename_i hk
      exact ⟨(nodeB_iff _).1 h3,fun hk2=>absurd hk hk2⟩
    · have:=of_decide_eq_true h3
      exact ⟨by omega,fun _=>this⟩
  exact ⟨a,b,c,d,⟨h2.1,hseq.1⟩,hnode.1,hseq.2,hnode.2⟩
section
variable {G : Except Nat (Msg × List UInt8)} {m : Msg} {r ra rd rf : List UInt8} {a d f ea ed ef j : Nat}
end
end Go.Proofs.Ytcgalmnllegnbaa.Ms

namespace Go.Proofs.Ytcgalmnllegnbaa.Ms
set_option linter.unusedVariables false
set_option linter.unusedSimpArgs false
set_option maxRecDepth 100000
open Dot
open Evt (Ev inB inB_iff)
def tailM (m : Msg) : List UInt8:=if m.kind = 4 then encs (putL m.u m.more) else if m.kind = 5 then Vint.enc m.ev.length ++ m.ev.flatMap encE else []
def bodyM (m : Msg) : List UInt8:=nb (headN m) ++ tailM m
def putM (m : Msg) : List UInt8 × Nat:=if rightM m = true then (if (bodyM m).length≤4096 then (Frame.frm (bodyM m),0) else ([],6)) else ([],2)
theorem nb_encs (l : List Int) : nb l = encs l:=rfl
theorem headN_eq (m : Msg) : headN m = [m.kind,m.frm,m.to,(m.mem.length : Int)] ++ (m.mem.flatMap fun x=>[x.1,x.2.1,x.2.2]) ++ (if m.kind ≠ 5 then [m.seq] else []) ++ (if m.kind = 2∨m.kind = 3 then [m.node] else []):=rfl
theorem trip_len (l : List Mem) : (l.flatMap fun x : Mem=>[x.1,x.2.1,x.2.2]).length = 3 * l.length:=by
  induction l with
  | nil=>rfl
  | cons a l ih=>rw [List.flatMap_cons,List.length_append,ih,List.length_cons];simp;omega
theorem trip_snoc (l : List Mem) {k : Nat} (h : k < l.length) : ((l.take (k + 1)).flatMap fun x : Mem=>[x.1,x.2.1,x.2.2]) = ((l.take k).flatMap fun x : Mem=>[x.1,x.2.1,x.2.2]) ++ [(l[k]).1,(l[k]).2.1,(l[k]).2.2]:=by
  rw [take_snoc l h,List.flatMap_append]
  simp
theorem headN_len {m : Msg} (h : rightM m = true) : (headN m).length≤30:=by
  have h8:=members_len (right_head h).2.2.2.1;rw [headN_eq]
  simp only [List.length_append,trip_len,List.length_cons,List.length_nil]
  split <;> split <;> simp <;> omega
theorem headN_bd {m : Msg} (h : rightM m = true) : ∀ z ∈ headN m,0≤z∧z≤1099511627776:=by
  obtain ⟨h1,h2,h3,h4,h5,h6,_⟩:=right_head h;have h8:=members_len h4;have hs:=members_small h4
  unfold top at h5
  intro z hz;rw [headN_eq] at hz
  rcases List.mem_append.1 hz with hz | hz
  · rcases List.mem_append.1 hz with hz | hz
    · rcases List.mem_append.1 hz with hz | hz
      · simp at hz
        omega
      · obtain ⟨v,hv,hz⟩:=List.mem_flatMap.1 hz
        have:=hs v hv
        unfold top at this
        simp at hz
        omega
    · split at hz
      · simp at hz;omega
      · simp at hz
  · split at hz
    · simp at hz;omega
    · simp at hz
end Go.Proofs.Ytcgalmnllegnbaa.Ms

namespace Go.Proofs.Ytcgalmnllegnbaa
set_option linter.unusedVariables false
set_option linter.unusedSimpArgs false
set_option maxRecDepth 100000
open Go.RowKit
open Dot
theorem OwnD.short {w : World} {base n c : Nat} {A : Option Addr} {l : List Dt} (h : OwnD w base A n c l) {i : Nat} (hi : i≤n) (h0 : 0 < n) : OwnD w base A i c (l.take i):=by
  have hl : l.length = n:=h.1.symm;refine ⟨by rw [List.length_take];omega,?_,?_⟩
  · rw [dcs_len,List.length_take];omega
  · rcases h.2.2 with ⟨_,h1⟩ | ⟨g,cap,cur,hv,hb,hh,hn,hm,hs,hc⟩
    · omega
    · injection hv with h1 h2 h3
      subst h1 h3;refine .inr ⟨g,c,cur,rfl,hb,hh,by omega,hm,hs,?_⟩;have e : l = l.take i ++ l.drop i:=(List.take_append_drop i l).symm
      have h4 : dcs l = dcs (l.take i) ++ dcs (l.drop i):=by rw [← dcs_app,← e]
      have h5 : (dcs (l.take i)).length = i * 2:=by rw [dcs_len,List.length_take];omega
      have h6:=congrArg (List.take (i * 2)) hc;rw [List.take_take,show min (i * 2) (n * 2) = i * 2 by omega,h4,List.take_append_of_le_length (by omega),List.take_of_length_le (l:=dcs (l.take i)) (by omega)] at h6;exact h6
theorem OwnD.tail {w : World} {base i c g : Nat} {l : List Dt} (h : OwnD w base (some ⟨g,0,none⟩) i c l) (vs : List Value) : OwnD (w.setCells g (i * 2) vs) base (some ⟨g,0,none⟩) i c l:=by
  refine ⟨h.1,h.2.1,?_⟩
  rcases h.2.2 with ⟨hv,_⟩ | ⟨g',cap,cur,hv,hb,hh,hn,hm,hs,hc⟩
  · cases hv
  · injection hv with h1 h2 h3
    injection h1 with h1
    injection h1 with h1
    subst h1 h3;obtain ⟨cs',k1,k2,k3,_⟩:=setCells_heap w g vs (i * 2) cur hh;refine .inr ⟨g,c,cs',rfl,hb,k1,hn,hm,by rw [k2,hs],?_⟩;rw [← hc]
    apply List.ext_getElem?
    intro j;rw [List.getElem?_take,List.getElem?_take]
    by_cases hj : j < i * 2
    · rw [if_pos hj,if_pos hj]
      have:=k3 j (.inl hj)
      simpa using this
    · rw [if_neg hj,if_neg hj]
theorem dcs_set (l : List Dt) : ∀ (i : Nat) (x q : Int),((dcs l).set (i * 2) (.int .i64 x)).set (i * 2 + 1) (.int .i64 q) = dcs (l.set i (x,q)):=by
  induction l with
  | nil=>intro i x q;simp [dcs]
  | cons d l ih =>
    intro i x q
    have e : ∀ (d : Dt) (l : List Dt),dcs (d :: l) = .int .i64 d.1 :: .int .i64 d.2 :: dcs l:=fun _ _=>rfl
    cases i with
    | zero=>rfl
    | succ i =>
      rw [show (i + 1) * 2 = i * 2 + 1 + 1 by omega,e]
      show _ :: _ :: ((dcs l).set (i * 2) (.int .i64 x)).set (i * 2 + 1) (.int .i64 q) = _
      rw [ih]
      rfl
theorem OwnD.set_ {w : World} {base n c g : Nat} {l : List Dt} (h : OwnD w base (some ⟨g,0,none⟩) n c l) (i : Nat) (x q : Int) : OwnD ((w.setCell ⟨g,i * 2,none⟩ (.int .i64 x)).setCell ⟨g,i * 2 + 1,none⟩ (.int .i64 q)) base (some ⟨g,0,none⟩) n c (l.set i (x,q)):=by
  refine ⟨by rw [List.length_set];exact h.1,?_⟩;have h1:=(h.2.stored (i * 2) (.int .i64 x)).1;have h2:=(h1.stored (i * 2 + 1) (.int .i64 q)).1
  rwa [dcs_set] at h2
end Go.Proofs.Ytcgalmnllegnbaa

namespace Go.Proofs.Ytcgalmnllegnbaa
set_option linter.unusedVariables false
set_option linter.unusedSimpArgs false
set_option maxRecDepth 100000
open Go.RowKit
open Dot Evt
def putAllE (xs : List EvV) : List UInt8 × Nat :=
  if 768 < xs.length then ([],6) else if xs.all (fun x=>rightE x.e) = true then (Vint.enc xs.length ++ xs.flatMap (fun x=>encE x.e),0) else ([],2)
theorem numsE_len (x : Ev) (hp : x.p.length = 7) : (numsE x).length≤13 + 2 * x.l.length:=by
  have hd : (dotNums x.l).length = 2 * x.l.length:=by rw [← dotN_len,← dotNums_nat,List.length_map]
  unfold numsE
  rw [List.length_append]
  split
  · simp only [List.length_cons,List.length_nil];omega
  · rw [List.length_append,List.length_append,hd]
    split
    · simp only [List.length_cons,List.length_nil,hp];omega
    · simp only [List.length_cons,List.length_nil];omega
theorem encE_len {x : Ev} (hp : x.p.length = 7) (hx : rightE x = true) : (encE x).length≤1230:=by
  have h:=encN_len ((numsE x).map Int.toNat);rw [List.length_map] at h;have h2:=numsE_len x hp;have h3:=(right_facts hp hx).2.2.1
  unfold encE
  omega
theorem encAll_len (xs : List EvV) (hp : ∀ x ∈ xs,x.e.p.length = 7∧rightE x.e = true) : (xs.flatMap fun x=>encE x.e).length≤1230 * xs.length:=by
  induction xs with
  | nil=>simp
  | cons a l ih =>
    have h1:=encE_len (hp a (by simp)).1 (hp a (by simp)).2
    have h2:=ih fun x hx=>hp x (by simp [hx])
    simp only [List.flatMap_cons,List.length_append,List.length_cons]
    omega
set_option maxRecDepth 100000 in
set_option maxHeartbeats 2000000 in
theorem eputAll_any (A : Option Addr) (n c : Nat) (xs : List EvV) (w : World) (hn : n≤10000000000000) (hR : RowEv w w.heap.size A n xs) :
    Calls Try.prog 37 #[.slice A n c] w (GiveBE w (putAllE xs).1 (putAllE xs).2):=by
  have HN:=Lib.hid hR.1
  have HRK:=Lib.hid fun (w' : World) (hb : Below w.heap.size w w')=>hR.below hb
  have HNB:=Lib.hid hn
  have hZ : ∀ s : List UInt8 × Nat,putAllE xs = s→GiveBE w (putAllE xs).1 (putAllE xs).2 = GiveBE w s.1 s.2:=fun s h=>by rw [h]
  clear hR;have HPA:=Lib.hid (show putAllE xs = putAllE xs from rfl)
  go_enter_defers Try.func37,Try.ntmps37
  go_upto_region 4 with fail
  refine nameW ?_;intro W hW;obtain ⟨B,hB⟩ : ∃ B,B = w.heap.size:=⟨_,rfl⟩;rw [← hB]
  have kf : Blk W B 32 #[.int .i64 0]:=by rw [hW,hB];exact ((Blk.new w _ _).alloc _).alloc _
  have kw : WrS W (B + 1) []:=by
    have h:=Blk.new (w.alloc (.cells #[.int .i64 0] 32)) 123 #[.slice none 0 0];rw [show (w.alloc (.cells #[.int .i64 0] 32)).heap.size = w.heap.size + 1 by simp] at h;rw [hW,hB];exact ⟨none,0,0,h.alloc _,OwnB.nil _ _⟩
  have kn : Blk W (B + 1 + 1) 3 #[.int .i64 n]:=by
    have h:=Blk.new ((w.alloc (.cells #[.int .i64 0] 32)).alloc (.cells #[.slice none 0 0] 123)) 3 #[.int .i64 n];rw [show ((w.alloc (.cells #[.int .i64 0] 32)).alloc (.cells #[.slice none 0 0] 123)).heap.size = w.heap.size + 1 + 1 by simp] at h;rw [hW,hB];exact h
  have hbb : Below B w W:=by rw [hW,hB];exact (((Below.refl _ _).alloc (Nat.le_refl _) _).alloc (by simp) _).alloc (by simp;omega) _
  have HB:=Lib.hid hB;rw [← hB] at HRK;clear hW hB hZ;have cn : W.cell? ⟨B + 1 + 1,0,none⟩ = some (.int .i64 n):=kn.cell 0;have cf : W.cell? ⟨B,0,none⟩ = some (.int .i64 0):=kf.cell 0;have ff:=kf.free 0
  by_cases hbig : 768 < n
  · have hd : decide ((768 : Int) < (n : Int)) = true:=decide_eq_true (by omega)
    have he : putAllE xs = ([],6):=by unfold putAllE;rw [if_pos (by rw [← HN.out];exact hbig)]
    have HE:=Lib.hid he;clear hbig he;go_wp2_with fail;refine leaves_cons (f:=75) (args:=#[.pointer (some ⟨B,0,none⟩)]) (by simp) (by simp [go_sem]) ?_;refine (ecaught_none _ _).mono ?_;rintro e u' w2 ⟨rfl,rfl,rfl⟩;have k2:=kf.set_ 0 (.int .i64 6);have c2:=k2.cell 0;have hb3 : Below B w (W.setCell ⟨B,0,none⟩ (.int .i64 6)):=hbb.setCell (by show B≤B;omega) _;refine ⟨.tuple #[.slice none 0 0,.int .i64 6],by simp [results,Try.results37,go_sem,c2],none,0,0,by rw [HE.out];rfl,?_,by rw [← HB.out];exact hb3⟩;rw [HE.out];exact OwnB.nil _ _
  have hd : decide ((768 : Int) < (n : Int)) = false:=decide_eq_false (by omega);have H768:=Lib.hid (show n≤768 by omega);clear hbig;go_wp2_with fail;refine (wnum_any (B + 1) ⟨B + 1 + 1,0,none⟩ [] n W kw cn (by have:=H768.out;omega) (by simp)).mono ?_;rintro e w1 ⟨rfl,hw1,g1⟩;have kf1:=kf.grown g1 (by simp);have hb1:=hbb.trans (only_Below g1 (B:=B) (by omega) (by have:=kf.lt;omega));clear cn cf ff kf kw kn hbb g1 hn hd;go_wp2_with fail
  go_loopw [18] (fun i wr=>∃ k : Nat,k≤n∧i = .int .i64 k∧(∀ j x,j < k→xs[j]? = some x→rightE x.e = true)∧WrS wr (B + 1) (Vint.enc n ++ (xs.take k).flatMap fun x=>encE x.e)∧Blk wr B 32 #[.int .i64 0]∧Below B w wr) (fun i _=>n - (intOf i).toNat)
  case atStart=>exact ⟨0,by omega,rfl,fun j x hj=>by omega,by simpa using hw1,kf1,hb1⟩
  case round =>
    clear hw1 kf1 hb1;obtain ⟨k,hk,rfl,hall,hw,kf,gb⟩:=hrel;have HA:=Lib.hid hall;clear hall
    by_cases hlt : k < n
    · have hkl : k < xs.length:=by rw [← HN.out];exact hlt
      obtain ⟨hok,ad,hA,hab,hcell⟩:=(HRK.out wr gb).2 k _ (List.getElem?_eq_getElem hkl);have hsn:=take_snoc xs hkl;have hkg:=List.getElem?_eq_getElem hkl
      generalize xs[k] = x at *
      have hpr : ∀ y ∈ xs.take k,y.e.p.length = 7∧rightE y.e = true:=fun y hy=>by
        obtain ⟨i,hi,rfl⟩:=List.getElem_of_mem hy;rw [List.length_take] at hi
        have e1 : xs[i]? = some (xs.take k)[i]:=by rw [List.getElem_take,List.getElem?_eq_getElem]
        exact ⟨((HRK.out wr gb).2 i _ e1).1.1,HA.out i _ (by omega) e1⟩
      have hlen:=encAll_len _ hpr;rw [List.length_take] at hlen;have hl6:=enc_len6 n;have HLL:=Lib.hid (show (Vint.enc n ++ (xs.take k).flatMap fun x=>encE x.e).length≤140737488350000 by rw [List.length_append];have:=H768.out;omega);subst hA
      have hyes:=fun (w' : World) (h : WrS w' (B + 1) (Vint.enc n ++ (xs.take k).flatMap fun x=>encE x.e)) (h2 : RdD w' (B + 1) x.A x.m x.e.l) (hx : rightE x.e = true)=>wput_yes x.e hok.1 x.A x.m x.c (B + 1) _ w' h h2 hx HLL.out
      have hno:=fun (w' : World) (h2 : RdD w' w'.heap.size x.A x.m x.e.l) (hx : rightE x.e = false)=>wput_no x.e hok.1 x.A x.m x.c (B + 1) w' h2 hx
      obtain ⟨cs,hcs⟩ : ∃ cs,cs = x.cs:=⟨_,rfl⟩;have hec : ec x.e (.slice x.A x.m x.c) = cs:=hcs.symm;rw [hec] at hyes hno;rw [← hcs] at hcell;have HYES:=Lib.hid hyes;have HNO:=Lib.hid hno;have HSZ:=Lib.hid (show cs.size = 14 by rw [hcs];rfl);have H1C:=Lib.hid (show cs.all (·.oneCell') = true by rw [hcs];exact x.one);have HC:=Lib.hid hcell;have HOK:=Lib.hid hok;have HSN:=Lib.hid hsn;have HKG:=Lib.hid hkg;have HWR:=Lib.hid hw
      have hk0 : (0 : Int)≤(k : Int):=by omega
      have hkm : (k : Int) < (n : Int):=by omega
      have hgs:=hw.lt;clear hcs hec hcell hok hsn hkg hlen hl6 hpr hyes hno hw
      go_upto_region 9 with fail
      go_upto_region 10 with first
        | ((with_reducible refine wpList_lda rowE HC.out HSZ.out ?_ ?_);rotate_left;(rfl))
        | ((with_reducible refine wpList_st rowE (Blk.new _ _ _) HSZ.out ?_ H1C.out ?_ ?_ ?_);(rfl);rotate_left;(rfl);(rfl);intro w6 k6 g6 z6)
      have bA : Below wr.heap.size wr w6:=(((Below.refl _ _).alloc (Nat.le_refl _) _).grown g6 (by simp) (fun q hq=>by injection hq with hq;omega));have gb6:=gb.trans (bA.mono (by have:=kf.lt;omega));have kf6:=kf.below bA kf.lt;have hw6:=HWR.out.below bA;have hrd6:=(HOK.out.2.1.below (bA.mono (by have:=kf.lt;omega))).more (show B≤B + 1 by omega);obtain ⟨gr,hgr2⟩ : ∃ gr,gr = wr.heap.size:=⟨_,rfl⟩;rw [← hgr2] at k6 ⊢;clear hgr2 g6 z6 bA gb kf
      cases hx : rightE x.e
      case false =>
        have he : putAllE xs = ([],2):=by
          unfold putAllE
          rw [if_neg (by rw [← HN.out];have:=H768.out;omega),if_neg];intro h
          have:=List.all_eq_true.1 h x (List.mem_of_getElem? HKG.out)
          rw [hx] at this
          cases this
        have HE:=Lib.hid he;have hn2:=HNO.out w6 hrd6.size hx;clear he hx
        go_wp2_with first
          | ((with_reducible refine wpList_ld rowE k6 HSZ.out ?_ ?_);rotate_left;(rfl))
        refine hn2.mono ?_;rintro e w7 ⟨rfl,b7⟩;have kf7:=kf6.below b7 kf6.lt;go_wp2_with fail;refine leaves_cons (f:=75) (args:=#[.pointer (some ⟨B,0,none⟩)]) (by simp) (by simp [go_sem]) ?_;refine (ecaught_panic _ _ _ _ _ (kf7.cell 0) (kf7.free 0)).mono ?_;rintro e u' w8 ⟨rfl,rfl,rfl⟩;have k8:=(kf7.alloc (.cells #[.int .i64 2] 151)).set_ 0 (.int .i64 2);have c8:=k8.cell 0;have hb8 : Below B w ((w7.alloc (.cells #[.int .i64 2] 151)).setCell ⟨B,0,none⟩ (.int .i64 2)):=((gb6.trans (b7.mono (by have:=kf6.lt;omega))).alloc (by have:=gb6.size;have:=b7.size;have:=HB.out;omega) _).setCell (by show B≤B;omega) _;refine ⟨.tuple #[.slice none 0 0,.int .i64 2],by simp [results,Try.results37,go_sem,c8],none,0,0,by rw [HE.out];rfl,?_,by rw [← HB.out];exact hb8⟩;rw [HE.out];exact OwnB.nil _ _
      case true =>
        have hy2:=HYES.out w6 hw6 hrd6 hx;have HX:=Lib.hid hx;clear hx
        go_wp2_with first
          | ((with_reducible refine wpList_ld rowE k6 HSZ.out ?_ ?_);rotate_left;(rfl))
        refine hy2.mono ?_;rintro e w7 ⟨rfl,hw7,g7⟩;have kf7:=kf6.grown g7 (by simp);have gb7:=gb6.trans (only_Below g7 (B:=B) (by omega) (by have:=kf6.lt;omega));go_wp2_with fail
        go_roundw
        case rel=>exact ⟨k + 1,by omega,num_succ k (by have:=H768.out;omega),fun j y hj hy=>by
          by_cases e : j = k
          · subst e;rw [HKG.out] at hy;injection hy with hy;rw [← hy];exact HX.out
          · exact HA.out j y (by omega) hy,by rw [HSN.out,List.flatMap_append];simpa using hw7,kf7,gb7⟩
        case measure=>exact meas_succ k n hlt (by have:=H768.out;omega)
    · have he : putAllE xs = (Vint.enc n ++ xs.flatMap fun x=>encE x.e,0):=by
        unfold putAllE
        rw [if_neg (by rw [← HN.out];have:=H768.out;omega),if_pos,← HN.out];rw [List.all_eq_true];intro x hx;obtain ⟨i,hi,rfl⟩:=List.getElem_of_mem hx;exact HA.out i _ (by have:=HN.out;omega) (List.getElem?_eq_getElem hi)
      have HE:=Lib.hid he;rw [List.take_of_length_le (by rw [← HN.out];omega)] at hw;clear he;obtain ⟨A1,n1,c1,kw1,ho1⟩:=hw;have q1 : wr.cell? ⟨B + 1,0,none⟩ = some (.slice A1 n1 c1):=kw1.cell 0;have f1 : wr.cell? ⟨B,0,none⟩ = some (.int .i64 0):=kf.cell 0;have f2:=kf.free 0;have hkd : decide ((k : Int) < (n : Int)) = false:=decide_eq_false (by omega);go_wp2_with fail;refine leaves_cons (f:=75) (args:=#[.pointer (some ⟨B,0,none⟩)]) (by simp) (by simp [go_sem]) ?_;refine (ecaught_none _ _).mono ?_;rintro e u' w2 ⟨rfl,rfl,rfl⟩;have k2:=kf.set_ 0 (.int .i64 0);have c2:=k2.cell 0;have hb3 : Below B w (wr.setCell ⟨B,0,none⟩ (.int .i64 0)):=gb.setCell (by show B≤B;omega) _;refine ⟨.tuple #[.slice A1 n1 c1,.int .i64 0],by simp [results,Try.results37,go_sem,c2],A1,n1,c1,by rw [HE.out];rfl,?_,by rw [← HB.out];exact hb3⟩;rw [HE.out];refine (ho1.setFar ?_ _).mono (by have:=HB.out;omega)
      rcases A1 with _ | a
      · simp
      · have:=(ho1.lt a.block rfl).1
        simp
        omega
end Go.Proofs.Ytcgalmnllegnbaa

namespace Go.Proofs.Ytcgalmnllegnbaa.Ms
set_option linter.unusedVariables false
set_option linter.unusedSimpArgs false
set_option maxRecDepth 100000
open Dot
open Evt (Ev inB inB_iff rightE)
theorem eight_zero {m : Msg} (h : noSeen m = true) : m.u = [0,0,0,0,0,0,0,0]∧m.more = []:=by
  unfold noSeen at h
  rw [Bool.and_eq_true] at h;exact ⟨of_decide_eq_true h.1,of_decide_eq_true h.2⟩
theorem tail5 {m : Msg} (h4 : m.kind ≠ 4) (h : m.kind = 5) : tailM m = Vint.enc m.ev.length ++ m.ev.flatMap encE:=by unfold tailM;rw [if_neg h4,if_pos h]
end Go.Proofs.Ytcgalmnllegnbaa.Ms

namespace Go.Proofs.Ytcgalmnllegnbaa
set_option linter.unusedVariables false
set_option linter.unusedSimpArgs false
set_option maxRecDepth 100000
open Go.RowKit
open Dot Evt
open Ms (Mem)
theorem th_sizeM (a b c : Int) : (#[Value.int .i64 a,.int .i64 b,.int .i64 c]).size = 3:=rfl
theorem th_oneM (a b c : Int) : (#[Value.int .i64 a,.int .i64 b,.int .i64 c]).all (·.oneCell') = true:=by simp [Value.oneCell']
def ptc (k : Int) : Array Value:=#[.bool (decide (k ≠ 5)),.bool (decide (k = 2∨k = 3)),.bool (decide (k = 4)),.bool (decide (k = 5))]
theorem ptc_one (k : Int) : (ptc k).all (·.oneCell') = true:=pt_one _ _ _ _
theorem tail_len {x : MgV} {w : World} {B : Nat} (h : RowEv w B x.A2 x.n2 x.xs) (hes : x.m.ev = x.xs.map (·.e)) (hu : x.m.u.length = 8) (hR : Ms.rightM x.m = true) : (Ms.tailM x.m).length≤10000000:=by
  have ha:=((Ms.right_iff x.m).1 hR).2.2.2
  unfold Ms.tailM
  by_cases h4 : x.m.kind = 4
  · rw [if_pos h4]
    have h1 : Ms.askSeen x.m = rightB x.m.u x.m.more:=by unfold Ms.askSeen;rw [if_pos h4]
    have h2:=((right_iff x.m.u x.m.more).1 (by rw [← h1];exact ha.1)).2.1;have h3:=encs_len (putL x.m.u x.m.more)
    unfold putL at h3
    simp only [List.length_append,List.length_cons,List.length_nil,nums_len,hu] at h3
    unfold putL
    omega
  · rw [if_neg h4]
    by_cases h5 : x.m.kind = 5
    · rw [if_pos h5]
      have h1 : Ms.askEv x.m = (x.m.ev.all rightE && decide (x.m.ev.length≤768)):=by unfold Ms.askEv;rw [if_pos h5]
      have h2:=ha.2;rw [h1,Bool.and_eq_true] at h2;have h3:=of_decide_eq_true h2.2
      have h4:=encAll_len x.xs (fun y hy=>by
        obtain ⟨i,hi,rfl⟩:=List.getElem_of_mem hy;refine ⟨(h.2 i _ (List.getElem?_eq_getElem hi)).1.1,?_⟩;refine List.all_eq_true.1 h2.1 _ ?_;rw [hes]
        exact List.mem_map.2 ⟨_,List.getElem_mem hi,rfl⟩)
      have h5:=Vint.enc_length x.m.ev.length;rw [List.length_append,hes,List.flatMap_map] at *;rw [List.length_map] at h3;rw [List.length_map] at h5;rw [List.length_map]
      omega
    · rw [if_neg h5];simp
structure PutS (w0 : World) (g P : Nat) (C PA : Array Value) (w : World) : Prop where
  kb : Blk w g 27 C
  ke : Blk w (g + 1) 32 #[.int .i64 0]
  kp : Blk w P 73 PA
  gb : Below w0.heap.size w0 w
  lt : g + 1 < P
  ge : w0.heap.size≤g
theorem PutS.below {w0 w w' : World} {g P : Nat} {C PA : Array Value} (h : PutS w0 g P C PA w) (hb : Below w.heap.size w w') : PutS w0 g P C PA w':=⟨h.kb.below hb h.kb.lt,h.ke.below hb h.ke.lt,h.kp.below hb h.kp.lt,h.gb.trans (hb.mono h.gb.size),h.lt,h.ge⟩
theorem PutS.low {w0 w w' : World} {g P D : Nat} {C PA : Array Value} (h : PutS w0 g P C PA w) (hb : Below D w w') (hP : P < D) : PutS w0 g P C PA w':=⟨h.kb.below hb (by have:=h.lt;omega),h.ke.below hb (by have:=h.lt;omega),h.kp.below hb hP,h.gb.trans (hb.mono (by have:=h.lt;have:=h.ge;omega)),h.lt,h.ge⟩
theorem PutS.err {w0 w : World} {g P : Nat} {C PA : Array Value} (h : PutS w0 g P C PA w) : PutS w0 g P C PA (w.setCell ⟨g + 1,0,none⟩ (.int .i64 0)) :=
  ⟨h.kb.far (by show g ≠ g + 1;omega) _,h.ke.set_ 0 _,h.kp.far (by show P ≠ g + 1;have:=h.lt;omega) _,h.gb.setCell (by show w0.heap.size≤g + 1;have:=h.ge;omega) _,h.lt,h.ge⟩
set_option maxHeartbeats 4000000 in
theorem mput_any (x : MgV) (w : World) (h : MgIn w x) : Calls Try.prog 11 #[.agg x.cs] w (GiveBE w (Ms.putM x.m).1 (Ms.putM x.m).2):=by
  have HIN:=Lib.hid h;have HAT:=Lib.hid (mgv_at x);have SZ:=Lib.hid x.size
  have HRT:=Lib.hid fun (w' : World) (hb : Below w.heap.size w w')=>mright_any x w' (h.below hb)
  have HH:=Lib.hid fun (hk : 1≤x.m.kind∧x.m.kind≤5) (w' : World)=>(has17_any x.m.kind w' hk : Calls Try.prog _ _ w' fun e w''=>e = .returned (.agg (ptc x.m.kind))∧Below w'.heap.size w' w'')
  have HSN:=Lib.hid fun (w' : World)=>seen_any x h.ok.u w'
  have HDP:=Lib.hid fun (w' : World) (hb : Below w.heap.size w w')=>dput_any ⟨x.m.u,x.A1,x.n1,x.c1,x.m.more⟩ w' h.ok.u (h.below hb).ok.more
  have HEP:=Lib.hid fun (w' : World) (hb : Below w.heap.size w w')=>eputAll_any x.A2 x.n2 x.c2 x.xs w' h.b2 (h.below hb).ok.ev
  have HMB:=Lib.hid fun (w' : World) (hb : Below w.heap.size w w')=>(h.below hb).ok.mem
  have HN3:=Lib.hid (h.ok.mem.1)
  have HTL:=Lib.hid fun hr=>tail_len h.ok.ev h.ok.es h.ok.u hr
  clear h
  generalize hC : x.cs = C at *
  clear hC;obtain ⟨R,hR⟩ : ∃ R,R = Ms.rightM x.m:=⟨_,rfl⟩;have HR:=Lib.hid hR;clear hR
  go_enter_defers Try.func11,Try.ntmps11
  go_upto_region 2 with fail
  refine nameW ?_;intro W hW;obtain ⟨g,hg⟩ : ∃ g,g = w.heap.size:=⟨_,rfl⟩;rw [← hg]
  have kb : Blk W g 27 C:=by rw [hW,hg];exact (Blk.new w _ _).alloc _
  have ke : Blk W (g + 1) 32 #[.int .i64 0]:=by
    have h:=Blk.new (w.alloc (.cells C 27)) 32 #[.int .i64 0];rw [hW,hg]
    simpa using h
  have gb : Below w.heap.size w W:=by rw [hW];exact ((Below.refl _ _).alloc (Nat.le_refl _) _).alloc (by simp) _
  have hge : w.heap.size≤g:=by omega
  clear hW hg
  go_wp2_with ((with_reducible refine wpList_ld rowMg kb SZ.out ?_ ?_);rotate_left;(rfl))
  refine (HRT.out W gb).mono ?_;rintro e w1 ⟨rfl,b1⟩;have kb:=kb.below b1 kb.lt;have ke:=ke.below b1 ke.lt;have gb:=gb.trans (b1.mono gb.size);rw [← HR.out];clear b1
  cases R
  case false =>
    have hp : Ms.putM x.m = ([],2):=by unfold Ms.putM;rw [← HR.out,if_neg (by decide)]
    have HP:=Lib.hid hp;clear hp;go_wp2_with fail;refine (mmust_bad _ _).mono ?_;rintro e w2 ⟨rfl,rfl⟩;go_wp2_with fail;refine leaves_cons (f:=31) (args:=#[.pointer (some ⟨g + 1,0,none⟩)]) (by simp) (by simp [go_sem]) ?_;refine (mcaught_panic _ _ _ _ _ (ke.cell 0) (ke.free 0)).mono ?_;rintro e u' w3 ⟨rfl,rfl,rfl⟩;have k3:=(ke.alloc (.cells #[.int .i64 2] 114)).set_ 0 (.int .i64 2);have c3 : World.cell? _ _ = some (.int .i64 2):=k3.cell 0;have g3:=(gb.alloc gb.size (.cells #[.int .i64 2] 114)).setCell (p:=⟨g + 1,0,none⟩) (by show w.heap.size≤g + 1;omega) (.int .i64 2);refine ⟨.tuple #[.slice none 0 0,.int .i64 2],by simp [results,Try.results11,go_sem,c3],none,0,0,by rw [HP.out];rfl,by rw [HP.out];exact OwnB.nil _ _,g3⟩
  case true =>
    have hR:=HR.out.symm;have hrh:=Ms.right_head hR;have hml:=Ms.members_len hrh.2.2.2.1;have HHK:=Lib.hid (HH.out hrh.1);have HBD:=Lib.hid (Ms.headN_bd hR);have HHL:=Lib.hid (Ms.headN_len hR);have HRR:=Lib.hid hR;have HTN:=Lib.hid (HTL.out hR)
    have hn38 : x.n3≤8:=by rw [HN3.out];exact hml
    have HN8:=Lib.hid hn38;clear hR hrh hml hn38 HH HR;go_wp2_with fail;refine (mmust_ok _ _).mono ?_;rintro e w2 ⟨rfl,rfl⟩;have t0 : w1.cell? ⟨g,0,none⟩ = some (.int .i64 x.m.kind):=(kb.cell 0).trans HAT.out.1;go_wp2_with fail;refine (HHK.out _).mono ?_;rintro e w2 ⟨he,b2⟩;obtain rfl : e = .returned (.agg (ptc x.m.kind)):=he;have kb:=kb.below b2 kb.lt;have ke:=ke.below b2 ke.lt;have gb:=gb.trans (b2.mono gb.size);have hg2 : g + 1 < w2.heap.size:=ke.lt;obtain ⟨PA,hPA⟩ : ∃ PA,PA = ptc x.m.kind:=⟨_,rfl⟩;rw [← hPA];have HPA:=Lib.hid hPA;have SZ4:=Lib.hid (show PA.size = 4 by rw [hPA];rfl);have ONE4:=Lib.hid (show PA.all (·.oneCell') = true by rw [hPA];exact ptc_one _);clear hPA t0 b2
    go_upto_region 4 with ((with_reducible refine wpList_st (cs:=PA) rowPt (Blk.new _ _ _) SZ4.out ?_ ONE4.out ?_ ?_ ?_);(rfl);rotate_left;(rfl);(rfl);intro w3 kp g3 z3)
    have bn : Below w2.heap.size w2 w3:=new_below g3;obtain ⟨P,hP⟩ : ∃ P,P = w2.heap.size:=⟨_,rfl⟩;rw [← hP] at kp ⊢;have S0 : PutS w g P C PA w3:=⟨kb.below bn kb.lt,ke.below bn ke.lt,kp,gb.trans (bn.mono gb.size),by omega,hge⟩;have S1:=Lib.hid S0;have t0 : w3.cell? ⟨g,0,none⟩ = some (.int .i64 x.m.kind):=(S0.kb.cell 0).trans HAT.out.1;have t1 : w3.cell? ⟨g,1,none⟩ = some (.int .i64 x.m.frm):=(S0.kb.cell 1).trans HAT.out.2.1;have t2 : w3.cell? ⟨g,2,none⟩ = some (.int .i64 x.m.to):=(S0.kb.cell 2).trans HAT.out.2.2.1;have t15 : w3.cell? ⟨g,15,none⟩ = some (.slice x.A3 x.n3 x.c3):=(S0.kb.cell 15).trans HAT.out.2.2.2.2.2.2.2;clear hP S0 kb ke gb kp g3 z3 bn hg2
    go_upto_region 5 with fail
    have o0:=OwnI.made w3 w3.heap.size [x.m.kind,x.m.frm,x.m.to,(x.n3 : Int)] #[.int .i64 x.m.kind,.int .i64 x.m.frm,.int .i64 x.m.to,.int .i64 x.n3] 4 rfl rfl (Nat.le_refl _) (by unfold maxLen;omega);have bn : Below w3.heap.size w3 (w3.alloc (.cells #[.int .i64 x.m.kind,.int .i64 x.m.frm,.int .i64 x.m.to,.int .i64 x.n3] 3)):=(Below.refl _ _).alloc (Nat.le_refl _) _;have S2:=S1.out.below bn;obtain ⟨D,hD⟩ : ∃ D,D = w3.heap.size:=⟨_,rfl⟩;rw [← hD] at o0 ⊢
    have hPD : P < D:=by rw [hD];exact S1.out.kp.lt
    have hDs : D≤(w3.alloc (.cells #[.int .i64 x.m.kind,.int .i64 x.m.frm,.int .i64 x.m.to,.int .i64 x.n3] 3)).heap.size:=by rw [hD];exact bn.size
    generalize w3.alloc (.cells #[.int .i64 x.m.kind,.int .i64 x.m.frm,.int .i64 x.m.to,.int .i64 x.n3] 3) = w4 at *
    have t15 : w4.cell? ⟨g,15,none⟩ = some (.slice x.A3 x.n3 x.c3):=(S2.kb.cell 15).trans HAT.out.2.2.2.2.2.2.2;have HS2:=Lib.hid S2;have HO0:=Lib.hid o0
    have hwD : w.heap.size≤D:=by have:=S2.lt;have:=S2.ge;omega
    clear bn hD o0 S2 S1 t0 t1 t2;go_wp2_with fail
    go_loopw [5,31] (fun s i wr=>∃ (k : Nat) (A : Option Addr) (nc cc : Nat),k≤x.n3∧i = .int .i64 (k : Nat)∧s = .slice A nc cc∧OwnI wr D A nc cc ([x.m.kind,x.m.frm,x.m.to,(x.n3 : Int)] ++ (x.m.mem.take k).flatMap fun v=>[v.1,v.2.1,v.2.2])∧Below D w4 wr) (fun _ i _=>x.n3 - (intOf i).toNat)
    case atStart=>exact ⟨0,_,4,4,by omega,rfl,rfl,by simpa using HO0.out,Below.refl _ _⟩
    case round =>
      obtain ⟨k,A5,n5,c5,hk,rfl,rfl,ho,bk⟩:=hrel;have hm8:=HN8.out
      have hn5 : n5≤28:=by
        rw [ho.1,List.length_append,Ms.trip_len,List.length_take]
        simp only [List.length_cons,List.length_nil]
        omega
      by_cases hlt : k < x.n3
      · have hkl : k < x.m.mem.length:=by rw [← HN3.out];exact hlt
        obtain ⟨ad,hA,q5,q0,q1,q2⟩:=(HMB.out wr (HS2.out.gb.trans (bk.mono hwD))).2 k _ (List.getElem?_eq_getElem hkl);have hst:=Ms.trip_snoc x.m.mem hkl
        have hk0 : (0 : Int)≤(k : Int):=by omega
        have hkn : (k : Int) < (x.n3 : Int):=by omega
        have HO5:=Lib.hid ho
        generalize x.m.mem[k] = d at *
        obtain ⟨a1,a2,a3⟩:=d
        simp only at q0 q1 q2 hst
        have HST:=Lib.hid hst;clear hst ho;rw [hA]
        go_upto_region 8 with ((with_reducible refine wpList_st (cs:=#[.int .i64 a1,.int .i64 a2,.int .i64 a3]) rowMb (Blk.new _ _ _) (th_sizeM _ _ _) ?_ (th_oneM _ _ _) ?_ ?_ ?_);(rfl);rotate_left;(rfl);(rfl);intro w7 kq g7 z7)
        have bq : Below wr.heap.size wr w7:=new_below g7;have HO6:=Lib.hid (HO5.out.below bq (Nat.le_refl _));have hDr : D≤wr.heap.size:=Nat.le_trans hDs bk.size;have b7:=bk.trans (bq.mono hDr);have hD7 : D≤w7.heap.size:=Nat.le_trans hDr bq.size;have d0:=kq.cell 0;have d1:=kq.cell 1;have d2:=kq.cell 2;clear g7 z7 bq bk HO5 q5 q0 q1 q2
        go_wp2_with (at_builtin;refine stop ?_)
        unfold Stop
        have ba:=b7.alloc hD7 (.cells #[.int .i64 a1,.int .i64 a2,.int .i64 a3] 3);refine wpList_appI rfl (.tmp 35) (.tmp 42) rfl (by rfl) (HO6.out.alloc _) (by rfl) (RdI.made w7 [a1,a2,a3] _ _ _ rfl) (by simp;omega) (Nat.le_trans hD7 (by simp)) ?_;intro A8 c8 w8 ho8 _ _ b8;have HO8:=Lib.hid ho8;have b9:=ba.trans b8;clear ho8 b8 ba b7;go_wp2_with fail
        go_roundw
        case rel=>exact ⟨k + 1,A8,_,c8,by omega,by go_num,rfl,by rw [HST.out,← List.append_assoc];exact HO8.out,b9⟩
        case measure=>simp [intOf];omega
      · obtain rfl : k = x.n3:=by omega
        have hfull : x.m.mem.take x.n3 = x.m.mem:=List.take_of_length_le (by rw [← HN3.out];omega);rw [hfull] at ho;have hkd : decide ((x.n3 : Int) < (x.n3 : Int)) = false:=decide_eq_false (by omega);have S5:=HS2.out.low bk hPD;have hDr : D≤wr.heap.size:=Nat.le_trans hDs bk.size
        obtain ⟨L1,hL1⟩ : ∃ L1,L1 = [x.m.kind,x.m.frm,x.m.to,(x.n3 : Int)] ++ x.m.mem.flatMap fun v : Mem=>[v.1,v.2.1,v.2.2]:=⟨_,rfl⟩
        rw [← hL1] at ho
        have hHN : Ms.headN x.m = L1 ++ (if x.m.kind ≠ 5 then [x.m.seq] else []) ++ (if x.m.kind = 2∨x.m.kind = 3 then [x.m.node] else []):=by rw [Ms.headN_eq,hL1,HN3.out]
        have HHN:=Lib.hid hHN;have hpa:=HPA.out;have p0 : wr.cell? ⟨P,0,none⟩ = some (.bool (decide (x.m.kind ≠ 5))):=(S5.kp.cell 0).trans (by rw [hpa];rfl);have s3 : wr.cell? ⟨g,3,none⟩ = some (.int .i64 x.m.seq):=(S5.kb.cell 3).trans HAT.out.2.2.2.1;obtain ⟨bq,hbq⟩ : ∃ bq,bq = decide (x.m.kind ≠ 5):=⟨_,rfl⟩;rw [← hbq] at p0;have HBQ:=Lib.hid hbq;clear hbq;have HS5:=Lib.hid S5;have HO:=Lib.hid ho;clear hfull hL1 hHN hpa S5 ho bk hlt hk HS2 HO0 HMB t15
        go_upto_if 46 with fail
        go_cut [5] from 47 to 51 (fun s wx=>∃ (A : Option Addr) (nc cc : Nat),s = .slice A nc cc∧nc≤29∧OwnI wx D A nc cc (L1 ++ (if x.m.kind ≠ 5 then [x.m.seq] else []))∧Below D wr wx)
        case first =>
          cases bq
          · have h5:=of_decide_eq_false HBQ.out.symm
            have HX5:=Lib.hid h5;clear h5;go_wp2_with fail;go_meet;exact ⟨_,_,_,rfl,by omega,by rw [if_neg HX5.out,List.append_nil];exact HO.out,Below.refl _ _⟩
          · have h5:=of_decide_eq_true HBQ.out.symm
            have HX5:=Lib.hid h5;clear h5
            go_wp2_with (at_builtin;refine stop ?_)
            unfold Stop
            have ba:=(Below.refl D wr).alloc hDr (.cells #[.int .i64 x.m.seq] 3);refine wpList_appI rfl (.tmp 47) (.tmp 50) rfl (by rfl) (HO.out.alloc _) (by rfl) (RdI.made wr [x.m.seq] _ _ _ rfl) (by simp;omega) (Nat.le_trans hDr (by simp)) ?_;intro A8 c8 w8 ho8 _ _ b8;go_wp2_with fail;go_meet;exact ⟨_,_,_,rfl,by simp;omega,by rw [if_pos HX5.out];exact ho8,ba.trans b8⟩
        case rest =>
          obtain ⟨A6,n6,c6,rfl,hn6,o6,b6⟩:=hcut;obtain ⟨w5,rfl⟩ : ∃ w5,w5 = wc:=⟨_,rfl⟩;have S6:=HS5.out.low b6 hPD;have hD6 : D≤w5.heap.size:=Nat.le_trans hDr b6.size;have hpa:=HPA.out;have p1 : w5.cell? ⟨P,1,none⟩ = some (.bool (decide (x.m.kind = 2∨x.m.kind = 3))):=(S6.kp.cell 1).trans (by rw [hpa];rfl);have s4 : w5.cell? ⟨g,4,none⟩ = some (.int .i64 x.m.node):=(S6.kb.cell 4).trans HAT.out.2.2.2.2.1;obtain ⟨br,hbr⟩ : ∃ br,br = decide (x.m.kind = 2∨x.m.kind = 3):=⟨_,rfl⟩;rw [← hbr] at p1;have HBR:=Lib.hid hbr;clear hbr;have HS6:=Lib.hid S6;have HO6:=Lib.hid o6;clear hpa S6 o6 b6 p0 s3 HS5 HO
          go_upto_if 53 with fail
          go_cut [5] from 54 to 58 (fun s wx=>∃ (A : Option Addr) (nc cc : Nat),s = .slice A nc cc∧nc≤30∧OwnI wx D A nc cc (Ms.headN x.m)∧Below D w5 wx)
          case first =>
            cases br
            rotate_left
            · have h5:=of_decide_eq_true HBR.out.symm
              have HX5:=Lib.hid h5;clear h5
              go_wp2_with (at_builtin;refine stop ?_)
              unfold Stop
              have ba:=(Below.refl D w5).alloc hD6 (.cells #[.int .i64 x.m.node] 3);refine wpList_appI rfl (.tmp 54) (.tmp 57) rfl (by rfl) (HO6.out.alloc _) (by rfl) (RdI.made w5 [x.m.node] _ _ _ rfl) (by simp;omega) (Nat.le_trans hD6 (by simp)) ?_;intro A8 c8 w8 ho8 _ _ b8;go_wp2_with fail;go_meet;exact ⟨_,_,_,rfl,by simp;omega,by rw [HHN.out,if_pos HX5.out];exact ho8,ba.trans b8⟩
            · have h5:=of_decide_eq_false HBR.out.symm
              have HX5:=Lib.hid h5;clear h5;go_wp2_with fail;go_meet;exact ⟨_,_,_,rfl,by omega,by rw [HHN.out,if_neg HX5.out,List.append_nil];exact HO6.out,Below.refl _ _⟩
          case rest =>
            obtain ⟨A7,n7,c7,rfl,hn7,o7,b7⟩:=hcut;obtain ⟨w6,rfl⟩ : ∃ w6,w6 = wc:=⟨_,rfl⟩;have S7:=HS6.out.low b7 hPD;obtain ⟨ms,hms⟩ : ∃ ms,ms = Ms.headN x.m:=⟨_,rfl⟩;rw [← hms] at o7;have HMS:=Lib.hid hms;have HBD2:=Lib.hid (show ∀ z ∈ ms,0≤z∧z≤1099511627776 by rw [hms];exact HBD.out);have hP6 : P < w6.heap.size:=S7.kp.lt
            have hDp : g + 1 < D:=by have:=S7.lt;omega
            have hg6 : g + 1 < w6.heap.size:=S7.ke.lt;clear hms p1 s4 HS6 HO6 b7 HBD HHN;go_wp2_with fail
            go_loopw [8,61] (fun s i wq=>∃ (j : Nat) (A' : Option Addr) (nc cc : Nat),j≤n7∧i = .int .i64 (j : Nat)∧s = .slice A' nc cc∧OwnB wq w6.heap.size A' nc cc (encs (ms.take j))∧OwnI wq D A7 n7 c7 ms∧PutS w g P C PA wq∧w6.heap.size≤wq.heap.size) (fun _ i _=>n7 - (intOf i).toNat)
            case atStart=>exact ⟨0,none,0,0,by omega,rfl,rfl,OwnB.nil _ _,o7,S7,Nat.le_refl _⟩
            case round =>
              obtain ⟨j,A',nc,cc,hj,rfl,rfl,ob,oI,S,hz⟩:=hrel
              by_cases hjm : j < n7
              · have hjl : j < ms.length:=by rw [← oI.1];exact hjm
                obtain ⟨ad,hA7,_,c1⟩:=oI.rd.at_ hjl;have hxb:=HBD2.out _ (List.getElem_mem hjl);have hes:=encs_snoc ms hjl;have HES:=Lib.hid hes;have hel:=encs_len (ms.take j)
                have hnb : nc≤600:=by
                  have h1:=ob.1;have h2 : (ms.take j).length≤j:=List.length_take_le _ _
                  omega
                clear hes hel
                generalize ms[j] = z at *
                obtain ⟨z,rfl⟩:=Int.eq_ofNat_of_zero_le hxb.1;rw [Int.toNat_natCast] at HES
                have hj0 : (0 : Int)≤(j : Int):=by omega
                have hj1 : (j : Int) < (n7 : Int):=by omega
                have HS:=Lib.hid S;have HOI:=Lib.hid oI;have HOB:=Lib.hid ob;clear S oI ob o7 S7;subst hA7;go_wp2_with fail;refine (put_ok A' nc cc _ z _ _ HOB.out.rd (Nat.le_refl _) (by omega) (by omega)).mono ?_;rintro e w7 ⟨A8,n8,c8,rfl,o8,b8⟩;have S8:=HS.out.below b8;have e1 : w7.cell? ⟨g + 1,0,none⟩ = some (.int .i64 0):=S8.ke.cell 0;have f1:=S8.ke.free 0;have S9:=S8.err;have e2 : World.cell? _ ⟨g + 1,0,none⟩ = some (.int .i64 0):=S9.ke.cell 0;have oI9:=(HOI.out.below b8 (Nat.le_refl _)).setFar (p:=⟨g + 1,0,none⟩) (by intro hq;have h9 : D≤g + 1:=(HOI.out.lt _ hq).1;omega) (.int .i64 0);have o9 : OwnB _ w6.heap.size A8 n8 c8 (encs (ms.take (j + 1))):=((show OwnB w7 wr.heap.size A8 n8 c8 (encs (ms.take (j + 1))) by rw [HES.out];exact o8).mono hz).setFar (p:=⟨g + 1,0,none⟩) (by intro hq;have h9 : wr.heap.size≤g + 1:=(o8.lt _ hq).1;omega) (.int .i64 0)
                have hz9 : w6.heap.size≤(w7.setCell ⟨g + 1,0,none⟩ (.int .i64 0)).heap.size:=by have:=b8.size;simp [World.setCell];omega
                have H9:=Lib.hid (And.intro o9 (And.intro oI9 (And.intro S9 hz9)));clear S8 S9 oI9 o9 hz9 o8 b8 HS HOI HOB;go_wp2_with fail;refine (mmust_ok _ _).mono ?_;rintro e wz ⟨rfl,rfl⟩;go_wp2_with fail
                go_roundw
                case rel=>exact ⟨j + 1,A8,n8,c8,by omega,by go_num,rfl,H9.out⟩
                case measure=>simp [intOf];omega
              · have hfull : ms.take j = ms:=List.take_of_length_le (by rw [← oI.1];omega)
                rw [hfull,HMS.out] at ob
                have hnb : nc≤180:=by
                  have h1:=ob.1;have h2:=encs_len (Ms.headN x.m);have h3:=HHL.out
                  omega
                have hkd : decide ((j : Int) < (n7 : Int)) = false:=decide_eq_false (by omega);obtain ⟨w7,rfl⟩ : ∃ w7,w7 = wr:=⟨_,rfl⟩;have hpa:=HPA.out;have p2 : w7.cell? ⟨P,2,none⟩ = some (.bool (decide (x.m.kind = 4))):=(S.kp.cell 2).trans (by rw [hpa];rfl);have p3 : w7.cell? ⟨P,3,none⟩ = some (.bool (decide (x.m.kind = 5))):=(S.kp.cell 3).trans (by rw [hpa];rfl);have s14 : w7.cell? ⟨g,14,none⟩ = some (.slice x.A2 x.n2 x.c2):=(S.kb.cell 14).trans HAT.out.2.2.2.2.2.2.1;have hasks:=((Ms.right_iff x.m).1 HRR.out).2.2.2;clear hpa oI o7 S7 hfull
                by_cases h4 : x.m.kind = 4
                · have hrb : rightB x.m.u x.m.more = true:=by have:=hasks.1;unfold Ms.askSeen at this;rwa [if_pos h4] at this
                  have htm : Ms.tailM x.m = encs (putL x.m.u x.m.more):=by unfold Ms.tailM;rw [if_pos h4]
                  have hdp:=HDP.out
                  simp only [hrb,if_true] at hdp
                  rw [← htm] at hdp;have HD2:=Lib.hid hdp;have HS:=Lib.hid S;have HOB:=Lib.hid ob;have kb:=S.kb;have hd4 : decide (x.m.kind = 4) = true:=decide_eq_true h4;rw [hd4] at p2;clear hrb htm hdp S ob hasks
                  go_wp2_with ((with_reducible refine wpList_ld rowMg kb SZ.out ?_ ?_);rotate_left;(rfl))
                  refine (HSN.out _).mono ?_;rintro e w8 ⟨rfl,b8⟩;have S8:=HS.out.below b8;have ob8:=HOB.out.below b8 (Nat.le_refl _);have HS8:=Lib.hid S8;go_wp2_with fail;refine (HD2.out w8 S8.gb).mono ?_;rintro e wg ⟨At,nt,ct,rfl,ot,bt⟩;have S9:=S8.below bt;have ob9:=ob8.below bt (Nat.le_refl _);have e0 : wg.cell? ⟨g + 1,0,none⟩ = some (.int .i64 0):=S9.ke.cell 0;have f0:=S9.ke.free 0;have S9:=S9.err;have hg8 : g + 1 < w8.heap.size:=S8.ke.lt;have ob9:=ob9.setFar (p:=⟨g + 1,0,none⟩) (by intro hq;have h9 : w6.heap.size≤g + 1:=(ob9.lt _ hq).1;omega) (.int .i64 0);have ot9:=ot.setFar (p:=⟨g + 1,0,none⟩) (by intro hq;have h9 : w8.heap.size≤g + 1:=(ot.lt _ hq).1;omega) (.int .i64 0)
                  have hb9 : w6.heap.size≤(wg.setCell ⟨g + 1,0,none⟩ (.int .i64 0)).heap.size:=by have:=b8.size;have:=bt.size;simp [World.setCell];omega
                  obtain ⟨w9,hw9⟩ : ∃ w9,w9 = wg.setCell ⟨g + 1,0,none⟩ (.int .i64 0):=⟨_,rfl⟩;rw [← hw9] at S9 ob9 ot9 hb9;clear S8 ob8 b8 bt ot kb HS HOB;have HW9:=Lib.hid hw9
                  go_upto_region 26 with fail
                  rw [← HW9.out];clear hw9;have SZ9:=S9.gb.size;have e1 : w9.cell? ⟨g + 1,0,none⟩ = some (.int .i64 0):=S9.ke.cell 0;have HS9:=Lib.hid S9;have HOb:=Lib.hid ob9;have HOt:=Lib.hid ot9;have hnb9 : nc≤180:=hnb
                  have htl : nt≤10000000:=by rw [ot9.1];exact HTN.out
                  clear S9 ob9 ot9;go_wp2_with fail;refine (mmust_ok _ _).mono ?_;rintro e wz ⟨rfl,rfl⟩
                  go_wp2_with (at_builtin;refine stop ?_)
                  unfold Stop
                  refine wpList_appB rfl (.tmp 98) (.tmp 99) rfl (by rfl) HOb.out (by rfl) HOt.out.rd (by omega) hb9 ?_;intro Ac cc' wa oa _ _ ba;have Sa:=HS9.out.low (ba.mono (show P + 1≤_ by have:=hP6;omega)) (Nat.lt_succ_self P);have hbody : encs (Ms.headN x.m) ++ Ms.tailM x.m = Ms.bodyM x.m:=rfl;rw [hbody] at oa;have HSa:=Lib.hid Sa;have hla : nc + nt = (Ms.bodyM x.m).length:=oa.1;rw [hla] at oa ⊢;have HOa:=Lib.hid oa;clear Sa oa ba hla
                  by_cases hlong : (Ms.bodyM x.m).length≤4096
                  · have hp : Ms.putM x.m = (Frame.frm (Ms.bodyM x.m),0):=by unfold Ms.putM;rw [if_pos HRR.out,if_pos (by omega)]
                    have HP:=Lib.hid hp;clear hp;go_wp2_with fail;refine (Frame.put_ok _ _ _ (Ms.bodyM x.m) wa.heap.size wa HOa.out.rd (Nat.le_refl _) hlong).mono ?_;rintro e wf ⟨Af,nf,cf,rfl,of,bf⟩;have Sf:=HSa.out.below bf;have e2 : wf.cell? ⟨g + 1,0,none⟩ = some (.int .i64 0):=Sf.ke.cell 0;have f2:=Sf.ke.free 0;have Se:=Sf.err;have e3 : World.cell? _ ⟨g + 1,0,none⟩ = some (.int .i64 0):=Se.ke.cell 0;have HSe:=Lib.hid (And.intro Se of);have hga : g + 1 < wa.heap.size:=HSa.out.ke.lt;clear Sf Se of bf;go_wp2_with fail;refine leaves_cons (f:=31) (args:=#[.pointer (some ⟨g + 1,0,none⟩)]) (by simp) (by simp [go_sem]) ?_;refine (mcaught_none _ _).mono ?_;rintro e u' w'' ⟨rfl,rfl,rfl⟩;refine ⟨.tuple #[.slice Af nf cf,.int .i64 0],by simp [results,Try.results11,go_sem,e3],Af,nf,cf,by rw [HP.out];rfl,?_,HSe.out.1.gb⟩;rw [HP.out]
                    exact (HSe.out.2.setFar (p:=⟨g + 1,0,none⟩) (by
                      intro hq;have h9 : wa.heap.size≤g + 1:=(HSe.out.2.lt _ hq).1
                      omega) _).mono (by have:=HSa.out.gb.size;omega)
                  · have hp : Ms.putM x.m = ([],6):=by unfold Ms.putM;rw [if_pos HRR.out,if_neg (by omega)]
                    have HP:=Lib.hid hp;clear hp;go_wp2_with fail;refine (Frame.put_long _ _ _ wa (by omega)).mono ?_;rintro e wf ⟨rfl,rfl⟩;have e2 : wa.cell? ⟨g + 1,0,none⟩ = some (.int .i64 0):=HSa.out.ke.cell 0;have f2:=HSa.out.ke.free 0;have k3:=HSa.out.ke.set_ 0 (.int .i64 6);have e3 : World.cell? _ ⟨g + 1,0,none⟩ = some (.int .i64 6):=k3.cell 0;have g3:=HSa.out.gb.setCell (p:=⟨g + 1,0,none⟩) (by show w.heap.size≤g + 1;omega) (.int .i64 6);have HG3:=Lib.hid g3;clear k3 g3;go_wp2_with fail;refine leaves_cons (f:=31) (args:=#[.pointer (some ⟨g + 1,0,none⟩)]) (by simp) (by simp [go_sem]) ?_;refine (mcaught_none _ _).mono ?_;rintro e u' w'' ⟨rfl,rfl,rfl⟩;refine ⟨.tuple #[.slice none 0 0,.int .i64 6],by simp [results,Try.results11,go_sem,e3],none,0,0,by rw [HP.out];rfl,by rw [HP.out];exact OwnB.nil _ _,HG3.out⟩
                have hd4 : decide (x.m.kind = 4) = false:=decide_eq_false h4;rw [hd4] at p2
                by_cases h5 : x.m.kind = 5
                · have hrb : putAllE x.xs = (Ms.tailM x.m,0):=by
                    have h:=hasks.2
                    unfold Ms.askEv at h
                    rw [if_pos h5,HIN.out.ok.es,Bool.and_eq_true] at h;have h2:=of_decide_eq_true h.2;rw [List.length_map] at h2
                    unfold putAllE Ms.tailM
                    rw [if_neg (by omega),if_pos,if_neg h4,if_pos h5,HIN.out.ok.es,List.length_map,List.flatMap_map];rw [List.all_eq_true];intro y hy;exact List.all_eq_true.1 h.1 _ (List.mem_map.2 ⟨y,hy,rfl⟩)
                  have hdp:=HEP.out
                  simp only [hrb] at hdp
                  have HD2:=Lib.hid hdp;have HS:=Lib.hid S;have HOB:=Lib.hid ob;have hg8 : g + 1 < w7.heap.size:=S.ke.lt;have hd5 : decide (x.m.kind = 5) = true:=decide_eq_true h5;rw [hd5] at p3;clear hrb hdp S ob hasks;go_wp2_with fail;refine (HD2.out w7 HS.out.gb).mono ?_;rintro e wg ⟨At,nt,ct,rfl,ot,bt⟩;have S9:=HS.out.below bt;have ob9:=HOB.out.below bt (Nat.le_refl _);have e0 : wg.cell? ⟨g + 1,0,none⟩ = some (.int .i64 0):=S9.ke.cell 0;have f0:=S9.ke.free 0;have S9:=S9.err;have ob9:=ob9.setFar (p:=⟨g + 1,0,none⟩) (by intro hq;have h9 : w6.heap.size≤g + 1:=(ob9.lt _ hq).1;omega) (.int .i64 0);have ot9:=ot.setFar (p:=⟨g + 1,0,none⟩) (by intro hq;have h9 : w7.heap.size≤g + 1:=(ot.lt _ hq).1;omega) (.int .i64 0)
                  have hb9 : w6.heap.size≤(wg.setCell ⟨g + 1,0,none⟩ (.int .i64 0)).heap.size:=by have:=bt.size;simp [World.setCell];omega
                  obtain ⟨w9,hw9⟩ : ∃ w9,w9 = wg.setCell ⟨g + 1,0,none⟩ (.int .i64 0):=⟨_,rfl⟩;rw [← hw9] at S9 ob9 ot9 hb9;clear bt ot HS HOB;have HW9:=Lib.hid hw9
                  go_upto_region 26 with fail
                  rw [← HW9.out];clear hw9;have SZ9:=S9.gb.size;have e1 : w9.cell? ⟨g + 1,0,none⟩ = some (.int .i64 0):=S9.ke.cell 0;have HS9:=Lib.hid S9;have HOb:=Lib.hid ob9;have HOt:=Lib.hid ot9;have hnb9 : nc≤180:=hnb
                  have htl : nt≤10000000:=by rw [ot9.1];exact HTN.out
                  clear S9 ob9 ot9;go_wp2_with fail;refine (mmust_ok _ _).mono ?_;rintro e wz ⟨rfl,rfl⟩
                  go_wp2_with (at_builtin;refine stop ?_)
                  unfold Stop
                  refine wpList_appB rfl (.tmp 98) (.tmp 99) rfl (by rfl) HOb.out (by rfl) HOt.out.rd (by omega) hb9 ?_;intro Ac cc' wa oa _ _ ba;have Sa:=HS9.out.low (ba.mono (show P + 1≤_ by have:=hP6;omega)) (Nat.lt_succ_self P);have hbody : encs (Ms.headN x.m) ++ Ms.tailM x.m = Ms.bodyM x.m:=rfl;rw [hbody] at oa;have HSa:=Lib.hid Sa;have hla : nc + nt = (Ms.bodyM x.m).length:=oa.1;rw [hla] at oa ⊢;have HOa:=Lib.hid oa;clear Sa oa ba hla
                  by_cases hlong : (Ms.bodyM x.m).length≤4096
                  · have hp : Ms.putM x.m = (Frame.frm (Ms.bodyM x.m),0):=by unfold Ms.putM;rw [if_pos HRR.out,if_pos (by omega)]
                    have HP:=Lib.hid hp;clear hp;go_wp2_with fail;refine (Frame.put_ok _ _ _ (Ms.bodyM x.m) wa.heap.size wa HOa.out.rd (Nat.le_refl _) hlong).mono ?_;rintro e wf ⟨Af,nf,cf,rfl,of,bf⟩;have Sf:=HSa.out.below bf;have e2 : wf.cell? ⟨g + 1,0,none⟩ = some (.int .i64 0):=Sf.ke.cell 0;have f2:=Sf.ke.free 0;have Se:=Sf.err;have e3 : World.cell? _ ⟨g + 1,0,none⟩ = some (.int .i64 0):=Se.ke.cell 0;have HSe:=Lib.hid (And.intro Se of);have hga : g + 1 < wa.heap.size:=HSa.out.ke.lt;clear Sf Se of bf;go_wp2_with fail;refine leaves_cons (f:=31) (args:=#[.pointer (some ⟨g + 1,0,none⟩)]) (by simp) (by simp [go_sem]) ?_;refine (mcaught_none _ _).mono ?_;rintro e u' w'' ⟨rfl,rfl,rfl⟩;refine ⟨.tuple #[.slice Af nf cf,.int .i64 0],by simp [results,Try.results11,go_sem,e3],Af,nf,cf,by rw [HP.out];rfl,?_,HSe.out.1.gb⟩;rw [HP.out]
                    exact (HSe.out.2.setFar (p:=⟨g + 1,0,none⟩) (by
                      intro hq;have h9 : wa.heap.size≤g + 1:=(HSe.out.2.lt _ hq).1
                      omega) _).mono (by have:=HSa.out.gb.size;omega)
                  · have hp : Ms.putM x.m = ([],6):=by unfold Ms.putM;rw [if_pos HRR.out,if_neg (by omega)]
                    have HP:=Lib.hid hp;clear hp;go_wp2_with fail;refine (Frame.put_long _ _ _ wa (by omega)).mono ?_;rintro e wf ⟨rfl,rfl⟩;have e2 : wa.cell? ⟨g + 1,0,none⟩ = some (.int .i64 0):=HSa.out.ke.cell 0;have f2:=HSa.out.ke.free 0;have k3:=HSa.out.ke.set_ 0 (.int .i64 6);have e3 : World.cell? _ ⟨g + 1,0,none⟩ = some (.int .i64 6):=k3.cell 0;have g3:=HSa.out.gb.setCell (p:=⟨g + 1,0,none⟩) (by show w.heap.size≤g + 1;omega) (.int .i64 6);have HG3:=Lib.hid g3;clear k3 g3;go_wp2_with fail;refine leaves_cons (f:=31) (args:=#[.pointer (some ⟨g + 1,0,none⟩)]) (by simp) (by simp [go_sem]) ?_;refine (mcaught_none _ _).mono ?_;rintro e u' w'' ⟨rfl,rfl,rfl⟩;refine ⟨.tuple #[.slice none 0 0,.int .i64 6],by simp [results,Try.results11,go_sem,e3],none,0,0,by rw [HP.out];rfl,by rw [HP.out];exact OwnB.nil _ _,HG3.out⟩
                · have htm : Ms.tailM x.m = []:=by unfold Ms.tailM;rw [if_neg h4,if_neg h5]
                  have hd5 : decide (x.m.kind = 5) = false:=decide_eq_false h5;rw [hd5] at p3;have S9:=S;have ob9:=ob;obtain ⟨w9,rfl⟩ : ∃ w9,w9 = w7:=⟨_,rfl⟩
                  have ot9 : OwnB w9 w9.heap.size none 0 0 (Ms.tailM x.m):=by rw [htm];exact OwnB.nil _ _
                  have hb9:=hz;obtain ⟨nt,hnt⟩ : ∃ nt,nt = 0:=⟨_,rfl⟩;clear S ob hasks htm
                  go_upto_region 26 with fail
                  subst hnt;have SZ9:=S9.gb.size;have e1 : w9.cell? ⟨g + 1,0,none⟩ = some (.int .i64 0):=S9.ke.cell 0;have HS9:=Lib.hid S9;have HOb:=Lib.hid ob9;have HOt:=Lib.hid ot9;have hnb9 : nc≤180:=hnb
                  have htl : 0≤10000000:=by rw [ot9.1];exact HTN.out
                  clear S9 ob9 ot9;go_wp2_with fail;refine (mmust_ok _ _).mono ?_;rintro e wz ⟨rfl,rfl⟩
                  go_wp2_with (at_builtin;refine stop ?_)
                  unfold Stop
                  refine wpList_appB rfl (.tmp 98) (.tmp 99) rfl (by rfl) HOb.out (by rfl) HOt.out.rd (by omega) hb9 ?_;intro Ac cc' wa oa _ _ ba;have Sa:=HS9.out.low (ba.mono (show P + 1≤_ by have:=hP6;omega)) (Nat.lt_succ_self P);have hbody : encs (Ms.headN x.m) ++ Ms.tailM x.m = Ms.bodyM x.m:=rfl;rw [hbody] at oa;have HSa:=Lib.hid Sa;have hla : nc + 0 = (Ms.bodyM x.m).length:=oa.1;rw [hla] at oa ⊢;have HOa:=Lib.hid oa;clear Sa oa ba hla
                  by_cases hlong : (Ms.bodyM x.m).length≤4096
                  · have hp : Ms.putM x.m = (Frame.frm (Ms.bodyM x.m),0):=by unfold Ms.putM;rw [if_pos HRR.out,if_pos (by omega)]
                    have HP:=Lib.hid hp;clear hp;go_wp2_with fail;refine (Frame.put_ok _ _ _ (Ms.bodyM x.m) wa.heap.size wa HOa.out.rd (Nat.le_refl _) hlong).mono ?_;rintro e wf ⟨Af,nf,cf,rfl,of,bf⟩;have Sf:=HSa.out.below bf;have e2 : wf.cell? ⟨g + 1,0,none⟩ = some (.int .i64 0):=Sf.ke.cell 0;have f2:=Sf.ke.free 0;have Se:=Sf.err;have e3 : World.cell? _ ⟨g + 1,0,none⟩ = some (.int .i64 0):=Se.ke.cell 0;have HSe:=Lib.hid (And.intro Se of);have hga : g + 1 < wa.heap.size:=HSa.out.ke.lt;clear Sf Se of bf;go_wp2_with fail;refine leaves_cons (f:=31) (args:=#[.pointer (some ⟨g + 1,0,none⟩)]) (by simp) (by simp [go_sem]) ?_;refine (mcaught_none _ _).mono ?_;rintro e u' w'' ⟨rfl,rfl,rfl⟩;refine ⟨.tuple #[.slice Af nf cf,.int .i64 0],by simp [results,Try.results11,go_sem,e3],Af,nf,cf,by rw [HP.out];rfl,?_,HSe.out.1.gb⟩;rw [HP.out]
                    exact (HSe.out.2.setFar (p:=⟨g + 1,0,none⟩) (by
                      intro hq;have h9 : wa.heap.size≤g + 1:=(HSe.out.2.lt _ hq).1
                      omega) _).mono (by have:=HSa.out.gb.size;omega)
                  · have hp : Ms.putM x.m = ([],6):=by unfold Ms.putM;rw [if_pos HRR.out,if_neg (by omega)]
                    have HP:=Lib.hid hp;clear hp;go_wp2_with fail;refine (Frame.put_long _ _ _ wa (by omega)).mono ?_;rintro e wf ⟨rfl,rfl⟩;have e2 : wa.cell? ⟨g + 1,0,none⟩ = some (.int .i64 0):=HSa.out.ke.cell 0;have f2:=HSa.out.ke.free 0;have k3:=HSa.out.ke.set_ 0 (.int .i64 6);have e3 : World.cell? _ ⟨g + 1,0,none⟩ = some (.int .i64 6):=k3.cell 0;have g3:=HSa.out.gb.setCell (p:=⟨g + 1,0,none⟩) (by show w.heap.size≤g + 1;omega) (.int .i64 6);have HG3:=Lib.hid g3;clear k3 g3;go_wp2_with fail;refine leaves_cons (f:=31) (args:=#[.pointer (some ⟨g + 1,0,none⟩)]) (by simp) (by simp [go_sem]) ?_;refine (mcaught_none _ _).mono ?_;rintro e u' w'' ⟨rfl,rfl,rfl⟩;refine ⟨.tuple #[.slice none 0 0,.int .i64 6],by simp [results,Try.results11,go_sem,e3],none,0,0,by rw [HP.out];rfl,by rw [HP.out];exact OwnB.nil _ _,HG3.out⟩
end Go.Proofs.Ytcgalmnllegnbaa

namespace Go.Proofs.Ytcgalmnllegnbaa
set_option linter.unusedVariables false
set_option linter.unusedSimpArgs false
set_option maxRecDepth 100000
open Go.RowKit
open Dot Evt
open Ms (Mem)
theorem msize_any (x : MgV) (w : World) (h : MgIn w x) : Calls Try.prog 13 #[.agg x.cs] w fun e w'=>e = .returned (.tuple #[.int .i64 ((Ms.putM x.m).1.length : Nat),.int .i64 ((Ms.putM x.m).2 : Nat)])∧Below w.heap.size w w':=by
  have HP:=Lib.hid fun (w' : World) (hb : Below w.heap.size w w')=>mput_any x w' (h.below hb)
  have SZ:=Lib.hid x.size;clear h
  generalize hC : x.cs = C at *
  clear hC;obtain ⟨bs,hbs⟩ : ∃ bs,bs = (Ms.putM x.m).1:=⟨_,rfl⟩;obtain ⟨er,her⟩ : ∃ er,er = (Ms.putM x.m).2:=⟨_,rfl⟩;rw [← hbs,← her] at HP ⊢;clear hbs her
  go_enter Try.func13,Try.ntmps13
  go_upto_region 1 with fail
  refine nameW ?_;intro W hW;obtain ⟨g,hg⟩ : ∃ g,g = w.heap.size:=⟨_,rfl⟩;rw [← hg]
  have kb : Blk W g 27 C:=by rw [hW,hg];exact Blk.new w _ _
  have gb : Below w.heap.size w W:=by rw [hW];exact (Below.refl _ _).alloc (Nat.le_refl _) _
  clear hW hg
  go_wp2_with ((with_reducible refine wpList_ld rowMg kb SZ.out ?_ ?_);rotate_left;(rfl))
  refine (HP.out W gb).mono ?_;rintro e w1 ⟨A,n,c,rfl,o,b1⟩;obtain rfl:=o.1;have gb:=gb.trans (b1.mono gb.size);clear o b1;go_wp2_with fail;go_ret2;exact ⟨rfl,gb⟩
theorem rgreat17_any (x : MgV) (w : World) (h : MgIn w x) : Calls Try.prog 9 #[.agg x.cs] w fun e w'=>(∃ G,e = .returned (.bool G)∧(G = false→x.n1≤1000∧x.n3≤1000∧evSum x.xs≤3000))∧Below w.heap.size w w':=by
  have HG:=Lib.hid fun (w' : World) (hb : Below w.heap.size w w')=>egreat_any x.A2 x.n2 x.c2 x.xs w'.heap.size w' (by have:=h.b2;omega) (h.below hb).ok.ev (Nat.le_refl _)
  have HAT:=Lib.hid (mgv_at x);have SZ:=Lib.hid x.size;clear h
  generalize hC : x.cs = C at *
  clear hC
  by_cases h1 : 1000 < x.n1
  · have hd : decide ((1000 : Int) < (x.n1 : Int)) = true:=decide_eq_true (by omega)
    go_enter Try.func9,Try.ntmps9
    go_upto_region 1 with fail
    refine nameW ?_;intro W hW;obtain ⟨g,hg⟩ : ∃ g,g = w.heap.size:=⟨_,rfl⟩;rw [← hg]
    have kb : Blk W g 27 C:=by rw [hW,hg];exact Blk.new w _ _
    have gb : Below w.heap.size w W:=by rw [hW];exact (Below.refl _ _).alloc (Nat.le_refl _) _
    have t13 : W.cell? ⟨g,13,none⟩ = some (.slice x.A1 x.n1 x.c1):=(kb.cell 13).trans HAT.out.2.2.2.2.2.1;clear hW hg kb;go_wp2_with fail;go_ret;exact ⟨⟨true,rfl,fun h=>by cases h⟩,gb⟩
  have hd : decide ((1000 : Int) < (x.n1 : Int)) = false:=decide_eq_false (by omega)
  by_cases h3 : 1000 < x.n3
  · have hd3 : decide ((1000 : Int) < (x.n3 : Int)) = true:=decide_eq_true (by omega)
    go_enter Try.func9,Try.ntmps9
    go_upto_region 1 with fail
    refine nameW ?_;intro W hW;obtain ⟨g,hg⟩ : ∃ g,g = w.heap.size:=⟨_,rfl⟩;rw [← hg]
    have kb : Blk W g 27 C:=by rw [hW,hg];exact Blk.new w _ _
    have gb : Below w.heap.size w W:=by rw [hW];exact (Below.refl _ _).alloc (Nat.le_refl _) _
    have t13 : W.cell? ⟨g,13,none⟩ = some (.slice x.A1 x.n1 x.c1):=(kb.cell 13).trans HAT.out.2.2.2.2.2.1;have t15 : W.cell? ⟨g,15,none⟩ = some (.slice x.A3 x.n3 x.c3):=(kb.cell 15).trans HAT.out.2.2.2.2.2.2.2;clear hW hg kb;go_wp2_with fail;go_ret;exact ⟨⟨true,rfl,fun h=>by cases h⟩,gb⟩
  have hd3 : decide ((1000 : Int) < (x.n3 : Int)) = false:=decide_eq_false (by omega)
  go_enter Try.func9,Try.ntmps9
  go_upto_region 1 with fail
  refine nameW ?_;intro W hW;obtain ⟨g,hg⟩ : ∃ g,g = w.heap.size:=⟨_,rfl⟩;rw [← hg]
  have kb : Blk W g 27 C:=by rw [hW,hg];exact Blk.new w _ _
  have gb : Below w.heap.size w W:=by rw [hW];exact (Below.refl _ _).alloc (Nat.le_refl _) _
  have t13 : W.cell? ⟨g,13,none⟩ = some (.slice x.A1 x.n1 x.c1):=(kb.cell 13).trans HAT.out.2.2.2.2.2.1;have t14 : W.cell? ⟨g,14,none⟩ = some (.slice x.A2 x.n2 x.c2):=(kb.cell 14).trans HAT.out.2.2.2.2.2.2.1;have t15 : W.cell? ⟨g,15,none⟩ = some (.slice x.A3 x.n3 x.c3):=(kb.cell 15).trans HAT.out.2.2.2.2.2.2.2;have H:=Lib.hid (HG.out W gb);clear hW hg kb HG;go_wp2_with fail;refine H.out.mono ?_;rintro e w1 ⟨⟨G,rfl,hG⟩,b1⟩;have gb:=gb.trans (b1.mono gb.size);have HGG:=Lib.hid hG;clear hG b1
  have hfin : ∀ b : Bool,b = G→∃ G',(Ending.returned (.bool b) : Ending) = .returned (.bool G')∧(G' = false→x.n1≤1000∧x.n3≤1000∧evSum x.xs≤3000):=fun b e=>⟨b,rfl,fun h=>⟨by omega,by omega,HGG.out (by rw [← e];exact h)⟩⟩
  have HF:=Lib.hid hfin;clear hfin
  cases G
  all_goals (
    go_wp2_with fail;go_ret
    exact ⟨HF.out _ rfl,gb⟩)
theorem own_emptyMb {w : World} {g base : Nat} (h : Blk w g 62 #[]) (hb : base≤g) : OwnMb 62 w base (some ⟨g,0,none⟩) 0 0 [] :=
  ⟨rfl,rfl,.inr ⟨g,0,#[],rfl,hb,h,Nat.le_refl _,Nat.zero_le _,rfl,rfl⟩⟩
theorem OwnEv.far {w : World} {base n c : Nat} {A : Option Addr} {xs : List EvV} (h : OwnEv w base A n c xs) {p : Addr} (hp : p.block < base) (u : Value) : OwnEv (w.setCell p u) base A n c xs :=
  ⟨h.1,ownsRow_keep h.2 fun k hk=>Below.heap_setCell w p u k (fun e=>by
    have:=(h.lt k (by cases A with
      | none=>cases hk
      | some a=>exact hk)).1
    omega)⟩
theorem EvOwn.far {w : World} {base : Nat} {y : EvV} (h : EvOwn w base y) {p : Addr} (hp : p.block < base) (u : Value) : EvOwn (w.setCell p u) base y :=
  ⟨h.1,h.2.1.setFar (fun e=>by have:=(h.2.1.lt _ e).1;omega) u,h.2.2⟩
theorem OwnEv.kept {w w' : World} {base n c q : Nat} {A : Option Addr} {xs : List EvV} (h : OwnEv w base A n c xs) (hg : w.grownBy w' (some q)) (hq : q < base) : OwnEv w' base A n c xs :=
  ⟨h.1,ownsRow_keep h.2 fun k hk=>hg.block k (ownsRow_lt h.2 hk) (fun e=>by
    injection e with e
    have:=(h.lt k (by cases A with
      | none=>cases hk
      | some a=>exact hk)).1
    omega)⟩
theorem EvOwn.kept {w w' : World} {base q : Nat} {y : EvV} (h : EvOwn w base y) (hg : w.grownBy w' (some q)) (hq : q < base) : EvOwn w' base y :=
  ⟨h.1,h.2.1.grown hg (.inr (fun e=>by have:=(h.2.1.lt _ e).1;omega)),h.2.2⟩
abbrev ZM : Array Value:=#[.int .i64 0,.int .i64 0,.int .i64 0,.int .i64 0,.int .i64 0,.int .i64 0,.int .i64 0,.int .i64 0,.int .i64 0,.int .i64 0,.int .i64 0,.int .i64 0,.int .i64 0,.slice none 0 0,.slice none 0 0,.slice none 0 0]
end Go.Proofs.Ytcgalmnllegnbaa

namespace Go.Proofs.Ytcgalmnllegnbaa
set_option linter.unusedVariables false
set_option linter.unusedSimpArgs false
set_option maxRecDepth 100000
open Go.RowKit
open Dot Evt
structure MgOwn (w : World) (base : Nat) (x : MgV) : Prop where
  u : x.m.u.length = 8
  wu : Wf x.m.u
  more : OwnD w base x.A1 x.n1 x.c1 x.m.more
  ev : OwnEv w base x.A2 x.n2 x.c2 x.xs
  eo : ∀ y ∈ x.xs,EvOwn w base y
  es : x.m.ev = x.xs.map (·.e)
  mem : OwnMb 62 w base x.A3 x.n3 x.c3 x.m.mem
section
variable {w w' : World} {base : Nat} {x : MgV}
theorem MgOwn.below (h : MgOwn w base x) (hb : Below w.heap.size w w') : MgOwn w' base x :=
  ⟨h.u,h.wu,h.more.below hb (Nat.le_refl _),h.ev.below hb (Nat.le_refl _),fun y hy=>⟨(h.eo y hy).1,(h.eo y hy).2.1.below hb (Nat.le_refl _),(h.eo y hy).2.2⟩,h.es,h.mem.below hb (Nat.le_refl _)⟩
theorem MgOwn.mono {base' : Nat} (h : MgOwn w base x) (hb : base'≤base) : MgOwn w base' x :=
  ⟨h.u,h.wu,h.more.mono hb,h.ev.mono hb,fun y hy=>⟨(h.eo y hy).1,(h.eo y hy).2.1.mono hb,(h.eo y hy).2.2⟩,h.es,h.mem.mono hb⟩
theorem MgOwn.far (h : MgOwn w base x) {p : Addr} (hp : p.block < base) (u : Value) : MgOwn (w.setCell p u) base x :=
  ⟨h.u,h.wu,h.more.setFar (fun e=>by have:=(h.more.lt _ e).1;omega) u,h.ev.far hp u,fun y hy=>(h.eo y hy).far hp u,h.es,h.mem.setFar (fun e=>by have:=(h.mem.lt _ e).1;omega) u⟩
theorem MgOwn.kept {q : Nat} (h : MgOwn w base x) (hg : w.grownBy w' (some q)) (hq : q < base) : MgOwn w' base x :=
  ⟨h.u,h.wu,h.more.grown hg (.inr (fun e=>by have:=(h.more.lt _ e).1;omega)),h.ev.kept hg hq,fun y hy=>(h.eo y hy).kept hg hq,h.es,h.mem.grown hg (.inr (fun e=>by have:=(h.mem.lt _ e).1;omega))⟩
theorem MgOwn.ok (h : MgOwn w base x) : MgOk w w.heap.size x:=⟨h.u,h.more.rd,h.ev.row (fun y hy=>(h.eo y hy).ok),h.es,h.mem.rd⟩
theorem MgOwn.mgin (h : MgOwn w base x) (h2 : x.n2≤10000000000000) (h3 : x.n3≤maxLen) : MgIn w x:=⟨h.ok,h.wu,h2,h3⟩
end
theorem right_lens {x : MgV} {w : World} {base : Nat} (h : MgOwn w base x) (hR : Ms.rightM x.m = true) : x.n1≤1000∧x.n2≤1000∧x.n3≤8:=by
  have ha:=((Ms.right_iff x.m).1 hR).2.2.2;have hk:=(Ms.right_head hR).1;have h8:=Ms.members_len (Ms.right_head hR).2.2.2.1;refine ⟨?_,?_,by rw [h.mem.1];exact h8⟩
  · rw [h.more.1]
    unfold Ms.askSeen at ha
    by_cases h4 : x.m.kind = 4
    · rw [if_pos h4] at ha
      have:=((right_iff _ _).1 ha.1).2.1
      omega
    · rw [if_neg h4] at ha
      rw [(Ms.eight_zero ha.1).2]
      simp
  · rw [h.ev.1,← List.length_map (f:=(·.e)),← h.es]
    unfold Ms.askEv at ha
    by_cases h5 : x.m.kind = 5
    · rw [if_pos h5,Bool.and_eq_true] at ha
      have:=of_decide_eq_true ha.2.2
      omega
    · rw [if_neg h5] at ha
      rw [of_decide_eq_true ha.2]
      simp
end Go.Proofs.Ytcgalmnllegnbaa

namespace Go.Proofs.Ytcgalmnllegnbaa
set_option linter.unusedVariables false
set_option linter.unusedSimpArgs false
set_option maxRecDepth 100000
open Go.RowKit
open Dot Evt
open Ms (Mem)
abbrev MZ : Array Value:=#[.int .i64 0,.int .i64 0,.int .i64 0,.int .i64 0,.int .i64 0,.int .i64 0,.int .i64 0,.int .i64 0,.int .i64 0,.int .i64 0,.int .i64 0,.int .i64 0,.int .i64 0,.slice none 0 0,.slice none 0 0,.slice none 0 0]
theorem mz_size : MZ.size = 16:=rfl
section
variable {w0 w w' : World} {B D g : Nat}
end
end Go.Proofs.Ytcgalmnllegnbaa

namespace Go.Proofs.Ytcgalmnllegnbaa
set_option linter.unusedVariables false
set_option linter.unusedSimpArgs false
set_option maxRecDepth 100000
open Go.RowKit
open Dot Evt
set_option maxRecDepth 100000 in
set_option maxHeartbeats 2000000 in
theorem rsame07_eq (x y : EvV) (w : World) (hx : EvOk w w.heap.size x) (hy : EvOk w w.heap.size y) (he : x.e = y.e) (hm : x.m≤1000000) :
    Calls Try.prog 67 #[.agg x.cs,.agg y.cs] w fun e w'=>e = .returned (.bool true)∧Below w.heap.size w w':=by
  obtain ⟨ex,A1,m1,c1⟩:=x;obtain ⟨ey,A2,m2,c2⟩:=y
  simp only at he
  subst he
  have hd:=fun (w' : World) (h : Below w.heap.size w w')=>dots_any A1 A2 m1 c1 m2 c2 w.heap.size w.heap.size ex.l ex.l w' (hx.2.1.below h) (hy.2.1.below h) hm
  obtain ⟨⟨n,q⟩,t,k,wk,v,p,l⟩:=ex
  simp only [decide_true] at hd
  have HD:=Lib.hid hd;clear hd hx hy hm
  unfold EvV.cs ec
  simp only
  generalize p.getD 0 0 = p0,p.getD 1 0 = p1,p.getD 2 0 = p2,p.getD 3 0 = p3,p.getD 4 0 = p4,p.getD 5 0 = p5,p.getD 6 0 = p6
  go_enter Try.func67,Try.ntmps67
  go_upto_region 1 with fail
  refine nameW ?_;intro wv hwv;obtain ⟨b,hb⟩ : ∃ b,b = w.heap.size:=⟨_,rfl⟩;rw [← hb]
  have kb : Blk wv b 50 #[.int .i64 n,.int .i64 q,.int .i64 t,.int .i64 k,.int .i64 wk,.int .i64 v,.int .i64 p0,.int .i64 p1,.int .i64 p2,.int .i64 p3,.int .i64 p4,.int .i64 p5,.int .i64 p6,.slice A1 m1 c1]:=by rw [hwv,hb];exact (Blk.new w _ _).alloc _
  have kz : Blk wv (b + 1) 50 #[.int .i64 n,.int .i64 q,.int .i64 t,.int .i64 k,.int .i64 wk,.int .i64 v,.int .i64 p0,.int .i64 p1,.int .i64 p2,.int .i64 p3,.int .i64 p4,.int .i64 p5,.int .i64 p6,.slice A2 m2 c2]:=by
    have h:=Blk.new (w.alloc (.cells #[.int .i64 n,.int .i64 q,.int .i64 t,.int .i64 k,.int .i64 wk,.int .i64 v,.int .i64 p0,.int .i64 p1,.int .i64 p2,.int .i64 p3,.int .i64 p4,.int .i64 p5,.int .i64 p6,.slice A1 m1 c1] 50)) 50 #[.int .i64 n,.int .i64 q,.int .i64 t,.int .i64 k,.int .i64 wk,.int .i64 v,.int .i64 p0,.int .i64 p1,.int .i64 p2,.int .i64 p3,.int .i64 p4,.int .i64 p5,.int .i64 p6,.slice A2 m2 c2];rw [show (w.alloc (.cells #[.int .i64 n,.int .i64 q,.int .i64 t,.int .i64 k,.int .i64 wk,.int .i64 v,.int .i64 p0,.int .i64 p1,.int .i64 p2,.int .i64 p3,.int .i64 p4,.int .i64 p5,.int .i64 p6,.slice A1 m1 c1] 50)).heap.size = w.heap.size + 1 by simp] at h;rw [hwv,hb];exact h
  have gb : Below w.heap.size w wv:=by rw [hwv];exact ((Below.refl _ _).alloc (Nat.le_refl _) _).alloc (by simp) _
  have hD:=HD.out wv gb;have HD2:=Lib.hid hD;have HG:=Lib.hid gb;clear hwv hb gb hD HD;obtain ⟨c0,c1,c2,c3,c4,c5,c6,c7,c8,c9,c10,c11,c12,c13⟩:=ecells kb;obtain ⟨d0,d1,d2,d3,d4,d5,d6,d7,d8,d9,d10,d11,d12,d13⟩:=ecells kz;go_wp2_with fail;refine HD2.out.mono ?_;rintro e w1 ⟨rfl,mm,rfl⟩;go_wp2_with fail;go_ret;exact ⟨rfl,below_drewN HG.out mm⟩
section
variable {P : Program} {T : TypeId} {n : Nat} {ad : Addr} {cs : Array Value}
theorem quiet_lda {ops : Array Oper} {rest : List Oper} {a : Act} {Q : Act→Prop} {C : World→Prop} {d : Option Tmp} {ty : TypeId} {pos : String} {aft : Array Edge} {gd : Option (Nat × Bool)} {x : Operand} (hR : RowT P T n) (hS : ∀ w,C w→∀ (j : Nat) v,cs[j]? = some v→w.cell? (ad.add j) = some v) (hn : cs.size = n)
    (h : wpQuiet P ops C Q rest (a.put d (.agg cs))) (hx : a.eval x = .pointer (some ad)) (hw : Region.wanted ⟨d,.load T x,ty,pos,aft,gd⟩ (yielded ops a.tmps) = true) : wpQuiet P ops C Q (⟨d,.load T x,ty,pos,aft,gd⟩ :: rest) a:=by
  unfold wpQuiet
  rw [if_pos hw];obtain ⟨e,hu,hd,hi⟩:=hR;rw [← hn,← Array.length_toList] at hi;refine ⟨.agg cs,fun w hw=>?_,h⟩
  have hcl : ∀ (j : Nat) v,cs.toList[j]? = some v→w.cell? (ad.add j) = some v:=fun j v hj=>hS w hw j v (by simpa using hj)
  unfold Oper.quietAt execOp
  simp only [hx,Instr.loadAt,Instr.sureAddr,Sem.run_bind,Sem.run_pure,Result.andThen_ok,run_loadVar_at w ad T cs.toList e hcl hu hd hi,Array.toArray_toList]
  exact ⟨rfl,rfl⟩
end
set_option maxRecDepth 100000 in
set_option maxHeartbeats 2000000 in
theorem rall07_eq (A1 A2 : Option Addr) (n c1 c2 : Nat) (xs ys : List EvV) (w : World) (hx : RowEv w w.heap.size A1 n xs) (hy : RowEv w w.heap.size A2 n ys) (he : xs.map (·.e) = ys.map (·.e)) (hm : ∀ x ∈ xs,x.m≤1000000) (hn : n≤10000000000000) :
    Calls Try.prog 28 #[.slice A1 n c1,.slice A2 n c2] w fun e w'=>e = .returned (.bool true)∧Below w.heap.size w w':=by
  have HN:=Lib.hid hx.1;have HN2:=Lib.hid hy.1
  have HX:=Lib.hid fun (w' : World) (h : Below w.heap.size w w')=>(hx.below h)
  have HY:=Lib.hid fun (w' : World) (h : Below w.heap.size w w')=>(hy.below h)
  have HE:=Lib.hid he;have HM:=Lib.hid hm;clear hx hy he hm
  go_enter Try.func28,Try.ntmps28
  go_wp2_with fail
  go_loopw [13] (fun i wr=>∃ k : Nat,k≤n∧i = .int .i64 k∧Below w.heap.size w wr) (fun i _=>n - (intOf i).toNat)
  case atStart=>exact ⟨0,by omega,rfl,Below.refl _ _⟩
  case round =>
    obtain ⟨k,hk,rfl,gb⟩:=hrel
    by_cases hlt : k < n
    · have hkl : k < xs.length:=by rw [← HN.out];exact hlt
      have hky : k < ys.length:=by rw [← HN2.out];exact hlt
      have hX:=(HX.out wr gb).2 k _ (List.getElem?_eq_getElem hkl);have hY:=(HY.out wr gb).2 k _ (List.getElem?_eq_getElem hky);have hmm:=HM.out _ (List.getElem_mem hkl)
      have hee : xs[k].e = ys[k].e:=by
        have h:=congrArg (fun l=>l[k]?) HE.out
        simp only [List.getElem?_map,List.getElem?_eq_getElem hkl,List.getElem?_eq_getElem hky,Option.map_some] at h
        injection h
      generalize xs[k] = x at *
      generalize ys[k] = y at *
      obtain ⟨okx,ad1,hA1,hb1,hc1⟩:=hX;obtain ⟨oky,ad2,hA2,hb2,hc2⟩:=hY;subst hA1 hA2
      have hcl1:=fun (w' : World) (h : Below wr.heap.size wr w')=>fun (j : Nat) (v : Value) (hv : x.cs[j]? = some v)=>((h.cell (p:=(ad1.add (k * 14)).add j) (by rw [block_add,block_add];have:=gb.size;omega)).trans (hc1 j v hv))
      have hcl2:=fun (w' : World) (h : Below wr.heap.size wr w')=>fun (j : Nat) (v : Value) (hv : y.cs[j]? = some v)=>((h.cell (p:=(ad2.add (k * 14)).add j) (by rw [block_add,block_add];have:=gb.size;omega)).trans (hc2 j v hv))
      have hsm:=fun (w' : World) (h : Below wr.heap.size wr w')=>rsame07_eq x y w' ((okx.below (h.mono gb.size)).more (by have:=gb.size;have:=h.size;omega)) ((oky.below (h.mono gb.size)).more (by have:=gb.size;have:=h.size;omega)) hee hmm
      obtain ⟨cx,hcx⟩ : ∃ cx,cx = x.cs:=⟨_,rfl⟩;obtain ⟨cy,hcy⟩ : ∃ cy,cy = y.cs:=⟨_,rfl⟩;have SX:=Lib.hid (show cx.size = 14 by rw [hcx];rfl);have SY:=Lib.hid (show cy.size = 14 by rw [hcy];rfl);rw [← hcx,← hcy] at hsm;rw [← hcx] at hcl1;rw [← hcy] at hcl2;have HC1:=Lib.hid hcl1;have HC2:=Lib.hid hcl2;have HSM:=Lib.hid hsm
      have hk0 : (0 : Int)≤(k : Int):=by omega
      have hkm : (k : Int) < (n : Int):=by omega
      clear hcl1 hcl2 hsm hcx hcy hee hmm hc1 hc2 okx oky
      go_upto_region 6 with fail
      refine wp_region_below (by kernel_rfl) (by kernel_rfl) ?_;intro T iT F hF hT;have HF:=Lib.hid hF;have HT:=Lib.hid hT;clear hF hT
      iterate 3 (go_big_quiet_step (fail))
      (with_reducible refine quiet_lda rowE (fun w' hw'=>by obtain ⟨qf,rfl⟩:=hw';exact HC1.out _ (HF.out qf)) SX.out ?_ ?_ ?_);rotate_left;(rfl);(rfl);simp only [Act.put,List.setIfInBounds_toArray,List.set_cons_succ,List.set_cons_zero,eq_self,decide_true,Bool.not_true,Bool.not_false,beq_self_eq_true]
      iterate 3 (go_big_quiet_step (fail))
      (with_reducible refine quiet_lda rowE (fun w' hw'=>by obtain ⟨qf,rfl⟩:=hw';exact HC2.out _ (HF.out qf)) SY.out ?_ ?_ ?_);rotate_left;(rfl);(rfl);simp only [Act.put,List.setIfInBounds_toArray,List.set_cons_succ,List.set_cons_zero,eq_self,decide_true,Bool.not_true,Bool.not_false,beq_self_eq_true]
      go_big_quiet_step ((go_at_call 67;exact calls_below HF.out HT.out (HSM.out _ (HF.out _))))
      repeat (go_big_quiet_step (fail))
      refine wpQuiet_nil ?_;intro w' hw';obtain ⟨qf,rfl⟩:=hw';have bF:=HF.out qf;have gbF:=gb.trans (bF.mono gb.size);clear HC1 HC2 HSM HF HT bF;go_wp2_with fail
      go_roundw
      case rel=>exact ⟨k + 1,by omega,by go_num,gbF⟩
      case measure=>simp [intOf];omega
    · have hkd : decide ((k : Int) < (n : Int)) = false:=decide_eq_false (by omega)
      go_wp2_with fail;go_ret;exact ⟨rfl,gb⟩
end Go.Proofs.Ytcgalmnllegnbaa

namespace Go.Proofs.Ytcgalmnllegnbaa
set_option linter.unusedVariables false
set_option linter.unusedSimpArgs false
set_option maxRecDepth 100000
open Go.RowKit
open Dot Evt
open Ms (Mem)
namespace Ms
end Ms
theorem evright_l {x : Ev} (h : rightE x = true) : x.l.length≤96:=by
  unfold rightE at h
  simp only [Bool.and_eq_true,decide_eq_true_eq] at h
  exact h.1.1.2
theorem own_in {w : World} {base : Nat} {x : MgV} (h : MgOwn w base x) (hR : Ms.rightM x.m = true) : MgIn w x:=by
  obtain ⟨h1,h2,h3⟩:=right_lens h hR;exact h.mgin (by omega) (by unfold maxLen;omega)
theorem in_p {w : World} {x : MgV} (h : MgIn w x) : ∀ e ∈ x.m.ev,e.p.length = 7:=fun e he=>by
  rw [h.ok.es] at he;obtain ⟨y,hy,rfl⟩:=List.mem_map.1 he;obtain ⟨i,hi,rfl⟩:=List.getElem_of_mem hy;exact (h.ok.ev.2 i _ (List.getElem?_eq_getElem hi)).1.1
end Go.Proofs.Ytcgalmnllegnbaa

namespace Go.Proofs.Ytcgalmnllegnbaa
set_option linter.unusedVariables false
set_option linter.unusedSimpArgs false
set_option maxRecDepth 100000
open Go.RowKit
open Dot Evt
open Ms (Mem)
theorem wpList_shr1 {P : Program} {ops : Array Oper} {rest : List Oper} {d : Option Tmp} {ty t z : TypeId} {pos : String} {aft : Array Edge} {x : Operand} {s r : Int} {a : Act} {w : World} {Q : Exit→Act→World→Prop} (hs : s / 2 = r)
    (h : wpList P ops Q rest (a.put d (.int .u64 r)) w) (hx : a.eval x = .int .u64 s) : wpList P ops Q (⟨d,.binOp .shr t x (.const (.int .u64 1)) z,ty,pos,aft,none⟩ :: rest) a w:=by
  refine wpList_plain rfl fun K hK=>?_
  unfold Oper.wp execOp
  have hy : a.eval (.const (.int .u64 1)) = .int .u64 1:=rfl
  have h2 : s / 2 ^ min (1 : Int).toNat IntKind.u64.bits = r:=by
    show s / 2 ^ 1 = r
    simpa using hs
  simp only [hx,hy,Sem.run_bind,eqGuard_shr,binOp_shr,Sem.run_pure,Result.andThen_ok,shift_shr_any _ _ _ _ (by decide : (0 : Int)≤1),h2]
  exact hK _ _ h
theorem run_cvt (h : Nat) (hh : h≤1000000000000) (w : World) : (convert 116 3 (.int .u64 (h : Nat))).run Try.prog w = .ok (.int .i64 (h : Nat)) w:=by
  have e : IntKind.i64.wrap (h : Int) = (h : Int):=IntWalk.i64_in _ (by omega)
  simp [go_sem,e,Try.underlying3,Try.underlying116]
theorem wpList_cvt {ops : Array Oper} {rest : List Oper} {d : Option Tmp} {ty : TypeId} {pos : String} {aft : Array Edge} {x : Operand} {h : Nat} {a : Act} {w : World} {Q : Exit→Act→World→Prop} (hh : h≤1000000000000)
    (hk : wpList Try.prog ops Q rest (a.put d (.int .i64 (h : Nat))) w) (hx : a.eval x = .int .u64 (h : Nat)) : wpList Try.prog ops Q (⟨d,.convert 116 3 x,ty,pos,aft,none⟩ :: rest) a w:=by
  refine wpList_plain rfl fun K hK=>?_
  unfold Oper.wp execOp
  simp only [hx,Sem.run_bind,run_cvt h hh,Sem.run_pure,Result.andThen_ok]
  exact hK _ _ hk
set_option maxHeartbeats 1000000 in
theorem search_any (fid : FuncId) (cap : Array Value) (n : Nat) (P : Nat→Bool) (w0 : World) (hn : n≤1000000000000)
    (hk : ∀ args w,(callFunc fid args).run Try.prog w = .ok (.enter fid args) w)
    (hmono : ∀ a b,a≤b→b < n→P a = true→P b = true)
    (hclo : ∀ i : Nat,i < n→∀ w,Below w0.heap.size w0 w→Calls Try.prog fid (#[.int .i64 (i : Nat)] ++ cap) w fun e w'=>e = .returned (.bool (P i))∧Below w.heap.size w w') :
    Calls Try.prog 99 #[.int .i64 (n : Nat),.func (.func fid) #[] cap] w0 fun e w'=>∃ r : Nat,e = .returned (.int .i64 (r : Nat))∧r≤n∧(∀ k,k < r→P k = false)∧(∀ k,r≤k→k < n→P k = true)∧Below w0.heap.size w0 w':=by
  have HM:=Lib.hid hmono;have HC:=Lib.hid hclo;have HN:=Lib.hid hn;clear hmono hclo hn
  go_enter Try.func99,Try.ntmps99
  go_wp2_with fail
  go_loopw [5,6] (fun i j wr=>∃ a b : Nat,i = .int .i64 (a : Nat)∧j = .int .i64 (b : Nat)∧a≤b∧b≤n∧(∀ k,k < a→P k = false)∧(∀ k,b≤k→k < n→P k = true)∧Below w0.heap.size w0 wr) (fun i j _=>(intOf j).toNat - (intOf i).toNat)
  case atStart=>exact ⟨0,n,rfl,rfl,Nat.zero_le _,Nat.le_refl _,fun k h=>by omega,fun k h1 h2=>by omega,Below.refl _ _⟩
  case round =>
  obtain ⟨a,b,rfl,rfl,hab,hbn,ha,hb,gb⟩:=hrel;have HA:=Lib.hid ha;have HB:=Lib.hid hb;clear ha hb
  by_cases hlt : a < b
  · have hlt' : (a : Int) < (b : Int):=by omega
    have hn12:=HN.out;obtain ⟨h,hh⟩ : ∃ h,h = (a + b) / 2:=⟨_,rfl⟩
    have h1 : a≤h:=by omega
    have h2 : h < b:=by omega
    have hsum : ((a : Int) + (b : Int)) / 2 = (h : Int):=by omega
    have HSUM:=Lib.hid hsum;have hc:=HC.out h (by omega) wr gb;obtain ⟨R,hR⟩ : ∃ R,R = P h:=⟨_,rfl⟩;rw [← hR] at hc;have HCL:=Lib.hid hc;have HR:=Lib.hid hR;clear hc hR hsum
    have hh12 : h≤1000000000000:=by omega
    clear hh
    go_upto_region 4 with first
      | ((with_reducible refine wpList_shr1 HSUM.out ?_ ?_);rotate_left;(rfl))
      | ((with_reducible refine wpList_cvt hh12 ?_ ?_);rotate_left;(rfl))
    go_wp2_with fail;refine HCL.out.mono ?_;rintro e w1 ⟨rfl,b1⟩;have gb:=gb.trans (b1.mono gb.size);clear b1 HCL HSUM
    cases R
    case false =>
      go_wp2_with fail
      go_roundw
      case rel=>exact ⟨h + 1,b,by go_num,rfl,by omega,hbn,fun k hk2=>by
        by_cases hkh : P k = true
        · have:=HM.out k h (by omega) (by omega) hkh
          rw [← HR.out] at this
          cases this
        · simpa using hkh,HB.out,gb⟩
      case measure=>simp [intOf];omega
    case true =>
      go_wp2_with fail
      go_roundw
      case rel=>exact ⟨a,h,rfl,rfl,h1,by omega,HA.out,fun k hk1 hk2=>HM.out h k hk1 hk2 HR.out.symm,gb⟩
      case measure=>simp [intOf];omega
  · obtain rfl : a = b:=by omega
    have hlt' : ¬ (a : Int) < (a : Int):=by omega
    go_wp2_with fail;go_ret;exact ⟨a,rfl,hbn,HA.out,HB.out,gb⟩
theorem cloneD_any (A : Option Addr) (n c : Nat) (l : List Dt) (B : Nat) (w : World) (hb : RdD w B A n l) (hB : B≤w.heap.size) (hl : n≤1000000000000) :
    Calls Try.prog 96 #[.slice A n c] w fun e w'=>∃ A' c',e = .returned (.slice A' n c')∧OwnD w' w.heap.size A' n c' l∧Below w.heap.size w w':=by
  have q:=fun (w : World) (a : Option Addr) (n c n' c' : Nat)=>Lib.run_eql_slice_nil (P:=Try.prog) w 23 _ a n c n' c' Try.underlying23
  rcases A with _ | a
  · have h0 : l = []:=by
      rcases l with _ | ⟨x,r⟩
      · rfl
      · obtain ⟨_,h,_⟩:=hb.2 0 _ rfl
        cases h
    subst h0;obtain rfl:=hb.1
    go_enter Try.func96,Try.ntmps96
    go_wp2_with fail;go_ret;exact ⟨_,_,rfl,OwnD.nil _ _,Below.refl _ _⟩
  · obtain ⟨m0,hm0⟩ : ∃ m0,m0 = n:=⟨_,rfl⟩
    have hm:=hb.1;clear hm0
    go_enter Try.func96,Try.ntmps96
    go_wp2_with (at_builtin;refine wpList_appD rfl (.tmp 5) (.tmp 6) rfl rfl (own_emptyD (base:=w.heap.size) (Blk.new w 46 #[]) (Nat.le_refl _)) rfl ((hb.below ((Below.refl _ _).alloc hB _)).rd) hm (by omega) (by simp) ?_)
    intro A' c' w2 ho1 _ _ hbl1;subst hm;go_wp2_with fail;go_ret;exact ⟨_,_,rfl,ho1,((Below.refl _ _).alloc (Nat.le_refl _) _).trans hbl1⟩
theorem cloneMb_any (A : Option Addr) (n c : Nat) (l : List Mem) (B : Nat) (w : World) (hb : RdMb w B A n l) (hB : B≤w.heap.size) (hl : n≤1000000000000) :
    Calls Try.prog 97 #[.slice A n c] w fun e w'=>∃ A' c',e = .returned (.slice A' n c')∧OwnMb 62 w' w.heap.size A' n c' l∧Below w.heap.size w w':=by
  have q:=fun (w : World) (a : Option Addr) (n c n' c' : Nat)=>Lib.run_eql_slice_nil (P:=Try.prog) w 25 _ a n c n' c' Try.underlying25
  rcases A with _ | a
  · have h0 : l = []:=by
      rcases l with _ | ⟨x,r⟩
      · rfl
      · obtain ⟨_,h,_⟩:=hb.2 0 _ rfl
        cases h
    subst h0;obtain rfl:=hb.1
    go_enter Try.func97,Try.ntmps97
    go_wp2_with fail;go_ret;exact ⟨_,_,rfl,OwnMb.nil _ _ _,Below.refl _ _⟩
  · obtain ⟨m0,hm0⟩ : ∃ m0,m0 = n:=⟨_,rfl⟩
    have hm:=hb.1;clear hm0
    go_enter Try.func97,Try.ntmps97
    go_wp2_with (at_builtin;refine wpList_appMb rfl (.tmp 5) (.tmp 6) rfl rfl (own_emptyMb (base:=w.heap.size) (Blk.new w 62 #[]) (Nat.le_refl _)) rfl ((hb.below ((Below.refl _ _).alloc hB _)).rd) hm (by omega) (by simp) ?_)
    intro A' c' w2 ho1 _ _ hbl1;subst hm;go_wp2_with fail;go_ret;exact ⟨_,_,rfl,ho1,((Below.refl _ _).alloc (Nat.le_refl _) _).trans hbl1⟩
end Go.Proofs.Ytcgalmnllegnbaa

namespace Go.Proofs.Ytcgalmnllegnbaa
set_option linter.unusedVariables false
set_option linter.unusedSimpArgs false
open Go.ChangeShapes Go.WideShapes Go.ChangeAt Go.RowKit
theorem own : ownKnob Try.prog.godebug = none:=by kernel_rfl
theorem laidOut : laidOutB Try.prog = true:=by kernel_rfl
set_option maxRecDepth 100000
end Go.Proofs.Ytcgalmnllegnbaa

namespace Go.Proofs.Ytcgalmnllegnbaa
set_option linter.unusedVariables false
set_option linter.unusedSimpArgs false
set_option maxRecDepth 100000
open Go.ChangeShapes Go.WideShapes Go.ChangeAt Go.RowKit Go.Deep
section
variable {H : Type} {enc : TypeId × Value→H} {W : World} {base : Nat} {sp : Nat→Bool} {held : Bool} {fuel : Nat} {cs : List Value} {x : DataW H × List MemPlace}
theorem rd_int (hf : DataW.trod enc Try.prog W base sp held fuel 3 cs = some x) : ∃ z : Int,cs = [.int .i64 z]∧-9223372036854775808≤z∧z≤9223372036854775807:=by
  obtain ⟨z,h1,_,hw⟩:=DataW.trod_int Try.underlying3 hf;refine ⟨z,h1,?_⟩;have hmin : IntKind.i64.min = -9223372036854775808:=rfl;have hmax : IntKind.i64.max = 9223372036854775807:=rfl
  simp only [Lit.wf,Bool.and_eq_true,decide_eq_true_eq] at hw
  omega
theorem rd_field {t : TypeId} {fs : Array Field} (ht : (Try.prog).underlying t = some (.struct fs)) (hf : DataW.trod enc Try.prog W base sp held fuel t cs = some x) (j T o m : Nat)
    (hj : (fs[j]?).map (fun f=>(f.type,f.offset)) = some (T,o)) (hm : (Try.prog).cellsOf T = m) : ∃ n y,DataW.trod enc Try.prog W base sp held n T ((cs.drop o).take m) = some y:=by
  obtain ⟨xs,n,_,_,_,hxl,hg⟩:=DataW.trod_struct ht hf;obtain ⟨f,hf1,hf2⟩:=Option.map_eq_some_iff.1 hj
  injection hf2 with h1 h2
  have hjl : j < xs.length:=by
    rw [hxl];exact (Array.getElem?_eq_some_iff.1 hf1).1
  have h:=hg j f hf1;rw [h1,h2,hm,List.getElem?_eq_getElem hjl] at h;exact ⟨n,_,h⟩
theorem rd_len {t : TypeId} {fs : Array Field} {m : Nat} (ht : (Try.prog).underlying t = some (.struct fs)) (hm : (Try.prog).cellsOf t = m) (hf : DataW.trod enc Try.prog W base sp held fuel t cs = some x) : cs.length = m:=by
  obtain ⟨xs,n,_,_,hl,_⟩:=DataW.trod_struct ht hf;rw [hl,hm]
theorem rd_slice {t e : TypeId} {m : Nat} (ht : (Try.prog).underlying t = some (.slice e)) (hm : (Try.prog).cellsOf e = m) (hf : DataW.trod enc Try.prog W base sp held fuel t cs = some x) :
    ∃ (a : Option Addr) (n cap : Nat),cs = [.slice a n cap]∧n≤cap∧cap≤maxLen∧∀ i,i < n→∃ (ad : Addr) (cs' : List Value) (fuel' : Nat) (x' : DataW H × List MemPlace),a = some ad∧cs'.length = m∧(∀ j,j < m→W.cell? ((ad.add (i * m)).add j) = cs'[j]?)∧DataW.trod enc Try.prog W base sp held fuel' e cs' = some x':=by
  rcases open_slice ht hf with ⟨h0,_⟩ | ⟨a,len,cap,k,n,D,Pl,hcs,hb,hl,hc,hk,hx,hi⟩
  · exact ⟨none,0,0,h0,Nat.le_refl _,Nat.zero_le _,fun i h=>absurd h (Nat.not_lt_zero _)⟩
  · refine ⟨some a,len,cap,hcs,hl,hc,fun i h=>?_⟩
    have hik : i < k:=by rw [hk];split <;> omega
    obtain ⟨cs',hc',ht'⟩:=hi i hik;rw [hm] at hc';obtain ⟨_,hcl,hat⟩:=World.cells?_some hc';exact ⟨a,cs',n,_,rfl,hcl,fun j hj=>hat j hj,ht'⟩
end
end Go.Proofs.Ytcgalmnllegnbaa

namespace Go.Proofs.Ytcgalmnllegnbaa
set_option linter.unusedVariables false
set_option linter.unusedSimpArgs false
set_option maxRecDepth 100000
open Go.ChangeShapes Go.WideShapes Go.ChangeAt Go.RowKit Go.Deep
def Sz {H : Type} (t : TypeId) (d : DataW H) : Prop:=∀ n ∈ d.weights Try.prog t,n≤reachBytes
theorem sz_arg {H : Type} {ts : List TypeId} {ds : List (DataW H)} (h : (DataW.weightsEach Try.prog ts ds).all (·≤reachBytes) = true) {j : Nat} {t : TypeId} {d : DataW H} (ht : ts[j]? = some t) (hd : ds[j]? = some d) : Sz t d:=fun n hn=>by
  have:=List.all_eq_true.1 h n (DataW.weights_mem_each ht hd n hn)
  simpa using this
theorem weightsAll_mem {H : Type} {P : Program} {e : TypeId} {l : List (DataW H)} {d : DataW H} (hd : d ∈ l) : ∀ n ∈ d.weights P e,n ∈ DataW.weightsAll P e l:=by
  induction l with
  | nil=>cases hd
  | cons a r ih =>
    intro n hn
    simp only [DataW.weightsAll,List.mem_append]
    rcases List.mem_cons.1 hd with h | h
    · subst h;exact .inl hn
    · exact .inr (ih h n hn)
section
variable {H : Type} {enc : TypeId × Value→H} {W : World} {base : Nat} {sp : Nat→Bool} {held : Bool} {fuel : Nat} {cs : List Value} {x : DataW H × List MemPlace}
theorem rdz_field {t : TypeId} {fs : Array Field} (ht : (Try.prog).underlying t = some (.struct fs)) (hf : DataW.trod enc Try.prog W base sp held fuel t cs = some x) (hs : Sz t x.1) (j T o m : Nat)
    (hj : (fs[j]?).map (fun f=>(f.type,f.offset)) = some (T,o)) (hm : (Try.prog).cellsOf T = m) : ∃ n y,DataW.trod enc Try.prog W base sp held n T ((cs.drop o).take m) = some y∧Sz T y.1:=by
  obtain ⟨xs,n,_,hx,_,hxl,hg⟩:=DataW.trod_struct ht hf;obtain ⟨f,hf1,hf2⟩:=Option.map_eq_some_iff.1 hj
  injection hf2 with h1 h2
  have hjl : j < xs.length:=by
    rw [hxl];exact (Array.getElem?_eq_some_iff.1 hf1).1
  have h:=hg j f hf1;rw [h1,h2,hm,List.getElem?_eq_getElem hjl] at h;refine ⟨n,_,h,fun k hk=>hs k ?_⟩;rw [hx]
  simp only [DataW.weights,ht]
  refine DataW.weights_mem_each (j:=j) (t:=T) (d:=xs[j].1) ?_ ?_ k hk
  · rw [List.getElem?_map,Array.getElem?_toList,hf1];simp [h1]
  · rw [List.getElem?_map,List.getElem?_eq_getElem hjl];rfl
theorem rdz_slice {t e : TypeId} {m : Nat} (ht : (Try.prog).underlying t = some (.slice e)) (hm : (Try.prog).cellsOf e = m) (hf : DataW.trod enc Try.prog W base sp held fuel t cs = some x) (hs : Sz t x.1) :
    ∃ (a : Option Addr) (n cap : Nat),cs = [.slice a n cap]∧n≤cap∧cap≤maxLen∧n * (Try.prog).bytesOf e≤reachBytes∧∀ i,i < n→∃ (ad : Addr) (cs' : List Value) (fuel' : Nat) (x' : DataW H × List MemPlace),a = some ad∧cs'.length = m∧(∀ j,j < m→W.cell? ((ad.add (i * m)).add j) = cs'[j]?)∧DataW.trod enc Try.prog W base sp held fuel' e cs' = some x'∧Sz e x'.1:=by
  rcases open_slice ht hf with ⟨h0,_⟩ | ⟨a,len,cap,k,n,D,Pl,hcs,hb,hl,hc,hk,hx,hi⟩
  · exact ⟨none,0,0,h0,Nat.le_refl _,Nat.zero_le _,by simp,fun i h=>absurd h (Nat.not_lt_zero _)⟩
  · refine ⟨some a,len,cap,hcs,hl,hc,?_,fun i h=>?_⟩
    · have:=hs ((len + (k - len)) * (Try.prog).bytesOf e) (by rw [hx];simp [DataW.weights,ht])
      refine Nat.le_trans (Nat.mul_le_mul_right _ ?_) this
      omega
    · have hik : i < k:=by rw [hk];split <;> omega
      obtain ⟨cs',hc',ht'⟩:=hi i hik;rw [hm] at hc';obtain ⟨_,hcl,hat⟩:=World.cells?_some hc';refine ⟨a,cs',n,_,rfl,hcl,fun j hj=>hat j hj,ht',fun q hq=>hs q ?_⟩;rw [hx]
      simp only [DataW.weights,ht]
      refine List.mem_cons_of_mem _ (List.mem_append_left _ (weightsAll_mem (List.mem_map.2 ⟨i,by simpa using h,rfl⟩) q hq))
end
end Go.Proofs.Ytcgalmnllegnbaa

namespace Go.Proofs.Ytcgalmnllegnbaa
set_option linter.unusedVariables false
set_option linter.unusedSimpArgs false
open Go.ChangeShapes Go.WideShapes Go.ChangeAt Go.RowKit Go.Deep
open Dot
set_option maxRecDepth 100000
theorem cellsIq : (Try.prog).cellsOf 3 = 1:=by kernel_rfl
theorem cellsD : (Try.prog).cellsOf 46 = 2:=by kernel_rfl
theorem cellsDs : (Try.prog).cellsOf 23 = 1:=by kernel_rfl
section
variable {H : Type} {enc : TypeId × Value→H} {W : World} {base : Nat} {sp : Nat→Bool} {held : Bool} {fuel : Nat} {cs : List Value} {x : DataW H × List MemPlace}
theorem rd_dot (hf : DataW.trod enc Try.prog W base sp held fuel 46 cs = some x) : ∃ d : Dt,cs = [.int .i64 d.1,.int .i64 d.2]:=by
  have hl:=rd_len Try.underlying46 cellsD hf;obtain ⟨_,_,g0⟩:=rd_field Try.underlying46 hf 0 3 0 1 rfl cellsIq;obtain ⟨_,_,g1⟩:=rd_field Try.underlying46 hf 1 3 1 1 rfl cellsIq;obtain ⟨x0,e0,_⟩:=rd_int g0;obtain ⟨x1,e1,_⟩:=rd_int g1
  match cs,hl with
  | [a,b],_ =>
    simp at e0 e1
    exact ⟨(x0,x1),by rw [e0,e1]⟩
theorem rd_dots (hf : DataW.trod enc Try.prog W base sp held fuel 23 cs = some x) : ∃ (A : Option Addr) (n c : Nat) (l : List Dt),cs = [.slice A n c]∧RdD W W.heap.size A n l∧n≤maxLen:=by
  obtain ⟨a,n,c,hcs,hnc,hcm,hg⟩:=rd_slice Try.underlying23 cellsD hf
  have key : ∀ i,i < n→∃ (ad : Addr) (d : Dt),a = some ad∧DotAt W W.heap.size (ad.add (i * 2)) d:=fun i hi=>by
    obtain ⟨ad,cs',f',x',e,hl,hc,ht⟩:=hg i hi;obtain ⟨d,rfl⟩:=rd_dot ht;have h0:=hc 0 (by omega);have h1:=hc 1 (by omega);rw [add_add] at h0 h1;rw [Nat.add_zero] at h0;rw [add_next] at h1;exact ⟨ad,d,e,World.block_lt_of_cell? W _ h0,h0,h1⟩
  have hex : ∀ i,∃ d : Dt,i < n→∃ ad,a = some ad∧DotAt W W.heap.size (ad.add (i * 2)) d:=fun i=>by
    by_cases hi : i < n
    · obtain ⟨ad,d,h⟩:=key i hi
      exact ⟨d,fun _=>⟨ad,h⟩⟩
    · exact ⟨(0,0),fun h=>absurd h hi⟩
  refine ⟨a,n,c,(List.range n).map fun i=>(hex i).choose,hcs,⟨by simp,fun i d hi=>?_⟩,Nat.le_trans hnc hcm⟩
  have hi' : i < n:=by
    have:=(List.getElem?_eq_some_iff.1 hi).1
    simpa using this
  rw [List.getElem?_map,List.getElem?_range hi'] at hi
  injection hi with hi
  rw [← hi];exact (hex i).choose_spec hi'
end
end Go.Proofs.Ytcgalmnllegnbaa

namespace Go.Proofs.Ytcgalmnllegnbaa
set_option linter.unusedVariables false
set_option linter.unusedSimpArgs false
open Go.ChangeShapes Go.WideShapes Go.ChangeAt Go.RowKit Go.Deep
open Dot Evt
set_option maxRecDepth 100000
theorem cellsI' : (Try.prog).cellsOf 3 = 1:=by kernel_rfl
theorem cellsP : (Try.prog).cellsOf 48 = 7:=by kernel_rfl
theorem cellsE : (Try.prog).cellsOf 50 = 14:=by kernel_rfl
section
variable {H : Type} {enc : TypeId × Value→H} {W : World} {base : Nat} {sp : Nat→Bool} {held : Bool} {fuel : Nat} {cs : List Value} {x : DataW H × List MemPlace}
theorem rd_pol (hf : DataW.trod enc Try.prog W base sp held fuel 48 cs = some x) : ∃ p : List Int,p.length = 7∧cs = (pc p).toList:=by
  have hl:=rd_len Try.underlying48 cellsP hf;obtain ⟨_,_,g0⟩:=rd_field Try.underlying48 hf 0 3 0 1 rfl cellsI';obtain ⟨_,_,g1⟩:=rd_field Try.underlying48 hf 1 3 1 1 rfl cellsI';obtain ⟨_,_,g2⟩:=rd_field Try.underlying48 hf 2 3 2 1 rfl cellsI';obtain ⟨_,_,g3⟩:=rd_field Try.underlying48 hf 3 3 3 1 rfl cellsI';obtain ⟨_,_,g4⟩:=rd_field Try.underlying48 hf 4 3 4 1 rfl cellsI';obtain ⟨_,_,g5⟩:=rd_field Try.underlying48 hf 5 3 5 1 rfl cellsI';obtain ⟨_,_,g6⟩:=rd_field Try.underlying48 hf 6 3 6 1 rfl cellsI';obtain ⟨x0,e0,_⟩:=rd_int g0;obtain ⟨x1,e1,_⟩:=rd_int g1;obtain ⟨x2,e2,_⟩:=rd_int g2;obtain ⟨x3,e3,_⟩:=rd_int g3;obtain ⟨x4,e4,_⟩:=rd_int g4;obtain ⟨x5,e5,_⟩:=rd_int g5;obtain ⟨x6,e6,_⟩:=rd_int g6
  match cs,hl with
  | [a0,a1,a2,a3,a4,a5,a6],_ =>
    simp at e0 e1 e2 e3 e4 e5 e6
    exact ⟨[x0,x1,x2,x3,x4,x5,x6],rfl,by rw [e0,e1,e2,e3,e4,e5,e6];rfl⟩
theorem rd_ev (hf : DataW.trod enc Try.prog W base sp held fuel 50 cs = some x) : ∃ (e : Ev) (A : Option Addr) (n c : Nat),e.p.length = 7∧cs = (ec e (.slice A n c)).toList∧RdD W W.heap.size A n e.l∧n≤maxLen:=by
  have hl:=rd_len Try.underlying50 cellsE hf;obtain ⟨_,_,g0⟩:=rd_field Try.underlying50 hf 0 46 0 2 rfl cellsD;obtain ⟨_,_,g1⟩:=rd_field Try.underlying50 hf 1 3 2 1 rfl cellsI';obtain ⟨_,_,g2⟩:=rd_field Try.underlying50 hf 2 3 3 1 rfl cellsI';obtain ⟨_,_,g3⟩:=rd_field Try.underlying50 hf 3 3 4 1 rfl cellsI';obtain ⟨_,_,g4⟩:=rd_field Try.underlying50 hf 4 3 5 1 rfl cellsI';obtain ⟨_,_,g5⟩:=rd_field Try.underlying50 hf 5 48 6 7 rfl cellsP;obtain ⟨_,_,g6⟩:=rd_field Try.underlying50 hf 6 23 13 1 rfl cellsDs;obtain ⟨d,e0⟩:=rd_dot g0;obtain ⟨x1,e1,_⟩:=rd_int g1;obtain ⟨x2,e2,_⟩:=rd_int g2;obtain ⟨x3,e3,_⟩:=rd_int g3;obtain ⟨x4,e4,_⟩:=rd_int g4;obtain ⟨p,hp,e5⟩:=rd_pol g5;obtain ⟨A,n,c,l,e6,hr,hn⟩:=rd_dots g6;refine ⟨⟨d,x1,x2,x3,x4,p,l⟩,A,n,c,hp,?_,hr,hn⟩
  match cs,hl with
  | [a0,a1,a2,a3,a4,a5,a6,a7,a8,a9,a10,a11,a12,a13],_ =>
    simp [pc] at e0 e1 e2 e3 e4 e5 e6
    obtain ⟨rfl,rfl⟩:=e0;obtain ⟨rfl,rfl,rfl,rfl,rfl,rfl,rfl⟩:=e5;subst e1 e2 e3 e4 e6
    simp [ec]
end
section
variable {H : Type} {enc : TypeId × Value→H} {W : World} {base : Nat} {sp : Nat→Bool} {held : Bool} {r : Reach} {b0 : Nat} {v : Value} {d : DataW H} {p : List MemPlace}
end
end Go.Proofs.Ytcgalmnllegnbaa

namespace Go.Proofs.Ytcgalmnllegnbaa
set_option linter.unusedVariables false
set_option linter.unusedSimpArgs false
open Go.ChangeShapes Go.WideShapes Go.ChangeAt Go.RowKit Go.Deep
open Dot Evt
set_option maxRecDepth 100000
theorem bytesDt : (Try.prog).bytesOf 46 = 16:=by kernel_rfl
theorem bytesEv : (Try.prog).bytesOf 50 = 128:=by kernel_rfl
section
variable {H : Type} {enc : TypeId × Value→H} {W : World} {base : Nat} {sp : Nat→Bool} {held : Bool} {fuel : Nat} {cs : List Value} {x : DataW H × List MemPlace}
theorem rdz_ev (hf : DataW.trod enc Try.prog W base sp held fuel 50 cs = some x) (hs : Sz 50 x.1) : ∃ e : EvV,cs = e.cs.toList∧EvOk W W.heap.size e:=by
  obtain ⟨e,A,n,c,h1,h2,h3,_⟩:=rd_ev hf;obtain ⟨_,_,g6,z6⟩:=rdz_field Try.underlying50 hf hs 6 23 13 1 rfl cellsDs;obtain ⟨a3,l3,c3,e1,_,_,e4,_⟩:=rdz_slice Try.underlying23 cellsD g6 z6;rw [bytesDt] at e4;have hr : reachBytes = 140737488351232:=rfl;rw [h2] at e1;have e2 : ((ec e (.slice A n c)).toList.drop 13).take 1 = [.slice A n c]:=rfl;rw [e2] at e1
  injection e1 with e1 _
  injection e1 with _ e1 _
  exact ⟨⟨e,A,n,c⟩,h2,h1,h3,by show n≤_;omega⟩
theorem rdz_evs (hf : DataW.trod enc Try.prog W base sp held fuel 24 cs = some x) (hs : Sz 24 x.1) : ∃ (A : Option Addr) (n c : Nat) (xs : List EvV),cs = [.slice A n c]∧RowEv W W.heap.size A n xs∧n≤10000000000000:=by
  obtain ⟨a,n,c,h1,_,_,h3,h4⟩:=rdz_slice Try.underlying24 cellsE hf hs;rw [bytesEv] at h3;have hr : reachBytes = 140737488351232:=rfl
  have key : ∀ i,i < n→∃ e : EvV,EvOk W W.heap.size e∧∃ ad,a = some ad∧ad.block < W.heap.size∧∀ (j : Nat) v,e.cs[j]? = some v→W.cell? ((ad.add (i * 14)).add j) = some v:=fun i hi=>by
    obtain ⟨ad,cs',f',x',e1,hl,hc,ht,hz⟩:=h4 i hi;obtain ⟨e,h5,h6⟩:=rdz_ev ht hz
    have hlt : ad.block < W.heap.size:=by
      have e6:=hc 0 (by omega);rw [List.getElem?_eq_getElem (by omega)] at e6
      have:=World.block_lt_of_cell? W _ e6
      rwa [block_add,block_add] at this
    refine ⟨e,h6,ad,e1,hlt,fun j v hv=>?_⟩
    have hj : j < 14:=by
      have:=(Array.getElem?_eq_some_iff.1 hv).1
      rwa [e.size] at this
    rw [hc j hj,h5,Array.getElem?_toList,hv]
  have hex : ∀ i,∃ e : EvV,i < n→EvOk W W.heap.size e∧∃ ad,a = some ad∧ad.block < W.heap.size∧∀ (j : Nat) v,e.cs[j]? = some v→W.cell? ((ad.add (i * 14)).add j) = some v:=fun i=>by
    by_cases hi : i < n
    · obtain ⟨e,h⟩:=key i hi
      exact ⟨e,fun _=>h⟩
    · exact ⟨⟨exZ,none,0,0⟩,fun h=>absurd h hi⟩
  refine ⟨a,n,c,(List.range n).map fun i=>(hex i).choose,h1,⟨by simp,fun i d hi=>?_⟩,by omega⟩
  have hi' : i < n:=by
    have:=(List.getElem?_eq_some_iff.1 hi).1
    simpa using this
  rw [List.getElem?_map,List.getElem?_range hi'] at hi
  injection hi with hi
  rw [← hi];exact (hex i).choose_spec hi'
end
section
variable {H : Type} {enc : TypeId × Value→H} {W : World} {base : Nat} {sp : Nat→Bool} {held : Bool} {r : Reach} {b0 : Nat} {v : Value} {d : DataW H} {p : List MemPlace}
end
end Go.Proofs.Ytcgalmnllegnbaa

namespace Go.Proofs.Ytcgalmnllegnbaa
set_option linter.unusedVariables false
set_option linter.unusedSimpArgs false
set_option maxRecDepth 100000
open Go.RowKit
open Dot Evt
open Ms (Mem)
structure WithS (w0 : World) (g : Nat) (m : Ms.Msg) (A1 A3 AE : Option Addr) (n1 c1 n3 c3 k cE : Nat) (zs : List EvV) (w : World) : Prop where
  kb : Blk w g 27 (mgc m (.slice A1 n1 c1) (.slice AE k cE) (.slice A3 n3 c3))
  kt : Blk w (g + 1) 27 MZ
  gb : Below w0.heap.size w0 w
  hg : w0.heap.size≤g
  oD : OwnD w (g + 2) A1 n1 c1 m.more
  oM : OwnMb 62 w (g + 2) A3 n3 c3 m.mem
  oE : OwnEv w (g + 2) AE k cE zs
  eo : ∀ z ∈ zs,EvOwn w (g + 2) z
section
variable {w0 w w' w2 : World} {g : Nat} {m : Ms.Msg} {A1 A3 AE A' : Option Addr} {n1 c1 n3 c3 k cE c' : Nat} {zs : List EvV} {z : EvV}
theorem WithS.below (h : WithS w0 g m A1 A3 AE n1 c1 n3 c3 k cE zs w) (hb : Below w.heap.size w w') : WithS w0 g m A1 A3 AE n1 c1 n3 c3 k cE zs w' :=
  ⟨h.kb.below hb h.kb.lt,h.kt.below hb h.kt.lt,h.gb.trans (hb.mono h.gb.size),h.hg,h.oD.below hb (Nat.le_refl _),h.oM.below hb (Nat.le_refl _),h.oE.below hb (Nat.le_refl _),fun z hz=>⟨(h.eo z hz).1,(h.eo z hz).2.1.below hb (Nat.le_refl _),(h.eo z hz).2.2⟩⟩
theorem WithS.farE {q : Nat} {cq : Array Value} (h : WithS w0 g m A1 A3 AE n1 c1 n3 c3 k cE zs w) (hq : Blk w q 50 cq) (hgq : g + 2≤q) (v : Value) (hne : AE.map (·.block) ≠ some q) : WithS w0 g m A1 A3 AE n1 c1 n3 c3 k cE zs (w.setCell ⟨q,13,none⟩ v):=by
  have hgg:=h.hg
  have fd : ∀ {A : Option Addr} {n c : Nat} {l : List Dt},OwnD w (g + 2) A n c l→OwnD (w.setCell ⟨q,13,none⟩ v) (g + 2) A n c l:=fun o=>o.setFar (p:=⟨q,13,none⟩) (own_ne o.2 hq (by decide)) v
  exact ⟨h.kb.far (p:=⟨q,13,none⟩) (by show g ≠ q;omega) _,h.kt.far (p:=⟨q,13,none⟩) (by show g + 1 ≠ q;omega) _,h.gb.setCell (p:=⟨q,13,none⟩) (by show w0.heap.size≤q;omega) _,h.hg,fd h.oD,h.oM.setFar (p:=⟨q,13,none⟩) (own_ne h.oM.2 hq (by decide)) _,
    ⟨h.oE.1,ownsRow_keep h.oE.2 fun b hb=>Below.heap_setCell w ⟨q,13,none⟩ v b (fun e=>hne (by
      cases AE with
      | none=>cases hb
      | some a=>rw [← (show b = q from e)];exact hb))⟩,fun z hz=>⟨(h.eo z hz).1,fd (h.eo z hz).2.1,(h.eo z hz).2.2⟩⟩
theorem WithS.app (h : WithS w0 g m A1 A3 AE n1 c1 n3 c3 k cE zs w) (hb : Below w.heap.size w w') (hz : EvOwn w' (g + 2) z) (ho : OwnEv w2 (g + 2) A' (k + 1) c' (zs ++ [z])) (hg : w'.grownBy w2 (AE.map (·.block))) (hB : Below (g + 2) w' w2) :
    Blk w2 g 27 (mgc m (.slice A1 n1 c1) (.slice AE k cE) (.slice A3 n3 c3))∧WithS w0 g m A1 A3 A' n1 c1 n3 c3 (k + 1) c' (zs ++ [z]) (w2.setCell ⟨g,14,none⟩ (.slice A' (k + 1) c')):=by
  have h1:=h.below hb;have hgg:=h.hg;have kb:=h1.kb.grown hg (own_ne h1.oE.2 h1.kb (by decide));have kt:=h1.kt.grown hg (own_ne h1.oE.2 h1.kt (by decide));have oD:=h1.oD.grown hg (own2_ne h1.oD.2 h1.oE.2 (by decide));have oM:=h1.oM.grown hg (own2_ne h1.oM.2 h1.oE.2 (by decide));have gb:=(h1.gb.trans (hB.mono (by omega))).setCell (p:=⟨g,14,none⟩) (by show w0.heap.size≤g;omega) (.slice A' (k + 1) c')
  have far : ∀ {A : Option Addr} {n c : Nat} {l : List Dt},OwnD w2 (g + 2) A n c l→OwnD (w2.setCell ⟨g,14,none⟩ (.slice A' (k + 1) c')) (g + 2) A n c l:=fun o=>o.setFar (p:=⟨g,14,none⟩) (fun e=>by have h9:=(o.lt _ e).1;have h8 : g + 2≤g:=h9;omega) _
  refine ⟨kb,kb.set_ 14 _,kt.far (p:=⟨g,14,none⟩) (by show g + 1 ≠ g;omega) _,gb,h.hg,far oD,oM.setFar (p:=⟨g,14,none⟩) (fun e=>by have h9:=(oM.lt _ e).1;have h8 : g + 2≤g:=h9;omega) _,ho.far (p:=⟨g,14,none⟩) (by show g < g + 2;omega) _,fun y hy=>?_⟩
  have hy2 : EvOwn w' (g + 2) y:=by
    rcases List.mem_append.1 hy with q | q
    · exact h1.eo y q
    · rw [List.mem_singleton.1 q];exact hz
  exact ⟨hy2.1,far (hy2.2.1.grown hg (own2_ne hy2.2.1.2 h1.oE.2 (by decide))),hy2.2.2⟩
end
set_option maxHeartbeats 4000000 in
theorem with_any (x : MgV) (A : Option Addr) (n c : Nat) (ys : List EvV) (w0 : World) (h : MgIn w0 x) (hr : RowEv w0 w0.heap.size A n ys) (hn : n≤100000) (b1 : x.n1≤100000) (hm : ∀ y ∈ ys,y.m≤100000) (b3 : x.n3≤100000) :
    Calls Try.prog 62 #[.agg x.cs,.slice A n c] w0 fun e w'=>∃ z : MgV,e = .returned (.agg z.cs)∧z.m = { x.m with ev:=ys.map (·.e) }∧MgOwn w' w0.heap.size z∧Below w0.heap.size w0 w':=by
  have HIN:=Lib.hid fun (w' : World) (hb : Below w0.heap.size w0 w')=>h.below hb
  have HRW:=Lib.hid fun (w' : World) (hb : Below w0.heap.size w0 w')=>hr.below hb
  have HYM:=Lib.hid hm;have HNY:=Lib.hid hr.1;have HU:=Lib.hid (And.intro h.ok.u h.wu);have HAT:=Lib.hid (mgv_at x);have HN1:=Lib.hid (And.intro b1 (And.intro b3 hn));clear h hr hm;obtain ⟨C,hC⟩ : ∃ C,C = x.cs:=⟨_,rfl⟩;rw [← hC] at HAT ⊢;have HC:=Lib.hid hC;clear hC
  go_enter Try.func62,Try.ntmps62
  go_upto_region 1 with fail
  refine nameW ?_;intro W hW;obtain ⟨g,hg⟩ : ∃ g,g = w0.heap.size:=⟨_,rfl⟩;rw [← hg]
  have kb : Blk W g 27 C:=by rw [hW,hg];exact (Blk.new w0 _ _).alloc _
  have kt : Blk W (g + 1) 27 MZ:=by
    have h:=Blk.new (w0.alloc (.cells C 27)) 27 MZ;rw [hW,hg]
    simpa using h
  have gb : Below w0.heap.size w0 W:=by rw [hW];exact ((Below.refl _ _).alloc (Nat.le_refl _) _).alloc (by simp) _
  have hgg : w0.heap.size≤g:=by omega
  clear hW hg;refine wp_region_tail 7 (fun L v w=>v 2 = .pointer (some ⟨g,0,none⟩)∧Below W.heap.size W w∧(L 0 = true→v 7 = .pointer (some ⟨g,13,none⟩))∧(L 1 = true→v 8 = .slice x.A1 x.n1 x.c1)∧(L 2 = true→(∃ Ac cc,v 9 = .slice Ac x.n1 cc∧OwnD w (g + 2) Ac x.n1 cc x.m.more))∧(L 3 = true→v 10 = .pointer (some ⟨g,15,none⟩))∧(L 4 = true→v 11 = .slice x.A3 x.n3 x.c3)∧(L 5 = true→(∃ Am cm,v 12 = .slice Am x.n3 cm∧OwnMb 62 w (g + 2) Am x.n3 cm x.m.mem))∧(L 6 = true→v 13 = .pointer (some ⟨g,13,none⟩))) [7,8,9,10,11,12,13] (by kernel_rfl) (by kernel_rfl) (by kernel_rfl) (by kernel_rfl) (by kernel_rfl) (by kernel_rfl) ?h0 ?hst ?hend
  case h0 =>
    intro L h0;have h0 : ∀ i,i < 7→L i = false:=h0;exact ⟨rfl,(Below.refl _ _).drew,offF h0 (i:=0) (by decide),offF h0 (i:=1) (by decide),offF h0 (i:=2) (by decide),offF h0 (i:=3) (by decide),offF h0 (i:=4) (by decide),offF h0 (i:=5) (by decide),offF h0 (i:=6) (by decide)⟩
  case hst =>
    show FactSteps _ _ _ _ [0,1,2,3,4,5,6]
    refine @FactSteps.cons _ _ _ _ 0 _ [] _ rfl (by kernel_rfl) ?s0 ?_;rotate_left;refine @FactSteps.cons _ _ _ _ 1 _ [0] _ rfl (by kernel_rfl) ?s1 ?_;rotate_left;refine @FactSteps.cons _ _ _ _ 2 _ [1] _ rfl (by kernel_rfl) ?s2 ?_;rotate_left;refine @FactSteps.cons _ _ _ _ 3 _ [] _ rfl (by kernel_rfl) ?s3 ?_;rotate_left;refine @FactSteps.cons _ _ _ _ 4 _ [3] _ rfl (by kernel_rfl) ?s4 ?_;rotate_left;refine @FactSteps.cons _ _ _ _ 5 _ [4,2] _ rfl (by kernel_rfl) ?s5 ?_;rotate_left;refine @FactSteps.cons _ _ _ _ 6 _ [0,1,2,3,4] _ rfl (by kernel_rfl) ?s6 ?_;rotate_left;exact FactSteps.nil
    case s0 =>
      rintro L a v w hv hg hL hd hcl ⟨e2,hb,f0,f1,f2,f3,f4,f5,f6⟩ K hK;refine step_do rfl ?_;clear hv;go_simp;exact hK.out _ _ ⟨e2,hb,fun _=>rfl,f1,f2,f3,f4,f5,f6⟩
    case s1 =>
      rintro L a v w hv hg hL hd hcl ⟨e2,hb,f0,f1,f2,f3,f4,f5,f6⟩ K hK;have g0:=f0 (hd 0 (by decide));have cs : w.cell? ⟨g,13,none⟩ = some (.slice x.A1 x.n1 x.c1):=((kb.below hb kb.lt).cell 13).trans HAT.out.2.2.2.2.2.1;refine step_do rfl ?_;clear hv;go_simp;exact hK.out _ _ ⟨e2,hb,f0,fun _=>rfl,f2,f3,f4,f5,f6⟩
    case s2 =>
      rintro L a v w hv hg hL hd hcl ⟨e2,hb,f0,f1,f2,f3,f4,f5,f6⟩ K hK;have g1:=f1 (hd 1 (by decide));refine step_do rfl ?_;clear hv;go_simp;refine (cloneD_any x.A1 x.n1 x.c1 x.m.more w.heap.size w (HIN.out w (gb.trans (hb.mono gb.size))).ok.more (Nat.le_refl _) (by have:=HN1.out;omega)).mono ?_;rintro e wy ⟨Ac,cc,rfl,oc,bb⟩;exact hK.out _ _ ⟨e2,(hb.trans (bb.mono hb.size)),f0,f1,fun _=>⟨Ac,cc,rfl,oc.mono (by have:=kt.lt;have:=hb.size;omega)⟩,f3,f4,(fun h=>(by obtain ⟨Am,cm,e,o⟩:=f5 h;exact ⟨Am,cm,e,o.below bb (Nat.le_refl _)⟩)),f6⟩
    case s3 =>
      rintro L a v w hv hg hL hd hcl ⟨e2,hb,f0,f1,f2,f3,f4,f5,f6⟩ K hK;refine step_do rfl ?_;clear hv;go_simp;exact hK.out _ _ ⟨e2,hb,f0,f1,f2,fun _=>rfl,f4,f5,f6⟩
    case s4 =>
      rintro L a v w hv hg hL hd hcl ⟨e2,hb,f0,f1,f2,f3,f4,f5,f6⟩ K hK;have g3:=f3 (hd 3 (by decide));have cs : w.cell? ⟨g,15,none⟩ = some (.slice x.A3 x.n3 x.c3):=((kb.below hb kb.lt).cell 15).trans HAT.out.2.2.2.2.2.2.2;refine step_do rfl ?_;clear hv;go_simp;exact hK.out _ _ ⟨e2,hb,f0,f1,f2,f3,fun _=>rfl,f5,f6⟩
    case s5 =>
      rintro L a v w hv hg hL hd hcl ⟨e2,hb,f0,f1,f2,f3,f4,f5,f6⟩ K hK;have g4:=f4 (hd 4 (by decide));refine step_do rfl ?_;clear hv;go_simp;refine (cloneMb_any x.A3 x.n3 x.c3 x.m.mem w.heap.size w (HIN.out w (gb.trans (hb.mono gb.size))).ok.mem (Nat.le_refl _) (by have:=HN1.out;omega)).mono ?_;rintro e wy ⟨Am,cm,rfl,oc,bb⟩;exact hK.out _ _ ⟨e2,(hb.trans (bb.mono hb.size)),f0,f1,(fun h=>(by obtain ⟨Ac,cc,e,o⟩:=f2 h;exact ⟨Ac,cc,e,o.below bb (Nat.le_refl _)⟩)),f3,f4,fun _=>⟨Am,cm,rfl,oc.mono (by have:=kt.lt;have:=hb.size;omega)⟩,f6⟩
    case s6 =>
      rintro L a v w hv hg hL hd hcl ⟨e2,hb,f0,f1,f2,f3,f4,f5,f6⟩ K hK;have g0:=f0 (hd 0 (by decide));have g1:=f1 (hd 1 (by decide));have g3:=f3 (hd 3 (by decide));have g4:=f4 (hd 4 (by decide));refine step_do rfl ?_;clear hv;go_simp;exact hK.out _ _ ⟨e2,hb,f0,f1,f2,f3,f4,f5,fun _=>rfl⟩
  case hend =>
  rintro L v w1 hall ⟨e2,hb,f0,f1,f2,f3,f4,f5,f6⟩;have hL : ∀ i,i < 7→L i = true:=hall;have f0:=f0 (hL 0 (by decide));have f1:=f1 (hL 1 (by decide));have f2:=f2 (hL 2 (by decide));have f3:=f3 (hL 3 (by decide));have f4:=f4 (hL 4 (by decide));have f5:=f5 (hL 5 (by decide));have f6:=f6 (hL 6 (by decide));obtain ⟨A1,c1,f2,oD⟩:=f2;obtain ⟨A3,c3,f5,oM⟩:=f5
  simp only [finA,List.foldl_cons,List.foldl_nil,Act.put,List.setIfInBounds_toArray,List.set_cons_succ,List.set_cons_zero,f0,f1,f3,f4,f6,f2,f5]
  have kb:=kb.below hb kb.lt;have kt:=kt.below hb kt.lt;have gb:=gb.trans (hb.mono gb.size);clear e2 f0 f1 f2 f3 f4 f5 f6 hL hall hb
  show wpList _ _ _ [_,_,_] _ _
  have c13 : ∃ v,w1.cell? ⟨g,13,none⟩ = some v:=⟨_,(kb.cell 13).trans HAT.out.2.2.2.2.2.1⟩;have c15 : ∃ v,w1.cell? ⟨g,15,none⟩ = some v:=⟨_,(kb.cell 15).trans HAT.out.2.2.2.2.2.2.2⟩;have c14 : ∃ v,w1.cell? ⟨g,14,none⟩ = some v:=⟨_,(kb.cell 14).trans HAT.out.2.2.2.2.2.2.1⟩;obtain ⟨v13,c13⟩:=c13;obtain ⟨v14,c14⟩:=c14;obtain ⟨v15,c15⟩:=c15;have u13:=kb.free 13;have u14:=kb.free 14;have u15:=kb.free 15;have hlb:=kb.lt
  have S : WithS w0 g x.m A1 A3 none x.n1 c1 x.n3 c3 0 0 [] (((w1.setCell ⟨g,13,none⟩ (.slice A1 x.n1 c1)).setCell ⟨g,15,none⟩ (.slice A3 x.n3 c3)).setCell ⟨g,14,none⟩ (.slice none 0 0)):=by
    have k2:=((kb.set_ 13 (.slice A1 x.n1 c1)).set_ 15 (.slice A3 x.n3 c3)).set_ 14 (.slice none 0 0);rw [HC.out] at k2
    have fd : ∀ (w : World) (k : Nat) (v : Value),OwnD w (g + 2) A1 x.n1 c1 x.m.more→OwnD (w.setCell ⟨g,k,none⟩ v) (g + 2) A1 x.n1 c1 x.m.more:=fun w k v o=>o.setFar (p:=⟨g,k,none⟩) (fun e=>by have h9:=(o.lt _ e).1;have h8 : g + 2≤g:=h9;omega) _
    have fm : ∀ (w : World) (k : Nat) (v : Value),OwnMb 62 w (g + 2) A3 x.n3 c3 x.m.mem→OwnMb 62 (w.setCell ⟨g,k,none⟩ v) (g + 2) A3 x.n3 c3 x.m.mem:=fun w k v o=>o.setFar (p:=⟨g,k,none⟩) (fun e=>by have h9:=(o.lt _ e).1;have h8 : g + 2≤g:=h9;omega) _
    exact ⟨k2,((kt.far (p:=⟨g,13,none⟩) (by show g + 1 ≠ g;omega) _).far (p:=⟨g,15,none⟩) (by show g + 1 ≠ g;omega) _).far (p:=⟨g,14,none⟩) (by show g + 1 ≠ g;omega) _,
      ((gb.setCell (p:=⟨g,13,none⟩) hgg _).setCell (p:=⟨g,15,none⟩) hgg _).setCell (p:=⟨g,14,none⟩) hgg _,hgg,fd _ _ _ (fd _ _ _ (fd _ _ _ oD)),fm _ _ _ (fm _ _ _ (fm _ _ _ oM)),OwnEv.nil _ _,fun z hz=>by simp at hz⟩
  obtain ⟨w2,hw2⟩ : ∃ w2,w2 = ((w1.setCell ⟨g,13,none⟩ (.slice A1 x.n1 c1)).setCell ⟨g,15,none⟩ (.slice A3 x.n3 c3)).setCell ⟨g,14,none⟩ (.slice none 0 0):=⟨_,rfl⟩;rw [← hw2] at S;have HW2:=Lib.hid hw2;clear hw2 kb kt gb oD oM
  go_upto_region 3 with fail
  rw [← HW2.out];clear c13 c14 c15 u13 u14 u15 hlb HW2;have hn100:=HN1.out.2.2;go_wp2_with fail
  go_loopw [18] (fun i wr=>∃ (k : Nat) (AE : Option Addr) (cE : Nat) (zs : List EvV),k≤n∧i = .int .i64 (k : Nat)∧zs.map (·.e) = (ys.take k).map (·.e)∧WithS w0 g x.m A1 A3 AE x.n1 c1 x.n3 c3 k cE zs wr) (fun i _=>n - (intOf i).toNat)
  case atStart=>exact ⟨0,none,0,[],by omega,rfl,rfl,S⟩
  case round =>
  clear S;obtain ⟨k,AE,cE,zs,hk,rfl,hzs,S⟩:=hrel;have HZS:=Lib.hid hzs;have HS:=Lib.hid S;clear hzs
  by_cases hlt : k < n
  · have hkl : k < ys.length:=by rw [← HNY.out];exact hlt
    obtain ⟨hok,ad,hA,hadb,hcs⟩:=(HRW.out wr S.gb).2 k _ (List.getElem?_eq_getElem hkl);have HYK:=Lib.hid (show ys[k].m≤100000 from HYM.out _ (List.getElem_mem hkl))
    have htk : (ys.take (k + 1)).map (·.e) = (ys.take k).map (·.e) ++ [ys[k].e]:=by rw [take_snoc ys hkl,List.map_append];rfl
    have HTK:=Lib.hid htk
    generalize ys[k] = y at *
    subst hA;obtain ⟨cs,hcy⟩ : ∃ cs,cs = y.cs:=⟨_,rfl⟩;rw [← hcy] at hcs;have HCS:=Lib.hid hcs;have HCY:=Lib.hid hcy;have HSZ:=Lib.hid (show cs.size = 14 by rw [hcy];rfl);have H1C:=Lib.hid (show cs.all (·.oneCell') = true by rw [hcy];exact y.one);have HOK0:=Lib.hid hok
    have hk0 : (0 : Int)≤(k : Int):=by omega
    have hkm : (k : Int) < (n : Int):=by omega
    clear hcs hcy hok htk S
    go_upto_region 5 with fail
    go_upto_region 6 with first
      | ((with_reducible refine wpList_lda rowE HCS.out HSZ.out ?_ ?_);rotate_left;(rfl))
      | ((with_reducible refine wpList_st rowE (Blk.new _ _ _) HSZ.out ?_ H1C.out ?_ ?_ ?_);(rfl);rotate_left;(rfl);(rfl);intro w6 k6 g6 z6)
    have bA : Below wr.heap.size wr w6:=new_below g6;have S6:=HS.out.below bA;obtain ⟨gr,hgr2⟩ : ∃ gr,gr = wr.heap.size:=⟨_,rfl⟩;rw [← hgr2] at k6 ⊢
    have hg1 : g + 2≤gr:=by have:=HS.out.kt.lt;omega
    have hok6 : RdD w6 w6.heap.size y.A y.m y.e.l:=(HOK0.out.2.1.below (bA.mono HS.out.gb.size)).more S6.gb.size;have c13 : w6.cell? ⟨gr,13,none⟩ = some (.slice y.A y.m y.c):=(k6.cell 13).trans (by rw [HCY.out];rfl);have HCL:=Lib.hid (cloneD_any y.A y.m y.c y.e.l w6.heap.size w6 hok6 (Nat.le_refl _) (by have:=HYK.out;omega));have HS6:=Lib.hid S6;have HGR:=Lib.hid (show ∀ q,AE.map (·.block) = some q→q < gr from fun q hq=>by rw [hgr2];exact (HS.out.oE.lt _ hq).2);clear hgr2 g6 z6 bA hok6 S6 HS;go_wp2_with fail;refine HCL.out.mono ?_;rintro e w7 ⟨Ac,cc,rfl,oc,b7⟩;have S7:=HS6.out.below b7;have k7:=k6.below b7 k6.lt;have e13 : w7.cell? ⟨gr,13,none⟩ = some (.slice y.A y.m y.c):=(k7.cell 13).trans (by rw [HCY.out];rfl);have u13:=k7.free 13;have hlr:=k7.lt;obtain ⟨z,hzz⟩ : ∃ z : EvV,z = ⟨y.e,Ac,y.m,cc⟩:=⟨_,rfl⟩
    have k8 : Blk (w7.setCell ⟨gr,13,none⟩ (.slice Ac y.m cc)) gr 50 z.cs:=by
      have:=k7.set_ 13 (.slice Ac y.m cc)
      rw [HCY.out] at this;rw [hzz];exact this
    have bS : Below (g + 2) w7 (w7.setCell ⟨gr,13,none⟩ (.slice Ac y.m cc)):=(Below.refl _ _).setCell (p:=⟨gr,13,none⟩) (by show g + 2≤gr;omega) _;have S8 : WithS w0 g x.m A1 A3 AE x.n1 c1 x.n3 c3 k cE zs (w7.setCell ⟨gr,13,none⟩ (.slice Ac y.m cc)):=S7.farE k7 hg1 (.slice Ac y.m cc) (fun e=>by have h9:=(HS6.out.oE.lt _ e).2;have h8:=HGR.out _ e;omega)
    have hez : EvOwn (w7.setCell ⟨gr,13,none⟩ (.slice Ac y.m cc)) (g + 2) z:=by
      rw [hzz];exact ⟨HOK0.out.1,(oc.mono (by have:=HS6.out.kt.lt;omega)).setFar (p:=⟨gr,13,none⟩) (fun e=>by have h9:=(oc.lt _ e).1;have h8 : w6.heap.size≤gr:=h9;have:=k6.lt;omega) _,HOK0.out.2.2⟩
    obtain ⟨w8,hw8⟩ : ∃ w8,w8 = w7.setCell ⟨gr,13,none⟩ (.slice Ac y.m cc):=⟨_,rfl⟩;rw [← hw8] at k8 S8 hez;have HW8:=Lib.hid hw8;have HZE:=Lib.hid (show z.e = y.e by rw [hzz]);have HBS:=Lib.hid (fun w=>buildE1 z w);obtain ⟨cz,hcz⟩ : ∃ cz,cz = z.cs:=⟨_,rfl⟩;rw [← hcz] at k8 HBS;have HCZ:=Lib.hid hcz;have SZ:=Lib.hid (show cz.size = 14 by rw [hcz];rfl);have HEZ:=Lib.hid hez;clear hw8 hzz hcz hez bS oc b7 S7 k7 k6 HS6 HCL c13
    go_upto_region 7 with fail
    rw [← HW8.out];clear e13 u13 hlr HW8;have e14 : w8.cell? ⟨g,14,none⟩ = some (.slice AE k cE):=S8.kb.cell 14;have HS8:=Lib.hid S8;have HO8:=Lib.hid (S8.oE.alloc (.cells cz 50));have hg8 : g + 2≤w8.heap.size:=S8.kt.lt;clear S8
    go_wp2_with first
      | ((with_reducible refine wpList_ld rowE k8 SZ.out ?_ ?_);rotate_left;(rfl))
      | ((refine wpList_bs (v:=.slice (some ⟨w8.heap.size,0,none⟩) 1 1) (w':=w8.alloc (.cells cz 50)) rfl 24 1 #[(0,.tmp 28)] rfl ?_ ?_);(simp only [List.map_toArray,List.map_cons,List.map_nil];exact HBS.out w8))
      | (at_builtin;refine wpList_appE rfl (.tmp 27) (.tmp 29) rfl rfl HO8.out rfl (news:=[z]) (B:=w8.heap.size + 1) ?hd1 rfl ?hd2 ?hd3 ?_)
    case hd1 =>
      have h:=Rd.made w8 cz 50 (0,0);rw [show ecsL [z] = cz.toList by rw [HCZ.out];simp [ecsL]];exact h
    case hd2=>omega
    case hd3=>simp;omega
    intro A9 c9 w9 o9 g9 m9 b9;obtain ⟨kb9,S9⟩:=HS8.out.app ((Below.refl _ _).alloc (Nat.le_refl _) (.cells cz 50)) (z:=z) ⟨HEZ.out.1,HEZ.out.2.1.alloc _,HEZ.out.2.2⟩ o9 g9 b9;have f14 : w9.cell? ⟨g,14,none⟩ = some (.slice AE k cE):=kb9.cell 14;have u14:=kb9.free 14;have hl9:=kb9.lt;have HS9:=Lib.hid S9;clear kb9 S9 o9 g9 m9 b9 e14 k8 HS8 HO8;go_wp2_with fail
    go_roundw
    case rel=>exact ⟨k + 1,A9,c9,zs ++ [z],by omega,by go_num,by rw [List.map_append,HZS.out,HTK.out,List.map_cons,List.map_nil,HZE.out],HS9.out⟩
    case measure=>simp [intOf];omega
  obtain rfl : k = n:=by omega
  have hkk : ¬ (k : Int) < (k : Int):=by omega
  obtain ⟨z,hz⟩ : ∃ z : MgV,z = ⟨{ x.m with ev:=ys.map (·.e) },A1,x.n1,c1,zs,AE,k,cE,A3,x.n3,c3⟩:=⟨_,rfl⟩
  have kz : Blk wr g 27 z.cs:=by rw [hz];exact HS.out.kb
  have hzs : zs.map (·.e) = ys.map (·.e):=by rw [HZS.out,HNY.out,List.take_length]
  have oz : MgOwn wr (g + 2) z:=by
    rw [hz];exact ⟨HU.out.1,HU.out.2,HS.out.oD,HS.out.oE,HS.out.eo,hzs.symm,HS.out.oM⟩
  have hzm : z.m = { x.m with ev:=ys.map (·.e) }:=by rw [hz]
  have HZZ:=Lib.hid (And.intro oz hzm);have SZ:=Lib.hid z.size;have OZ:=Lib.hid z.one;have kt:=HS.out.kt;have gb:=HS.out.gb;have hgg:=HS.out.hg;obtain ⟨CZ,hCZ⟩ : ∃ CZ,CZ = z.cs:=⟨_,rfl⟩;rw [← hCZ] at kz SZ OZ;have HCZ:=Lib.hid hCZ;clear hz hzs oz hzm hCZ
  go_wp2_with first
    | ((with_reducible refine wpList_ld rowMg kz SZ.out ?_ ?_);rotate_left;(rfl))
    | ((with_reducible refine wpList_st rowMg kt SZ.out mz_size OZ.out ?_ ?_ ?_);rotate_left;(rfl);(rfl);intro wZ kZ gZ zZ)
  have gb2:=gb.grown gZ (by exact gb.size) (fun q hq=>by injection hq;omega);exact bodyPost_ret (v:=.agg CZ) (results_blk rfl rowMg kZ SZ.out rfl) rfl ⟨z,by rw [HCZ.out],HZZ.out.2,(HZZ.out.1.kept gZ (by omega)).mono (by omega),gb2⟩
end Go.Proofs.Ytcgalmnllegnbaa

namespace Go.Proofs.Ytcgalmnllegnbaa
set_option linter.unusedVariables false
set_option linter.unusedSimpArgs false
set_option maxRecDepth 100000
open Go.RowKit
open Dot Evt
open Ms (Mem)
namespace Ms
end Ms
def MgV.sq (x : MgV) : MgV:={ x with m:={ x.m with seq:=1 } }
theorem MgIn.sq {w : World} {x : MgV} (h : MgIn w x) : MgIn w x.sq:=⟨⟨h.ok.u,h.ok.more,h.ok.ev,h.ok.es,h.ok.mem⟩,h.wu,h.b2,h.b3⟩
end Go.Proofs.Ytcgalmnllegnbaa

namespace Go.Proofs.Ytcgalmnllegnbaa.Ms
set_option linter.unusedVariables false
set_option linter.unusedSimpArgs false
set_option maxRecDepth 100000
open Dot
open Evt (Ev inB inB_iff rightE polB)
def evs (m : Msg) (l : List Ev) : Msg:={ m with ev:=l }
theorem evs_kind (m : Msg) (l : List Ev) : (evs m l).kind = m.kind:=rfl
def delta (m : Msg) : Prop:=m.kind = 5∧headB m = true∧m.seq = 0∧m.node = 0∧m.u = [0,0,0,0,0,0,0,0]∧m.more = []
theorem delta_of {m : Msg} (h : rightM m = true) (hk : m.kind = 5) : delta m:=by
  obtain ⟨h1,h2,h3,h4,h5⟩:=(right_iff m).1 h;obtain ⟨_,_,_,_,_,_,s5,n0⟩:=right_head h
  have h6 : askSeen m = noSeen m:=by unfold askSeen;rw [if_neg (by omega)]
  rw [h6] at h4;obtain ⟨z1,z2⟩:=eight_zero h4;exact ⟨hk,h1,s5 hk,n0 (by omega),z1,z2⟩
theorem delta_right {m : Msg} (h : delta m) (l : List Ev) (hl : ∀ x ∈ l,rightE x = true) (hn : l.length≤768) : rightM (evs m l) = true:=by
  obtain ⟨hk,h1,h2,h3,h4,h5⟩:=h;have e : rightM (evs m l) = (headB m && inB m.seq 0 (mostS m.kind) && askNode m && askSeen m && askEv (evs m l)):=rfl
  have a1 : inB m.seq 0 (mostS m.kind) = true:=by rw [h2];unfold mostS;rw [if_pos hk];rfl
  have a2 : askNode m = true:=by unfold askNode;rw [if_neg (by omega),h3];rfl
  have a3 : askSeen m = true:=by unfold askSeen;rw [if_neg (by omega)];unfold noSeen;rw [h4,h5];rfl
  have a4 : askEv (evs m l) = true:=by
    unfold askEv
    rw [if_pos (by rw [evs_kind];exact hk),Bool.and_eq_true];exact ⟨List.all_eq_true.2 hl,decide_eq_true hn⟩
  rw [e,h1,a1,a2,a3,a4]
  rfl
theorem delta_body {m : Msg} (h : delta m) (l : List Ev) : bodyM (evs m l) = nb (headN m) ++ (Vint.enc l.length ++ l.flatMap encE):=by
  unfold bodyM
  rw [tail5 (by rw [evs_kind,h.1];decide) (by rw [evs_kind];exact h.1)]
  rfl
def bodyL5 (m : Msg) (l : List Ev) : Nat:=(nb (headN m)).length + ((Vint.enc l.length).length + (l.flatMap encE).length)
theorem delta_len {m : Msg} (h : delta m) (l : List Ev) : (bodyM (evs m l)).length = bodyL5 m l:=by rw [delta_body h];simp only [List.length_append];rfl
def fits (m : Msg) (mtu : Nat) (l : List Ev) : Bool:=decide (bodyL5 m l≤4096) && decide (1 + (Vint.enc (bodyL5 m l)).length + bodyL5 m l + 4≤mtu)
theorem fits_put {m : Msg} (h : delta m) {mtu : Nat} (l : List Ev) (hl : ∀ x ∈ l,rightE x = true) (hn : l.length≤768) :
    fits m mtu l = (decide ((putM (evs m l)).2 = 0) && decide ((putM (evs m l)).1.length≤mtu)):=by
  have hr:=delta_right h l hl hn;have hb:=delta_len h l
  unfold putM fits
  rw [if_pos hr,hb]
  by_cases h1 : bodyL5 m l≤4096
  · rw [if_pos h1,decide_eq_true h1]
    simp only
    rw [Frame.frm_length,hb]
    rfl
  · rw [if_neg h1,decide_eq_false h1]
    rfl
theorem encF_mono : ∀ (f a b : Nat),a≤b→(Vint.encF f a).length≤(Vint.encF f b).length:=by
  intro f
  induction f with
  | zero=>intro a b _;exact Nat.le_refl _
  | succ f ih =>
    intro a b hab
    unfold Vint.encF
    by_cases h1 : a < 128
    · rw [if_pos h1]
      by_cases h2 : b < 128
      · rw [if_pos h2];exact Nat.le_refl _
      · rw [if_neg h2];simp
    · rw [if_neg h1,if_neg (by omega)]
      simp only [List.length_cons]
      have:=ih (a / 128) (b / 128) (Nat.div_le_div_right hab)
      omega
theorem enc_mono {a b : Nat} (h : a≤b) : (Vint.enc a).length≤(Vint.enc b).length:=encF_mono 5 a b h
theorem body_mono (m : Msg) (l : List Ev) {i j : Nat} (h : i≤j) : bodyL5 m (l.take i)≤bodyL5 m (l.take j):=by
  unfold bodyL5
  have h1 : (l.take i).length≤(l.take j).length:=by simp only [List.length_take];omega
  have h2:=enc_mono h1
  have h3 : ((l.take i).flatMap encE).length≤((l.take j).flatMap encE).length:=by
    have e : l.take j = l.take i ++ (l.take j).drop i:=by
      have:=(List.take_append_drop i (l.take j)).symm
      rwa [List.take_take,Nat.min_eq_left h] at this
    rw [e,List.flatMap_append,List.length_append]
    omega
  omega
theorem fits_mono {m : Msg} {mtu : Nat} {l : List Ev} {i j : Nat} (h : i≤j) (hf : fits m mtu (l.take j) = true) : fits m mtu (l.take i) = true:=by
  unfold fits at hf ⊢
  rw [Bool.and_eq_true] at hf ⊢;have h1:=of_decide_eq_true hf.1;have h2:=of_decide_eq_true hf.2;have h3:=body_mono m l h;have h4:=enc_mono h3;exact ⟨decide_eq_true (by omega),decide_eq_true (by omega)⟩
theorem encN_ge : ∀ (ns : List Nat),ns.length≤(encN ns).length:=by
  intro ns
  induction ns with
  | nil=>exact Nat.le_refl _
  | cons z l ih =>
    show _≤(Vint.enc z ++ encN l).length
    rw [List.length_append,List.length_cons]
    have:=Vint.enc_pos z
    omega
theorem encE_ge (x : Ev) : 5≤(encE x).length:=by
  have h:=encN_ge ((Evt.numsE x).map Int.toNat);rw [List.length_map] at h
  have h2 : 5≤(Evt.numsE x).length:=by unfold Evt.numsE;simp only [List.length_append,List.length_cons,List.length_nil];omega
  unfold encE
  omega
theorem flat_ge (l : List Ev) : 5 * l.length≤(l.flatMap encE).length:=by
  induction l with
  | nil=>simp
  | cons x l ih =>
    rw [List.flatMap_cons,List.length_append,List.length_cons]
    have:=encE_ge x
    omega
theorem fits_few {m : Msg} {mtu : Nat} {l : List Ev} (h : fits m mtu l = true) : l.length≤mtu / 5:=by
  unfold fits at h
  rw [Bool.and_eq_true] at h;have h2:=of_decide_eq_true h.2;have h3:=flat_ge l
  unfold bodyL5 at h2
  omega
def fitN (m : Msg) (mtu : Nat) (l : List Ev) : Nat:=((List.range l.length).takeWhile fun k=>fits m mtu (l.take (k + 1))).length
theorem takeWhile_range (P : Nat→Bool) : ∀ (n r : Nat),r≤n→(∀ k,k < r→P k = true)→(r < n→P r = false)→((List.range n).takeWhile P).length = r:=by
  intro n r hr h1 h2
  have e : List.range n = List.range r ++ (List.range (n - r)).map (r + ·):=by
    rw [← List.range_add,Nat.add_sub_cancel' hr]
  rw [e,List.takeWhile_append_of_pos (fun k hk=>h1 k (List.mem_range.1 hk)),List.length_append,List.length_range]
  have : (((List.range (n - r)).map (r + ·)).takeWhile P) = []:=by
    cases hn : n - r with
    | zero=>rfl
    | succ q =>
      rw [List.range_succ_eq_map,List.map_cons,List.takeWhile_cons,Nat.add_zero,h2 (by omega)]
      rfl
  rw [this]
  rfl
theorem fitN_of {m : Msg} {mtu : Nat} {l : List Ev} {r : Nat} (hr : r≤l.length) (h1 : ∀ k,k < r→fits m mtu (l.take (k + 1)) = true) (h2 : r < l.length→fits m mtu (l.take (r + 1)) = false) : fitN m mtu l = r :=
  takeWhile_range _ _ _ hr h1 h2
theorem fitN_le (m : Msg) (mtu : Nat) (l : List Ev) : fitN m mtu l≤l.length:=by
  unfold fitN
  have:=(List.takeWhile_sublist (fun k=>fits m mtu (l.take (k + 1))) (l:=List.range l.length)).length_le
  rwa [List.length_range] at this
theorem fitN_spec (m : Msg) (mtu : Nat) (l : List Ev) : (∀ k,k < fitN m mtu l→fits m mtu (l.take (k + 1)) = true)∧(fitN m mtu l < l.length→fits m mtu (l.take (fitN m mtu l + 1)) = false):=by
  have key : ∀ n,∃ r,r≤n∧(∀ k,k < r→fits m mtu (l.take (k + 1)) = true)∧(r < n→fits m mtu (l.take (r + 1)) = false):=by
    intro n
    induction n with
    | zero=>exact ⟨0,Nat.le_refl _,fun k h=>by omega,fun h=>by omega⟩
    | succ n ih =>
      obtain ⟨r,h1,h2,h3⟩:=ih
      by_cases hr : r < n
      · exact ⟨r,by omega,h2,fun _=>h3 hr⟩
      · have hrn : r = n:=by omega
        subst hrn
        by_cases hf : fits m mtu (l.take (r + 1)) = true
        · exact ⟨r + 1,Nat.le_refl _,fun k hk=>by
            by_cases e : k = r
            · rw [e];exact hf
            · exact h2 k (by omega),fun h=>by omega⟩
        · exact ⟨r,by omega,h2,fun _=>by simpa using hf⟩
  obtain ⟨r,h1,h2,h3⟩:=key l.length;have e:=fitN_of h1 h2 h3;rw [e];exact ⟨h2,h3⟩
theorem fitN_search {m : Msg} {mtu : Nat} {l : List Ev} {r : Nat} (hr : r≤min l.length (mtu / 5)) (h1 : ∀ k,k < r→fits m mtu (l.take (k + 1)) = true) (h2 : ∀ k,r≤k→k < min l.length (mtu / 5)→fits m mtu (l.take (k + 1)) = false) : fitN m mtu l = r:=by
  refine fitN_of (by omega) h1 fun hlt=>?_
  by_cases hm : r < min l.length (mtu / 5)
  · exact h2 r (Nat.le_refl _) hm
  · by_cases hf : fits m mtu (l.take (r + 1)) = true
    · have:=fits_few hf
      rw [List.length_take] at this
      omega
    · simpa using hf
theorem encN_small : ∀ (ns : List Nat),(∀ z ∈ ns,z≤127)→(encN ns).length = ns.length:=by
  intro ns
  induction ns with
  | nil=>intro _;rfl
  | cons z l ih =>
    intro h;have hz:=h z (List.mem_cons_self ..)
    have e1 : (Vint.enc z).length = 1:=by unfold Vint.enc Vint.encF;rw [if_pos (by omega)];rfl
    rw [encN_cons,List.length_append,e1,ih (fun x hx=>h x (List.mem_cons_of_mem _ hx)),List.length_cons]
    omega
theorem encN_le : ∀ (ns : List Nat),(encN ns).length≤6 * ns.length:=by
  intro ns
  induction ns with
  | nil=>exact Nat.le_refl _
  | cons z l ih =>
    rw [encN_cons,List.length_append,List.length_cons]
    have:=Vint.enc_length z
    omega
theorem named_small {own : Dt} {l : List Dt} (h : Evt.namedB own l = true) : ∀ z ∈ (Evt.dotNums l).map Int.toNat,z≤127:=by
  intro z hz;obtain ⟨y,hy,rfl⟩:=List.mem_map.1 hz
  unfold Evt.dotNums at hy
  obtain ⟨d,hd,hy⟩:=List.mem_flatMap.1 hy;obtain ⟨i,hi,rfl⟩:=List.getElem_of_mem hd;have hg:=(Evt.named_iff own l).1 h i hi
  unfold Evt.nameAt at hg
  rw [Bool.and_eq_true,Bool.and_eq_true] at hg;have hm:=(may_iff _).1 hg.1.1;rw [List.getD_eq_getElem?_getD,List.getElem?_eq_getElem hi,Option.getD_some] at hm
  simp at hy
  omega
theorem dotNums_len (l : List Dt) : (Evt.dotNums l).length = 2 * l.length:=by
  induction l with
  | nil=>rfl
  | cons a l ih =>
    show ([a.1,a.2] ++ Evt.dotNums l).length = _
    rw [List.length_append,ih,List.length_cons]
    simp
    omega
theorem encE_short {x : Ev} (hp : x.p.length = 7) (h : rightE x = true) : (encE x).length≤300:=by
  have h96:=evright_l h
  unfold rightE at h
  simp only [Bool.and_eq_true] at h
  obtain ⟨⟨⟨⟨⟨h1,h2⟩,h3⟩,_⟩,h5⟩,h6⟩:=h;have hs:=encN_small _ (named_small h5);rw [List.length_map,dotNums_len] at hs
  have e : ∀ a b : List Int,encN ((a ++ b).map Int.toNat) = encN (a.map Int.toNat) ++ encN (b.map Int.toNat):=fun a b=>by
    unfold encN
    rw [List.map_append,List.flatMap_append]
  unfold encE Evt.numsE
  rw [e,List.length_append];have b1:=encN_le (([x.d.1,x.d.2,x.t,x.k,x.w] : List Int).map Int.toNat)
  simp only [List.length_map,List.length_cons,List.length_nil] at b1
  by_cases hk : x.k = 1
  · rw [if_pos hk]
    have b2:=encN_le (([x.v] : List Int).map Int.toNat)
    simp only [List.length_map,List.length_cons,List.length_nil] at b2
    omega
  · rw [if_neg hk,e,e,List.length_append,List.length_append]
    have b2:=encN_le (((if x.k = 2 then x.p else []) : List Int).map Int.toNat)
    have b3 : ((if x.k = 2 then x.p else []) : List Int).length≤7:=by split <;> simp [hp]
    have b4:=encN_le (([(x.l.length : Int)] : List Int).map Int.toNat)
    simp only [List.length_map,List.length_cons,List.length_nil] at b2 b4
    omega
theorem mem_short {l : List Mem} (h : membersB l = true) : (nb (l.flatMap fun x=>[x.1,x.2.1,x.2.2])).length≤8 * l.length:=by
  have hm : ∀ v ∈ l,v.1≤7∧v.2.1≤4:=fun v hv=>by
    obtain ⟨i,hi,rfl⟩:=List.getElem_of_mem hv;have h1:=(memAt_iff l i).1 ((members_iff l).1 h i hi);rw [List.getD_eq_getElem?_getD,List.getElem?_eq_getElem hi,Option.getD_some] at h1
    omega
  clear h
  induction l with
  | nil=>exact Nat.le_refl _
  | cons v l ih =>
    rw [List.flatMap_cons,nb_app,nb_cons,nb_cons,nb_cons,show nb [] = [] from rfl]
    simp only [List.length_append,List.length_cons,List.length_nil]
    have h1:=ih (fun z hz=>hm z (List.mem_cons_of_mem _ hz));have h2:=hm v (List.mem_cons_self ..)
    have e1 : (Vint.enc v.1.toNat).length = 1:=by unfold Vint.enc Vint.encF;rw [if_pos (by omega)];rfl
    have e2 : (Vint.enc v.2.1.toNat).length = 1:=by unfold Vint.enc Vint.encF;rw [if_pos (by omega)];rfl
    have e3:=Vint.enc_length v.2.2.toNat
    omega
theorem fits_one {m : Msg} (h : delta m) {mtu : Nat} (hm : 512≤mtu) {x : Ev} (hp : x.p.length = 7) (hx : rightE x = true) : fits m mtu [x] = true:=by
  obtain ⟨hk,h1,h2,h3,h4,h5⟩:=h
  unfold headB at h1
  simp only [Bool.and_eq_true,inB_iff,nodeB_iff] at h1
  obtain ⟨⟨⟨⟨a,b⟩,c⟩,_⟩,d⟩:=h1;have h8:=members_len d
  have hh : (nb (headN m)).length≤100:=by
    rw [headN_eq,nb_app,nb_app,nb_app,List.length_append,List.length_append,List.length_append];have b1:=encs_len ([m.kind,m.frm,m.to,(m.mem.length : Int)] : List Int);have b2:=mem_short d;rw [if_neg (by simp [hk]),if_neg (by omega),show nb [] = [] from rfl];rw [← nb_encs] at b1
    simp only [List.length_cons,List.length_nil] at b1 ⊢
    omega
  have he:=encE_short hp hx
  have hb : bodyL5 m [x]≤406:=by
    unfold bodyL5
    have:=Vint.enc_length ([x] : List Ev).length
    simp only [List.flatMap_cons,List.flatMap_nil,List.append_nil]
    omega
  have h6:=Vint.enc_length (bodyL5 m [x])
  unfold fits
  rw [decide_eq_true (by omega : bodyL5 m [x]≤4096),decide_eq_true (by omega)]
  rfl
theorem fitN_pos {m : Msg} (h : delta m) {mtu : Nat} (hm : 512≤mtu) {l : List Ev} (hl : ∀ x ∈ l,x.p.length = 7∧rightE x = true) (h0 : l ≠ []) : 0 < fitN m mtu l:=by
  by_cases hz : fitN m mtu l = 0
  · exfalso
    have hs:=(fitN_spec m mtu l).2;rw [hz] at hs
    match l,h0 with
    | x :: r,_ =>
      have:=hs (by simp)
      have hx:=hl x (List.mem_cons_self ..);rw [show (x :: r).take (0 + 1) = [x] from rfl,fits_one h hm hx.1 hx.2] at this
      cases this
  · omega
end Go.Proofs.Ytcgalmnllegnbaa.Ms

namespace Go.Proofs.Ytcgalmnllegnbaa
set_option linter.unusedVariables false
set_option linter.unusedSimpArgs false
set_option maxRecDepth 100000
open Go.RowKit
open Dot Evt
open Ms (Mem)
structure DlIn (w : World) (x : MgV) : Prop where
  ok : MgIn w x
  d : Ms.delta x.m
  r : ∀ e ∈ x.m.ev,e.p.length = 7∧rightE e = true
  n768 : x.n2≤768
  nc : x.n2≤x.c2
  cm : x.c2≤maxLen
  b1 : x.n1≤100000
  b3 : x.n3≤100000
  hm : ∀ y ∈ x.xs,y.m≤100000
theorem DlIn.below {w w' : World} {x : MgV} (h : DlIn w x) (hb : Below w.heap.size w w') : DlIn w' x:=⟨h.ok.below hb,h.d,h.r,h.n768,h.nc,h.cm,h.b1,h.b3,h.hm⟩
theorem RowEv.take {w : World} {B : Nat} {A : Option Addr} {n : Nat} {xs : List EvV} (h : RowEv w B A n xs) {k : Nat} (hk : k≤n) : RowEv w B A k (xs.take k):=⟨by rw [List.length_take,← h.1];omega,fun i x hi=>by
  rw [List.getElem?_take] at hi
  split at hi
  · exact h.2 i x hi
  · cases hi⟩
theorem delta_again {m : Ms.Msg} (h : Ms.delta m) (l : List Ev) : Ms.delta (Ms.evs m l):=h
set_option maxHeartbeats 4000000 in
theorem fit1_any (x : MgV) (gm gt : Nat) (mtu i : Nat) (w0 : World) (h : DlIn w0 x) (km : Blk w0 gm 27 x.cs) (kt : Blk w0 gt 3 #[.int .i64 (mtu : Nat)]) (hi : i < x.n2) :
    Calls Try.prog 98 #[.int .i64 (i : Nat),.pointer (some ⟨gm,0,none⟩),.pointer (some ⟨gt,0,none⟩)] w0 fun e w'=>e = .returned (.bool (!Ms.fits x.m mtu (x.m.ev.take (i + 1))))∧Below w0.heap.size w0 w':=by
  have hes : (x.m.ev.take (i + 1)) = (x.xs.take (i + 1)).map (·.e):=by rw [h.ok.ok.es,List.map_take]
  have hrl : ∀ e ∈ x.m.ev.take (i + 1),rightE e = true:=fun e he=>(h.r e (List.mem_of_mem_take he)).2
  have hln : (x.m.ev.take (i + 1)).length≤768:=by rw [List.length_take];have:=h.ok.ok.ev.1;have:=h.n768;omega
  have hf:=Ms.fits_put h.d (mtu:=mtu) _ hrl hln;have HF:=Lib.hid hf
  have HWT:=Lib.hid fun (w : World) (hb : Below w0.heap.size w0 w)=>with_any x x.A2 (i + 1) x.c2 (x.xs.take (i + 1)) w (h.ok.below hb) (((h.ok.below hb).ok.ev).take (by omega)) (by have:=h.n768;omega) h.b1 (fun y hy=>h.hm y (List.mem_of_mem_take hy)) h.b3
  have HES:=Lib.hid hes;have HDR:=Lib.hid (Ms.delta_right h.d _ hrl hln);have HAT:=Lib.hid (mgv_at x);obtain ⟨PB,hPB⟩ : ∃ PB,PB = (Ms.putM (Ms.evs x.m (x.m.ev.take (i + 1)))).1.length:=⟨_,rfl⟩;obtain ⟨PE,hPE⟩ : ∃ PE,PE = (Ms.putM (Ms.evs x.m (x.m.ev.take (i + 1)))).2:=⟨_,rfl⟩;have HPB:=Lib.hid hPB;have HPE:=Lib.hid hPE;have hn2:=h.n768;have hnc:=h.nc;have hcm:=h.cm
  unfold maxLen at hcm
  obtain ⟨C,hC⟩ : ∃ C,C = x.cs:=⟨_,rfl⟩;rw [← hC] at HAT HWT km;have SC:=Lib.hid (show C.size = 16 by rw [hC];rfl);have HI:=Lib.hid hi;clear hf hes hrl hln hPB hPE hC h hi
  go_enter Try.func98,Try.ntmps98
  go_upto_region 1 with fail
  refine wp_region_tail 12 (fun L v w=>v 1 = .pointer (some ⟨gm,0,none⟩)∧v 0 = .int .i64 (i : Nat)∧Below w0.heap.size w0 w∧(L 0 = true→v 8 = .agg C)∧(L 1 = true→v 9 = .pointer (some ⟨gm,14,none⟩))∧(L 2 = true→v 10 = .slice x.A2 x.n2 x.c2)∧(L 3 = true→v 11 = .int .i64 (i : Nat))∧(L 4 = true→v 12 = .int .i64 ((i : Int) + 1))∧(L 5 = true→v 13 = .slice x.A2 (i + 1) x.c2)∧(L 6 = true→(∃ z : MgV,v 14 = .agg z.cs∧z.m = Ms.evs x.m (x.m.ev.take (i + 1))∧MgIn w z))∧(L 7 = true→v 15 = .tuple #[.int .i64 (PB : Nat),.int .i64 (PE : Nat)])∧(L 8 = true→v 7 = .tuple #[.int .i64 (PB : Nat),.int .i64 (PE : Nat)])∧(L 9 = true→v 16 = .int .i64 (PB : Nat))∧(L 10 = true→v 17 = .int .i64 (PE : Nat))∧(L 11 = true→v 5 = .int .i64 (PB : Nat))) [8,9,10,11,12,13,14,15,7,16,17,5] (by kernel_rfl) (by kernel_rfl) (by kernel_rfl) (by kernel_rfl) (by kernel_rfl) (by kernel_rfl) ?h0 ?hst ?hend
  case h0 =>
    intro L h0;have h0 : ∀ i,i < 12→L i = false:=h0;exact ⟨rfl,rfl,(Below.refl _ _).drew,offF h0 (i:=0) (by decide),offF h0 (i:=1) (by decide),offF h0 (i:=2) (by decide),offF h0 (i:=3) (by decide),offF h0 (i:=4) (by decide),offF h0 (i:=5) (by decide),offF h0 (i:=6) (by decide),offF h0 (i:=7) (by decide),offF h0 (i:=8) (by decide),offF h0 (i:=9) (by decide),offF h0 (i:=10) (by decide),offF h0 (i:=11) (by decide)⟩
  case hst =>
    show FactSteps _ _ _ _ [0,1,2,3,4,5,6,7,8,9,10,11]
    refine @FactSteps.cons _ _ _ _ 0 _ [] _ rfl (by kernel_rfl) ?s0 ?_;rotate_left;refine @FactSteps.cons _ _ _ _ 1 _ [] _ rfl (by kernel_rfl) ?s1 ?_;rotate_left;refine @FactSteps.cons _ _ _ _ 2 _ [1] _ rfl (by kernel_rfl) ?s2 ?_;rotate_left;refine @FactSteps.cons _ _ _ _ 3 _ [] _ rfl (by kernel_rfl) ?s3 ?_;rotate_left;refine @FactSteps.cons _ _ _ _ 4 _ [3] _ rfl (by kernel_rfl) ?s4 ?_;rotate_left;refine @FactSteps.cons _ _ _ _ 5 _ [2,4] _ rfl (by kernel_rfl) ?s5 ?_;rotate_left;refine @FactSteps.cons _ _ _ _ 6 _ [0,5] _ rfl (by kernel_rfl) ?s6 ?_;rotate_left;refine @FactSteps.cons _ _ _ _ 7 _ [6,6] _ rfl (by kernel_rfl) ?s7 ?_;rotate_left;refine @FactSteps.cons _ _ _ _ 8 _ [7] _ rfl (by kernel_rfl) ?s8 ?_;rotate_left;refine @FactSteps.cons _ _ _ _ 9 _ [8] _ rfl (by kernel_rfl) ?s9 ?_;rotate_left;refine @FactSteps.cons _ _ _ _ 10 _ [8] _ rfl (by kernel_rfl) ?s10 ?_;rotate_left;refine @FactSteps.cons _ _ _ _ 11 _ [9,7,0,1,2,3,4,5,6,7,8,9] _ rfl (by kernel_rfl) ?s11 ?_;rotate_left;exact FactSteps.nil
    case s0 =>
      rintro L a v w hv hg hL hd hcl ⟨e1,e0,hb,f0,f1,f2,f3,f4,f5,f6,f7,f8,f9,f10,f11⟩ K hK;refine step_do rfl ?_;refine wp_ld rowMg (.tmp 1) rfl ((hv 1).trans e1) (km.below hb km.lt) SC.out ?_;exact hK.out _ _ ⟨e1,e0,hb,fun _=>rfl,f1,f2,f3,f4,f5,f6,f7,f8,f9,f10,f11⟩
    case s1 =>
      rintro L a v w hv hg hL hd hcl ⟨e1,e0,hb,f0,f1,f2,f3,f4,f5,f6,f7,f8,f9,f10,f11⟩ K hK;refine step_do rfl ?_;clear hv;go_simp;exact hK.out _ _ ⟨e1,e0,hb,f0,fun _=>rfl,f2,f3,f4,f5,f6,f7,f8,f9,f10,f11⟩
    case s2 =>
      rintro L a v w hv hg hL hd hcl ⟨e1,e0,hb,f0,f1,f2,f3,f4,f5,f6,f7,f8,f9,f10,f11⟩ K hK;have g1:=f1 (hd 1 (by decide));have cs : w.cell? ⟨gm,14,none⟩ = some (.slice x.A2 x.n2 x.c2):=((km.below hb km.lt).cell 14).trans HAT.out.2.2.2.2.2.2.1;refine step_do rfl ?_;clear hv;go_simp;exact hK.out _ _ ⟨e1,e0,hb,f0,f1,fun _=>rfl,f3,f4,f5,f6,f7,f8,f9,f10,f11⟩
    case s3 =>
      rintro L a v w hv hg hL hd hcl ⟨e1,e0,hb,f0,f1,f2,f3,f4,f5,f6,f7,f8,f9,f10,f11⟩ K hK;refine step_do rfl ?_;clear hv;go_simp;exact hK.out _ _ ⟨e1,e0,hb,f0,f1,f2,fun _=>rfl,f4,f5,f6,f7,f8,f9,f10,f11⟩
    case s4 =>
      rintro L a v w hv hg hL hd hcl ⟨e1,e0,hb,f0,f1,f2,f3,f4,f5,f6,f7,f8,f9,f10,f11⟩ K hK;have g3:=f3 (hd 3 (by decide));have ew : IntKind.i64.wrap ((i : Int) + 1) = (i : Int) + 1:=IntWalk.i64_in _ (by have:=HI.out;omega);refine step_do rfl ?_;clear hv;go_simp;exact hK.out _ _ ⟨e1,e0,hb,f0,f1,f2,f3,fun _=>rfl,f5,f6,f7,f8,f9,f10,f11⟩
    case s5 =>
      rintro L a v w hv hg hL hd hcl ⟨e1,e0,hb,f0,f1,f2,f3,f4,f5,f6,f7,f8,f9,f10,f11⟩ K hK;have g2:=f2 (hd 2 (by decide));have g4:=f4 (hd 4 (by decide));have g2:=f2 (hd 2 (by decide));have g4:=f4 (hd 4 (by decide))
      have et : ((i : Int) + 1).toNat = i + 1:=by omega
      have p0 : (0 : Int)≤(i : Int) + 1:=by omega
      have p3 : (i : Int) + 1≤(x.c2 : Int):=by have:=HI.out;omega
      have p4 : ¬ (i : Int) + 1 < 0:=by omega
      have p5 : ¬ (x.c2 : Int) < (i : Int) + 1:=by omega
      refine step_do rfl ?_;clear hv;go_simp;exact hK.out _ _ ⟨e1,e0,hb,f0,f1,f2,f3,f4,fun _=>rfl,f6,f7,f8,f9,f10,f11⟩
    case s6 =>
      rintro L a v w hv hg hL hd hcl ⟨e1,e0,hb,f0,f1,f2,f3,f4,f5,f6,f7,f8,f9,f10,f11⟩ K hK;have g0:=f0 (hd 0 (by decide));have g5:=f5 (hd 5 (by decide));have hwt:=HWT.out w hb;refine step_do rfl ?_;clear hv;go_simp;refine hwt.mono ?_;rintro e wy ⟨z,rfl,hz,oz,bb⟩
      have hzm : z.m = Ms.evs x.m (x.m.ev.take (i + 1)):=by rw [hz,HES.out];rfl
      have hzi : MgIn wy z:=own_in oz (by rw [hzm];exact HDR.out);exact hK.out _ _ ⟨e1,e0,(hb.trans (bb.mono hb.size)),f0,f1,f2,f3,f4,f5,fun _=>⟨z,rfl,hzm,hzi⟩,f7,f8,f9,f10,f11⟩
    case s7 =>
      rintro L a v w hv hg hL hd hcl ⟨e1,e0,hb,f0,f1,f2,f3,f4,f5,f6,f7,f8,f9,f10,f11⟩ K hK;obtain ⟨z,g6,hz,oz⟩:=f6 (hd 6 (by decide));have hsz:=msize_any z w oz;rw [hz,← HPB.out,← HPE.out] at hsz;refine step_do rfl ?_;clear hv;go_simp;refine hsz.mono ?_;rintro e wy ⟨rfl,bb⟩;exact hK.out _ _ ⟨e1,e0,(hb.trans (bb.mono hb.size)),f0,f1,f2,f3,f4,f5,(fun h=>(by obtain ⟨z,e,hz,o⟩:=f6 h;exact ⟨z,e,hz,o.below bb⟩)),fun _=>rfl,f8,f9,f10,f11⟩
    case s8 =>
      rintro L a v w hv hg hL hd hcl ⟨e1,e0,hb,f0,f1,f2,f3,f4,f5,f6,f7,f8,f9,f10,f11⟩ K hK;refine step_do rfl ?_;clear hv;go_simp;exact hK.out _ _ ⟨e1,e0,hb,f0,f1,f2,f3,f4,f5,f6,f7,fun _=>rfl,f9,f10,f11⟩
    case s9 =>
      rintro L a v w hv hg hL hd hcl ⟨e1,e0,hb,f0,f1,f2,f3,f4,f5,f6,f7,f8,f9,f10,f11⟩ K hK;have g8:=f8 (hd 8 (by decide));refine step_do rfl ?_;clear hv;go_simp;exact hK.out _ _ ⟨e1,e0,hb,f0,f1,f2,f3,f4,f5,f6,f7,f8,fun _=>rfl,f10,f11⟩
    case s10 =>
      rintro L a v w hv hg hL hd hcl ⟨e1,e0,hb,f0,f1,f2,f3,f4,f5,f6,f7,f8,f9,f10,f11⟩ K hK;have g8:=f8 (hd 8 (by decide));refine step_do rfl ?_;clear hv;go_simp;exact hK.out _ _ ⟨e1,e0,hb,f0,f1,f2,f3,f4,f5,f6,f7,f8,f9,fun _=>rfl,f11⟩
    case s11 =>
      rintro L a v w hv hg hL hd hcl ⟨e1,e0,hb,f0,f1,f2,f3,f4,f5,f6,f7,f8,f9,f10,f11⟩ K hK;have g0:=f0 (hd 0 (by decide));have g1:=f1 (hd 1 (by decide));have g2:=f2 (hd 2 (by decide));have g3:=f3 (hd 3 (by decide));have g4:=f4 (hd 4 (by decide));have g5:=f5 (hd 5 (by decide));have g8:=f8 (hd 8 (by decide));have g9:=f9 (hd 9 (by decide));refine step_do rfl ?_;clear hv;go_simp;exact hK.out _ _ ⟨e1,e0,hb,f0,f1,f2,f3,f4,f5,f6,f7,f8,f9,f10,fun _=>rfl⟩
  case hend =>
  rintro L v w1 hall ⟨e1,e0,hb,f0,f1,f2,f3,f4,f5,f6,f7,f8,f9,f10,f11⟩;have hL : ∀ i,i < 12→L i = true:=hall;have f0:=f0 (hL 0 (by decide));have f1:=f1 (hL 1 (by decide));have f2:=f2 (hL 2 (by decide));have f3:=f3 (hL 3 (by decide));have f4:=f4 (hL 4 (by decide));have f5:=f5 (hL 5 (by decide));have f6:=f6 (hL 6 (by decide));have f7:=f7 (hL 7 (by decide));have f8:=f8 (hL 8 (by decide));have f9:=f9 (hL 9 (by decide));have f10:=f10 (hL 10 (by decide));have f11:=f11 (hL 11 (by decide))
  simp only [finA,List.foldl_cons,List.foldl_nil,Act.put,List.setIfInBounds_toArray,List.set_cons_succ,List.set_cons_zero,f0,f1,f2,f3,f4,f5,f8,f9,f10,f11,f7]
  clear e1 e0 f0 f1 f2 f3 f4 f5 f6 f7 f8 f9 f10 f11 hL hall
  show wpList _ _ _ [_] _ _
  have kt:=kt.below hb kt.lt;have gb:=hb;have ct : w1.cell? ⟨gt,0,none⟩ = some (.int .i64 (mtu : Nat)):=kt.cell 0;clear hb hnc hcm hn2 km
  by_cases he : PE = 0
  · have hq : (((PE : Nat) : Int) != 0) = false:=by rw [he];rfl
    have hq0 : ((PE : Nat) : Int) = 0:=by rw [he];rfl
    by_cases hl : PB≤mtu
    · have hr : (!Ms.fits x.m mtu (x.m.ev.take (i + 1))) = false:=by rw [HF.out,← HPE.out,← HPB.out,decide_eq_true he,decide_eq_true hl];rfl
      have HR:=Lib.hid hr
      have hl' : ¬ (mtu : Int) < (PB : Int):=by omega
      subst he;clear hr hl hq0;go_wp2_with fail;go_ret;exact ⟨by rw [HR.out];rfl,gb⟩
    · have hr : (!Ms.fits x.m mtu (x.m.ev.take (i + 1))) = true:=by rw [HF.out,← HPE.out,← HPB.out,decide_eq_true he,decide_eq_false hl];rfl
      have HR:=Lib.hid hr
      have hl' : (mtu : Int) < (PB : Int):=by omega
      subst he;clear hr hl hq0;go_wp2_with fail;go_ret;exact ⟨by rw [HR.out];rfl,gb⟩
  · have hq : (((PE : Nat) : Int) != 0) = true:=by rw [bne_iff_ne];omega
    have hr : (!Ms.fits x.m mtu (x.m.ev.take (i + 1))) = true:=by rw [HF.out,← HPE.out,decide_eq_false he];rfl
    have HR:=Lib.hid hr
    have he' : ¬ ((PE : Nat) : Int) = 0:=by omega
    clear hr he;go_wp2_with fail;go_ret;exact ⟨by rw [HR.out];rfl,gb⟩
set_option maxHeartbeats 4000000 in
theorem fit_any (x : MgV) (mtu : Nat) (w0 : World) (h : DlIn w0 x) (hmt : mtu≤4096) :
    Calls Try.prog 63 #[.agg x.cs,.int .i64 (mtu : Nat)] w0 fun e w'=>e = .returned (.int .i64 (Ms.fitN x.m mtu x.m.ev : Nat))∧Below w0.heap.size w0 w':=by
  have HD:=Lib.hid fun (w' : World) (hb : Below w0.heap.size w0 w')=>h.below hb
  have HAT:=Lib.hid (mgv_at x);have hn2:=h.n768;have HLE:=Lib.hid (show x.m.ev.length = x.n2 by rw [h.ok.ok.es,List.length_map,← h.ok.ok.ev.1])
  have hck : ∀ args w,(callFunc 98 args).run Try.prog w = .ok (.enter 98 args) w:=by
    intro args w
    simp [go_sem]
  have HCK:=Lib.hid hck;obtain ⟨C,hC⟩ : ∃ C,C = x.cs:=⟨_,rfl⟩;rw [← hC] at HAT ⊢;have HC:=Lib.hid hC;clear h hck hC
  go_enter Try.func63,Try.ntmps63
  go_upto_region 1 with fail
  refine nameW ?_;intro W hW;obtain ⟨gm,hgm⟩ : ∃ gm,gm = w0.heap.size:=⟨_,rfl⟩;rw [← hgm]
  have km : Blk W gm 27 C:=by rw [hW,hgm];exact (Blk.new w0 _ _).alloc _
  have kt : Blk W (gm + 1) 3 #[.int .i64 (mtu : Nat)]:=by
    have h:=Blk.new (w0.alloc (.cells C 27)) 3 #[.int .i64 (mtu : Nat)];rw [hW,hgm]
    simpa using h
  have gb : Below w0.heap.size w0 W:=by rw [hW];exact ((Below.refl _ _).alloc (Nat.le_refl _) _).alloc (by simp) _
  have c14 : W.cell? ⟨gm,14,none⟩ = some (.slice x.A2 x.n2 x.c2):=(km.cell 14).trans HAT.out.2.2.2.2.2.2.1;have ct : W.cell? ⟨gm + 1,0,none⟩ = some (.int .i64 (mtu : Nat)):=kt.cell 0;clear hW hgm;obtain ⟨q,hq⟩ : ∃ q,q = mtu / 5:=⟨_,rfl⟩
  have hqt : ((mtu : Nat) : Int).tdiv 5 = (q : Int):=by rw [Int.tdiv_eq_ediv_of_nonneg (by omega)];omega
  have hqd : ((mtu : Nat) : Int) / 5 = (q : Int):=by omega
  have HQ:=Lib.hid hq
  have hq9 : q≤1000:=by omega
  clear hq
  by_cases hmn : q < x.n2
  · have hcm : (q : Int) < (x.n2 : Int):=by omega
    have hclo : ∀ i : Nat,i < q→∀ w,Below W.heap.size W w→Calls Try.prog 98 (#[.int .i64 (i : Nat)] ++ #[.pointer (some ⟨gm,0,none⟩),.pointer (some ⟨gm + 1,0,none⟩)]) w fun e w'=>e = .returned (.bool (!Ms.fits x.m mtu (x.m.ev.take (i + 1))))∧Below w.heap.size w w':=fun i hi w hb=>fit1_any x gm (gm + 1) mtu i w (HD.out w (gb.trans (hb.mono gb.size))) (HC.out ▸ km.below hb km.lt) (kt.below hb kt.lt) (by omega)
    have HSE:=Lib.hid (search_any 98 #[.pointer (some ⟨gm,0,none⟩),.pointer (some ⟨gm + 1,0,none⟩)] q (fun k=>!Ms.fits x.m mtu (x.m.ev.take (k + 1))) W (by omega) HCK.out (fun a b hab hbm ha=>by
      have h1 : Ms.fits x.m mtu (x.m.ev.take (a + 1)) = false:=by simpa using ha
      cases h2 : Ms.fits x.m mtu (x.m.ev.take (b + 1)) with
      | false=>rfl
      | true =>
        have:=Ms.fits_mono (i:=a + 1) (by omega) h2
        rw [h1] at this
        cases this) hclo)
    have HMN:=Lib.hid (show q = min x.n2 q by omega);clear hclo km kt
    go_upto_region 3 with fail
    clear hqt hqd hcm c14 ct;go_wp2_with fail;refine HSE.out.mono ?_;rintro e w1 ⟨r,rfl,hr,hlo,hhi,bb⟩;have gb:=gb.trans (bb.mono gb.size)
    have hfin : Ms.fitN x.m mtu x.m.ev = r:=Ms.fitN_search (by rw [HLE.out,← HQ.out,← HMN.out];exact hr) (fun k hk=>by have:=hlo k hk;simpa using this) (fun k h1 h2=>by
      rw [HLE.out,← HQ.out,← HMN.out] at h2
      have:=hhi k h1 h2
      simpa using this)
    have HFN:=Lib.hid hfin;clear hr hlo hhi hfin bb HSE;go_wp2_with fail;go_ret;exact ⟨by rw [HFN.out];rfl,gb⟩
  have hcm : ¬ (q : Int) < (x.n2 : Int):=by omega
  have hclo : ∀ i : Nat,i < x.n2→∀ w,Below W.heap.size W w→Calls Try.prog 98 (#[.int .i64 (i : Nat)] ++ #[.pointer (some ⟨gm,0,none⟩),.pointer (some ⟨gm + 1,0,none⟩)]) w fun e w'=>e = .returned (.bool (!Ms.fits x.m mtu (x.m.ev.take (i + 1))))∧Below w.heap.size w w':=fun i hi w hb=>fit1_any x gm (gm + 1) mtu i w (HD.out w (gb.trans (hb.mono gb.size))) (HC.out ▸ km.below hb km.lt) (kt.below hb kt.lt) (by omega)
  have HSE:=Lib.hid (search_any 98 #[.pointer (some ⟨gm,0,none⟩),.pointer (some ⟨gm + 1,0,none⟩)] x.n2 (fun k=>!Ms.fits x.m mtu (x.m.ev.take (k + 1))) W (by omega) HCK.out (fun a b hab hbm ha=>by
    have h1 : Ms.fits x.m mtu (x.m.ev.take (a + 1)) = false:=by simpa using ha
    cases h2 : Ms.fits x.m mtu (x.m.ev.take (b + 1)) with
    | false=>rfl
    | true =>
      have:=Ms.fits_mono (i:=a + 1) (by omega) h2
      rw [h1] at this
      cases this) hclo)
  have HMN:=Lib.hid (show x.n2 = min x.n2 q by omega);clear hclo km kt
  go_upto_region 3 with fail
  clear hqt hqd hcm c14 ct;go_wp2_with fail;refine HSE.out.mono ?_;rintro e w1 ⟨r,rfl,hr,hlo,hhi,bb⟩;have gb:=gb.trans (bb.mono gb.size)
  have hfin : Ms.fitN x.m mtu x.m.ev = r:=Ms.fitN_search (by rw [HLE.out,← HQ.out,← HMN.out];exact hr) (fun k hk=>by have:=hlo k hk;simpa using this) (fun k h1 h2=>by
    rw [HLE.out,← HQ.out,← HMN.out] at h2
    have:=hhi k h1 h2
    simpa using this)
  have HFN:=Lib.hid hfin;clear hr hlo hhi hfin bb HSE;go_wp2_with fail;go_ret;exact ⟨by rw [HFN.out];rfl,gb⟩
def Ms.fitM (m : Ms.Msg) (mtu : Int) : Nat × Nat:=if 512≤mtu∧mtu≤4096∧m.kind = 5∧Ms.rightM m = true then (Ms.fitN m mtu.toNat m.ev,0) else (0,2)
structure MgC (w : World) (x : MgV) : Prop where
  ok : MgIn w x
  nc : x.n2≤x.c2
  cm : x.c2≤maxLen
  b1 : x.n1≤100000
  b3 : x.n3≤100000
  hm : ∀ y ∈ x.xs,y.m≤100000
theorem MgC.below {w w' : World} {x : MgV} (h : MgC w x) (hb : Below w.heap.size w w') : MgC w' x:=⟨h.ok.below hb,h.nc,h.cm,h.b1,h.b3,h.hm⟩
theorem MgC.dl {w : World} {x : MgV} (h : MgC w x) (hk : x.m.kind = 5) (hr : Ms.rightM x.m = true) : DlIn w x:=by
  have ha:=((Ms.right_iff x.m).1 hr).2.2.2.2
  unfold Ms.askEv at ha
  rw [if_pos hk,Bool.and_eq_true] at ha;have h7:=in_p h.ok;have hl:=of_decide_eq_true ha.2;rw [h.ok.ok.es,List.length_map,← h.ok.ok.ev.1] at hl;exact ⟨h.ok,Ms.delta_of hr hk,fun e he=>⟨h7 e he,List.all_eq_true.1 ha.1 e he⟩,hl,h.nc,h.cm,h.b1,h.b3,h.hm⟩
set_option maxHeartbeats 4000000 in
theorem cfit_any (x : MgV) (mtu : Int) (w0 : World) (h : MgC w0 x) :
    Calls Try.prog 24 #[.agg x.cs,.int .i64 mtu] w0 fun e w'=>e = .returned (.tuple #[.int .i64 ((Ms.fitM x.m mtu).1 : Nat),.int .i64 ((Ms.fitM x.m mtu).2 : Nat)])∧Below w0.heap.size w0 w':=by
  have HH:=Lib.hid fun (w' : World) (hb : Below w0.heap.size w0 w')=>h.below hb
  have HAT:=Lib.hid (mgv_at x);obtain ⟨C,hC⟩ : ∃ C,C = x.cs:=⟨_,rfl⟩
  have HRX:=Lib.hid fun (w' : World) (hb : Below w0.heap.size w0 w')=>(by have:=mright_any x w' (h.below hb).ok;rw [← hC] at this;exact this : Calls Try.prog 14 #[.agg C] w' fun e w''=>e = .returned (.bool (Ms.rightM x.m))∧Below w'.heap.size w' w'')
  rw [← hC] at HAT ⊢;have SC:=Lib.hid (show C.size = 16 by rw [hC];rfl);have HC:=Lib.hid hC;obtain ⟨F1,hF1⟩ : ∃ F1,F1 = (Ms.fitM x.m mtu).1:=⟨_,rfl⟩;obtain ⟨F2,hF2⟩ : ∃ F2,F2 = (Ms.fitM x.m mtu).2:=⟨_,rfl⟩;rw [← hF1,← hF2];have HF:=Lib.hid (And.intro hF1 hF2)
  have hs:=fun w=>satw_any mtu 512 4096 w
  obtain ⟨z,hz⟩ : ∃ z : Int,z = (if (4096 : Int) < mtu then 4096 else if mtu < 512 then 512 else mtu):=⟨_,rfl⟩;rw [← hz] at hs;have HS:=Lib.hid hs;have HZ:=Lib.hid hz;clear h hC hF1 hF2 hs hz
  go_enter Try.func24,Try.ntmps24
  go_upto_region 1 with fail
  refine nameW ?_;intro W hW;obtain ⟨g,hg⟩ : ∃ g,g = w0.heap.size:=⟨_,rfl⟩;rw [← hg]
  have kb : Blk W g 27 C:=by rw [hW,hg];exact Blk.new w0 _ _
  have gb : Below w0.heap.size w0 W:=by rw [hW];exact (Below.refl _ _).alloc (Nat.le_refl _) _
  have c0 : W.cell? ⟨g,0,none⟩ = some (.int .i64 x.m.kind):=(kb.cell 0).trans HAT.out.1;clear hW hg
  by_cases hin : 512≤mtu∧mtu≤4096
  case neg =>
    have hzm : (z != mtu) = true:=by
      rw [bne_iff_ne,HZ.out]
      split
      · omega
      · split <;> omega
    have hf : F1 = 0∧F2 = 2:=by rw [HF.out.1,HF.out.2];unfold Ms.fitM;rw [if_neg (by omega)];exact ⟨rfl,rfl⟩
    obtain ⟨rfl,rfl⟩:=hf;clear hin;go_wp2_with fail;refine (HS.out W).mono ?_;rintro e w1 ⟨rfl,rfl⟩;go_wp2_with fail;go_ret2;exact ⟨rfl,gb⟩
  have hzm : (z != mtu) = false:=by
    have : z = mtu:=by
      rw [HZ.out];rw [if_neg (by omega),if_neg (by omega)]
    rw [this];simp
  have hze : z = mtu:=by simpa using hzm
  subst hze
  by_cases hk : x.m.kind = 5
  case neg =>
    have hkq : (x.m.kind != 5) = true:=by rw [bne_iff_ne];exact hk
    have hf : F1 = 0∧F2 = 2:=by rw [HF.out.1,HF.out.2];unfold Ms.fitM;rw [if_neg (fun h=>hk h.2.2.1)];exact ⟨rfl,rfl⟩
    obtain ⟨rfl,rfl⟩:=hf;go_wp2_with fail;refine (HS.out W).mono ?_;rintro e w1 ⟨rfl,rfl⟩;go_wp2_with fail;go_ret2;exact ⟨rfl,gb⟩
  rw [hk] at c0;obtain ⟨R,hR⟩ : ∃ R,R = Ms.rightM x.m:=⟨_,rfl⟩;have hr2:=HRX.out W gb;rw [← hR] at hr2;have HR2:=Lib.hid hr2;have HR:=Lib.hid hR;have HIN:=Lib.hid (And.intro hin hk);clear hr2 hR hin hk;go_wp2_with fail;refine (HS.out W).mono ?_;rintro e w1 ⟨rfl,rfl⟩
  go_wp2_with ((with_reducible refine wpList_ldg rowMg kb SC.out ?_ ?_ ?_);rotate_left;(rfl);(rfl))
  refine HR2.out.mono ?_;rintro e w2 ⟨rfl,bb⟩;have kb:=kb.below bb kb.lt;have gb:=gb.trans (bb.mono gb.size);clear bb HR2 c0
  cases R
  case false =>
    have hf : F1 = 0∧F2 = 2:=by rw [HF.out.1,HF.out.2];unfold Ms.fitM;rw [if_neg (fun h=>by rw [h.2.2.2] at HR;have:=HR.out;cases this)];exact ⟨rfl,rfl⟩
    obtain ⟨rfl,rfl⟩:=hf;go_wp2_with fail;go_ret2;exact ⟨rfl,gb⟩
  obtain ⟨mt,hmt⟩ : ∃ mt : Nat,z = (mt : Int):=⟨z.toNat,by have:=HIN.out;omega⟩;subst hmt
  have hf : F1 = Ms.fitN x.m mt x.m.ev∧F2 = 0:=by
    rw [HF.out.1,HF.out.2]
    unfold Ms.fitM
    rw [if_pos ⟨HIN.out.1.1,HIN.out.1.2,HIN.out.2,HR.out.symm⟩];exact ⟨rfl,rfl⟩
  obtain ⟨rfl,rfl⟩:=hf;have hfit:=fit_any x mt w2 ((HH.out w2 gb).dl HIN.out.2 HR.out.symm) (by have:=HIN.out.1.2;omega);rw [← HC.out] at hfit;have HFIT:=Lib.hid hfit;clear hfit HF
  go_wp2_with ((with_reducible refine wpList_ld rowMg kb SC.out ?_ ?_);rotate_left;(rfl))
  refine HFIT.out.mono ?_;rintro e w3 ⟨rfl,bb⟩;have gb:=gb.trans (bb.mono gb.size);go_wp2_with fail;go_ret2;exact ⟨rfl,gb⟩
end Go.Proofs.Ytcgalmnllegnbaa

namespace Go.Proofs.Ytcgalmnllegnbaa
set_option linter.unusedVariables false
set_option linter.unusedSimpArgs false
set_option maxRecDepth 100000
open Go.RowKit
open Dot Evt
open Ms (Mem)
theorem infoMg : (Try.prog.info? 27).map (fun i=>(i.zero,i.size,i.bytes)) = some (some (.agg ZM),16,176):=by kernel_rfl
def mgsL (xs : List MgV) : List Value:=xs.flatMap fun x=>x.cs.toList
theorem mgsL_len (xs : List MgV) : (mgsL xs).length = xs.length * 16:=by
  induction xs with
  | nil=>rfl
  | cons x l ih=>show (x.cs.toList ++ mgsL l).length = _;rw [List.length_append,ih,Array.length_toList,x.size];simp;omega
theorem mgsL_app (l m : List MgV) : mgsL (l ++ m) = mgsL l ++ mgsL m:=by unfold mgsL;rw [List.flatMap_append]
theorem mgsL_one (l : List MgV) : ∀ u ∈ mgsL l,u.oneCell' = true:=by
  intro u hu
  unfold mgsL at hu
  rw [List.mem_flatMap] at hu;obtain ⟨d,_,hd⟩:=hu
  have:=Array.all_eq_true_iff_forall_mem.1 d.one u (by simpa using hd)
  exact this
theorem mgsL_at (l : List MgV) : ∀ (i : Nat) (x : MgV),l[i]? = some x→∀ (j : Nat) v,x.cs[j]? = some v→(mgsL l)[i * 16 + j]? = some v:=by
  induction l with
  | nil=>intro i d h;simp at h
  | cons y l ih =>
    intro i x h j v hv;have e : mgsL (y :: l) = y.cs.toList ++ mgsL l:=rfl
    have hj : j < 16:=by
      have:=(Array.getElem?_eq_some_iff.1 hv).1
      rwa [x.size] at this
    rw [e]
    cases i with
    | zero =>
      simp at h
      subst h;rw [Nat.zero_mul,Nat.zero_add,List.getElem?_append_left (by rw [Array.length_toList,y.size];exact hj),Array.getElem?_toList];exact hv
    | succ i =>
      rw [List.getElem?_append_right (by rw [Array.length_toList,y.size];omega),Array.length_toList,y.size,show (i + 1) * 16 + j - 16 = i * 16 + j by omega];exact ih i x (by simpa using h) j v hv
def OwnMg (w : World) (base : Nat) (A : Option Addr) (n c : Nat) (xs : List MgV) : Prop:=n = xs.length∧w.ownsRow base 27 16 (.slice A n c) n (mgsL xs)
def RowMg (w : World) (B : Nat) (A : Option Addr) (n : Nat) (xs : List MgV) : Prop :=
  n = xs.length∧∀ i x,xs[i]? = some x→∃ ad,A = some ad∧ad.block < B∧∀ (j : Nat) v,x.cs[j]? = some v→w.cell? ((ad.add (i * 16)).add j) = some v
section
variable {w w' : World} {base B B' n c : Nat} {A : Option Addr} {xs : List MgV}
theorem OwnMg.nil (w : World) (base : Nat) : OwnMg w base none 0 0 []:=⟨rfl,World.ownsRow_nil w base _ 16⟩
theorem OwnMg.alloc (h : OwnMg w base A n c xs) (o : Obj) : OwnMg (w.alloc o) base A n c xs:=⟨h.1,h.2.alloc o⟩
theorem OwnMg.mono {base' : Nat} (h : OwnMg w base A n c xs) (hb : base'≤base) : OwnMg w base' A n c xs:=⟨h.1,ownsRow_base h.2 hb⟩
theorem OwnMg.raw (h : OwnMg w base A n c xs) : Rd w w.heap.size A (mgsL xs):=fun j u hu=>by
  rcases h.2.2 with ⟨hv,h0⟩ | ⟨g,cap,cur,hv,hb,hh,hn,hm,hs,hc⟩
  · have:=h.2.1;rw [h0] at this;simp at this;rw [this] at hu;simp at hu
  · injection hv with hA
    subst hA;exact ⟨_,rfl,(h.2.lt g rfl).2,h.2.cells (g:=g) rfl j u hu⟩
theorem OwnMg.lt (h : OwnMg w base A n c xs) : ∀ g,A.map (·.block) = some g→base≤g∧g < w.heap.size:=fun g hg=>h.2.lt g (by
  rcases A with _ | a
  · simp at hg
  · simpa [Value.ownBlock] using hg)
theorem OwnMg.below (h : OwnMg w base A n c xs) (hb : Below B w w') (hB : w.heap.size≤B) : OwnMg w' base A n c xs:=⟨h.1,ownsRow_keep h.2 fun k hk=>hb.block k (by have:=ownsRow_lt h.2 hk;omega)⟩
theorem OwnMg.kept {q : Nat} (h : OwnMg w base A n c xs) (hg : w.grownBy w' (some q)) (hq : q < base) : OwnMg w' base A n c xs :=
  ⟨h.1,ownsRow_keep h.2 fun k hk=>hg.block k (ownsRow_lt h.2 hk) (fun e=>by
    injection e with e
    have:=(h.lt k (by cases A with
      | none=>cases hk
      | some a=>exact hk)).1
    omega)⟩
theorem OwnMg.far (h : OwnMg w base A n c xs) {p : Addr} (hp : p.block < base) (u : Value) : OwnMg (w.setCell p u) base A n c xs :=
  ⟨h.1,ownsRow_keep h.2 fun k hk=>Below.heap_setCell w p u k (fun e=>by
    have:=(h.lt k (by cases A with
      | none=>cases hk
      | some a=>exact hk)).1
    omega)⟩
theorem RowMg.below (h : RowMg w B A n xs) (hb : Below B w w') : RowMg w' B A n xs:=⟨h.1,fun i x hi=>by
  obtain ⟨ad,e,h2,h3⟩:=h.2 i x hi
  exact ⟨ad,e,h2,fun j v hv=>(hb.cell (by rw [block_add,block_add];exact h2)).trans (h3 j v hv)⟩⟩
theorem RowMg.more (h : RowMg w B A n xs) (hB : B≤B') : RowMg w B' A n xs:=⟨h.1,fun i x hi=>by
  obtain ⟨ad,e,h2,h3⟩:=h.2 i x hi
  exact ⟨ad,e,by omega,h3⟩⟩
theorem OwnMg.row (h : OwnMg w base A n c xs) : RowMg w w.heap.size A n xs:=⟨h.1,fun i x hi=>by
  have h0 : (mgsL xs)[i * 16 + 0]? = some (.int .i64 x.m.kind):=mgsL_at xs i x hi 0 _ rfl;obtain ⟨ad,hA,hb,_⟩:=h.raw _ _ h0;refine ⟨ad,hA,hb,fun j v hv=>?_⟩;obtain ⟨ad',hA',_,hc⟩:=h.raw _ _ (mgsL_at xs i x hi j v hv)
  obtain rfl : ad = ad':=by rw [hA] at hA';injection hA'
  rw [add_add]
  exact hc⟩
end
theorem MgOwn.grownMg {w w' : World} {base b2 n c : Nat} {x : MgV} {A : Option Addr} {xs : List MgV} (h : MgOwn w base x) (o : OwnMg w b2 A n c xs) (hg : w.grownBy w' (A.map (·.block))) : MgOwn w' base x :=
  ⟨h.u,h.wu,h.more.grown hg (own2_ne h.more.2 o.2 (by decide)),⟨h.ev.1,ownsRow_keep h.ev.2 fun k hk=>hg.block k (ownsRow_lt h.ev.2 hk) (fun e=>by
    rcases own2_ne h.ev.2 o.2 (by decide) with q | q
    · rw [hk] at q;cases q
    · exact q (hk.trans e))⟩,fun y hy=>⟨(h.eo y hy).1,(h.eo y hy).2.1.grown hg (own2_ne (h.eo y hy).2.1.2 o.2 (by decide)),(h.eo y hy).2.2⟩,h.es,h.mem.grown hg (own2_ne h.mem.2 o.2 (by decide))⟩
theorem wpList_appMg {w : World} {ops : Array Oper} {rest : List Oper} {o : Oper} {a : Act} {Q : Exit→Act→World→Prop} (hgd : o.guard = none) (s x : Operand)
    (ho : o.op = .call { callee:=.builtin .append,args:=#[s,x],argTypes:=#[52,52] })
    {base : Nat} {A : Option Addr} {n c : Nat} {bs : List MgV} (hs : a.eval s = .slice A n c) (hown : OwnMg w base A n c bs)
    {B : Nat} {D : Option Addr} {m d : Nat} {news : List MgV} (hx : a.eval x = .slice D m d) (hr : Rd w B D (mgsL news)) (hm : m = news.length)
    (hbytes : n + m≤700000000000) (hbase : base≤w.heap.size)
    (h : ∀ A' c' w',OwnMg w' base A' (n + m) c' (bs ++ news)→w.grownBy w' (A.map (·.block))→Moved A' (A.map (·.block)) w.heap.size→Below base w w' →
      wpList Try.prog ops Q rest (a.put o.dst (.slice A' (n + m) c')) w') : wpList Try.prog ops Q (o :: rest) a w:=by
  obtain ⟨i0,hi,hz0,hz1,hz2⟩:=info_parts infoMg
  have hob : (Value.slice A n c).ownBlock = A.map (·.block):=by cases A <;> rfl
  refine wpList_app w hgd s x 52 ho base 27 i0 (.agg ZM) 16 176 Try.underlying52 hi hz0 hz1 hz2 rfl (by decide) _ _ _ hs hown.2 B D m d (mgsL news) hx hr (by rw [mgsL_len,hm]) (mgsL_one _) (by unfold maxLen;omega) (by omega) hbase ?_;intro A' c' w' h1 h2 h3;rw [hob] at h2 h3;exact h A' c' w' ⟨by rw [List.length_append,hown.1,hm],by rw [mgsL_app];exact h1⟩ h2 h3 ((Below.refl _ _).grown h2 hbase (fun g hg=>(hown.lt g hg).1))
theorem buildMg1 (x : MgV) (w : World) : (Instr.buildSlice 52 1 #[(0,.agg x.cs)]).run Try.prog w = .ok (.slice (some ⟨w.heap.size,0,none⟩) 1 1) (w.alloc (.cells x.cs 27)):=by
  obtain ⟨⟨kd,fr,tt,sq,nd,u,more,ev,mem⟩,A1,n1,c1,xs,A2,n2,c2,A3,n3,c3⟩:=x
  unfold MgV.cs mgc
  simp only
  generalize u.getD 0 0 = p0,u.getD 1 0 = p1,u.getD 2 0 = p2,u.getD 3 0 = p3,u.getD 4 0 = p4,u.getD 5 0 = p5,u.getD 6 0 = p6,u.getD 7 0 = p7
  kernel_rfl
theorem RowEv.drop {w : World} {B : Nat} {A A' : Option Addr} {n : Nat} {xs : List EvV} (h : RowEv w B A n xs) {k : Nat} (hA : k < n→A' = A.map (·.add (k * 14))) : RowEv w B A' (n - k) (xs.drop k):=⟨by rw [List.length_drop,h.1],fun i x hi=>by
  rw [List.getElem?_drop] at hi;have hlt : k + i < xs.length:=(List.getElem?_eq_some_iff.1 hi).1;have hn:=h.1;obtain ⟨h1,ad,e,h2,h3⟩:=h.2 (k + i) x hi;refine ⟨h1,ad.add (k * 14),by rw [hA (by omega),e];rfl,by rw [block_add];exact h2,fun j v hv=>?_⟩;rw [add_add ad,show k * 14 + i * 14 = (k + i) * 14 by omega]
  exact h3 j v hv⟩
end Go.Proofs.Ytcgalmnllegnbaa

namespace Go.Proofs.Ytcgalmnllegnbaa.Ms
set_option linter.unusedVariables false
set_option linter.unusedSimpArgs false
set_option maxRecDepth 100000
open Dot
open Evt (Ev rightE)
def Parts (m : Msg) (mtu : Nat) : List Ev→List (List Ev)→Prop
  | l,[]=>l = []
  | l,p :: ps=>l ≠ []∧p = l.take (fitN m mtu l)∧Parts m mtu (l.drop (fitN m mtu l)) ps
theorem Parts.one {m : Msg} {mtu : Nat} : ∀ {p q : List (List Ev)} {l : List Ev},Parts m mtu l p→Parts m mtu l q→p = q:=by
  intro p
  induction p with
  | nil =>
    intro q l h1 h2
    cases q with
    | nil=>rfl
    | cons y q=>exact absurd h1 h2.1
  | cons x p ih =>
    intro q l h1 h2
    cases q with
    | nil=>exact absurd h2 h1.1
    | cons y q=>rw [h1.2.1,h2.2.1,ih h1.2.2 h2.2.2]
theorem Parts.step {m : Msg} {mtu : Nat} {l r : List Ev} {done : List (List Ev)} (h : ∀ ps,Parts m mtu r ps→Parts m mtu l (done ++ ps)) (h0 : r ≠ []) : ∀ ps,Parts m mtu (r.drop (fitN m mtu r)) ps→Parts m mtu l (done ++ [r.take (fitN m mtu r)] ++ ps):=fun ps hp=>by
  rw [List.append_assoc];exact h _ ⟨h0,rfl,hp⟩
theorem Parts.spec {m : Msg} (hd : delta m) {mtu : Nat} (hm : 512≤mtu) : ∀ {ps : List (List Ev)} {l : List Ev},(∀ x ∈ l,x.p.length = 7∧rightE x = true)→Parts m mtu l ps →
    ps.flatten = l∧∀ i p,ps[i]? = some p→p ≠ []∧fits m mtu p = true∧∀ q,ps[i + 1]? = some q→∃ h t,q = h :: t∧fits m mtu (p ++ [h]) = false∧(p ++ [h]).length≤l.length∧∀ x ∈ p ++ [h],x ∈ l:=by
  intro ps
  induction ps with
  | nil =>
    intro l _ h;refine ⟨(by rw [show l = [] from h];rfl),fun i p hi=>by simp at hi⟩
  | cons p ps ih =>
    intro l hl h;obtain ⟨h0,hp,hr⟩:=h;have hn:=fitN_pos hd hm hl h0;have hle:=fitN_le m mtu l;obtain ⟨s1,s2⟩:=fitN_spec m mtu l;obtain ⟨i1,i2⟩:=ih (fun x hx=>hl x (List.mem_of_mem_drop hx)) hr;refine ⟨by rw [List.flatten_cons,i1,hp,List.take_append_drop],fun i q hi=>?_⟩
    cases i with
    | zero =>
      rw [List.getElem?_cons_zero] at hi
      injection hi with hi
      subst hi;refine ⟨fun e=>?_,?_,fun q hq=>?_⟩
      · rw [hp] at e
        have:=congrArg List.length e
        rw [List.length_take,List.length_nil] at this;have hl0 : 0 < l.length:=List.length_pos_iff.2 h0
        omega
      · have:=s1 (fitN m mtu l - 1) (by omega)
        rwa [Nat.sub_add_cancel hn,← hp] at this
      · rw [List.getElem?_cons_succ] at hq
        cases ps with
        | nil=>simp at hq
        | cons q' ps =>
          simp at hq
          subst hq;obtain ⟨r0,rq,_⟩:=hr;have hn2:=fitN_pos hd hm (fun x hx=>hl x (List.mem_of_mem_drop hx)) r0
          have hlt : fitN m mtu l < l.length:=by
            rcases Nat.lt_or_ge (fitN m mtu l) l.length with q | q
            · exact q
            · exact absurd (List.drop_eq_nil_of_le q) r0
          have hdr : l.drop (fitN m mtu l) = l[fitN m mtu l] :: l.drop (fitN m mtu l + 1):=List.drop_eq_getElem_cons hlt
          generalize hk : fitN m mtu (l.drop (fitN m mtu l)) = k at *
          obtain ⟨k,rfl⟩ : ∃ k',k = k' + 1:=⟨k - 1,by omega⟩
          have hph : p ++ [l[fitN m mtu l]] = l.take (fitN m mtu l + 1):=by rw [hp];exact (List.take_succ_eq_append_getElem hlt).symm
          refine ⟨l[fitN m mtu l],(l.drop (fitN m mtu l + 1)).take k,by rw [rq,hdr,List.take_succ_cons],?_,?_,fun x hx=>?_⟩
          · rw [hph];exact s2 hlt
          · rw [hph,List.length_take];omega
          · rw [hph] at hx;exact List.mem_of_mem_take hx
    | succ i =>
      rw [List.getElem?_cons_succ] at hi;obtain ⟨a,b,c⟩:=i2 i q hi;refine ⟨a,b,fun y hy=>?_⟩;rw [List.getElem?_cons_succ] at hy;obtain ⟨h,t,e1,e2,e3,e4⟩:=c y hy;refine ⟨h,t,e1,e2,?_,fun x hx=>List.mem_of_mem_drop (e4 x hx)⟩;rw [List.length_drop] at e3
      omega
end Go.Proofs.Ytcgalmnllegnbaa.Ms

namespace Go.Proofs.Ytcgalmnllegnbaa
set_option linter.unusedVariables false
set_option linter.unusedSimpArgs false
set_option maxRecDepth 100000
open Go.RowKit
open Dot Evt
open Ms (Mem)
theorem run_slE (A : Option Addr) (n c k : Nat) (hk : k≤n) (w : World) : (Instr.sliceAt 24 (.slice A n c) (some (.int .i64 (k : Nat))) none none).run Try.prog w = .ok (.slice (if c = k then A else A.map (·.add (k * 14))) (n - k) (c - k)) w:=by
  have h1 : (0 : Int)≤(k : Int):=by omega
  have h2 : (k : Int)≤(n : Int):=by omega
  obtain ⟨i0,hi,_,hz1,_⟩:=info_parts infoEv
  simp [Instr.sliceAt,Instr.slice,Instr.sliceBounds,Instr.sliceBound,Sem.run_bind,run_underlying Try.underlying24,sizeOf,typeInfo,hi,hz1,go_sem,hk]
theorem wpList_slE {ops : Array Oper} {rest : List Oper} {d : Option Tmp} {ty : TypeId} {pos : String} {aft : Array Edge} {x y : Operand} {A : Option Addr} {n c k : Nat} {a : Act} {w : World} {Q : Exit→Act→World→Prop} (hk : k≤n)
    (h : wpList Try.prog ops Q rest (a.put d (.slice (if c = k then A else A.map (·.add (k * 14))) (n - k) (c - k))) w) (hx : a.eval x = .slice A n c) (hy : a.eval y = .int .i64 (k : Nat)) : wpList Try.prog ops Q (⟨d,.slice 24 x (some y) none none,ty,pos,aft,none⟩ :: rest) a w:=by
  refine wpList_plain rfl fun K hK=>?_
  unfold Oper.wp execOp
  simp only [hx,hy,Option.map_some,Option.map_none,Sem.run_bind,run_slE A n c k hk,Sem.run_pure,Result.andThen_ok]
  exact hK _ _ h
def sliceLen : Value→Nat
  | .slice _ n _=>n
  | _=>0
theorem Blk.rdMg {w : World} {g : Nat} {T : TypeId} {cs : Array Value} (h : Blk w g T cs) : Rd w (g + 1) (some ⟨g,0,none⟩) cs.toList:=fun j u hu=>⟨_,rfl,Nat.lt_succ_self _,by rw [add_mk,Nat.zero_add,h.cell,← hu];exact (Array.getElem?_toList ..).symm⟩
def yJ (x : MgV) (j : Nat) (AE : Option Addr) (cE : Nat) : MgV:=⟨Ms.evs x.m ((x.xs.drop j).map (·.e)),x.A1,x.n1,x.c1,x.xs.drop j,AE,x.n2 - j,cE,x.A3,x.n3,x.c3⟩
theorem DlIn.right {w : World} {x : MgV} (h : DlIn w x) : Ms.rightM x.m = true:=by
  have:=Ms.delta_right h.d x.m.ev (fun e he=>(h.r e he).2) (by rw [h.ok.ok.es,List.length_map,← h.ok.ok.ev.1];exact h.n768)
  exact this
theorem DlIn.part {w : World} {x : MgV} (h : DlIn w x) {j : Nat} {AE : Option Addr} {cE : Nat} (he : RowEv w w.heap.size AE (x.n2 - j) (x.xs.drop j)) (h1 : x.n2 - j≤cE) (h2 : cE≤maxLen) : DlIn w (yJ x j AE cE):=by
  refine ⟨⟨⟨h.ok.ok.u,h.ok.ok.more,he,rfl,h.ok.ok.mem⟩,h.ok.wu,by show x.n2 - j≤_;have:=h.ok.b2;omega,h.ok.b3⟩,delta_again h.d _,fun e hx=>?_,by show x.n2 - j≤768;have:=h.n768;omega,h1,h2,h.b1,h.b3,fun y hy=>h.hm y (List.mem_of_mem_drop hy)⟩;have hx : e ∈ (x.xs.drop j).map (·.e):=hx;refine h.r e ?_;rw [h.ok.ok.es];rw [List.map_drop] at hx;exact List.mem_of_mem_drop hx
structure SplS (w0 : World) (g : Nat) (x : MgV) (j : Nat) (AE : Option Addr) (cE : Nat) (AO : Option Addr) (cO : Nat) (zs : List MgV) (w : World) : Prop where
  kb : Blk w g 27 (yJ x j AE cE).cs
  gb : Below w0.heap.size w0 w
  hg : w0.heap.size≤g
  le : j≤x.n2
  ev : RowEv w w0.heap.size AE (x.n2 - j) (x.xs.drop j)
  c1 : x.n2 - j≤cE
  c2 : cE≤maxLen
  oO : OwnMg w (g + 1) AO zs.length cO zs
  oz : ∀ z ∈ zs,MgOwn w (g + 1) z
section
variable {w0 w w' w2 : World} {g : Nat} {x : MgV} {j : Nat} {AE AO A' : Option Addr} {cE cO c' : Nat} {zs : List MgV} {z : MgV}
theorem SplS.below (h : SplS w0 g x j AE cE AO cO zs w) (hb : Below w.heap.size w w') : SplS w0 g x j AE cE AO cO zs w' :=
  ⟨h.kb.below hb h.kb.lt,h.gb.trans (hb.mono h.gb.size),h.hg,h.le,h.ev.below (hb.mono h.gb.size),h.c1,h.c2,h.oO.below hb (Nat.le_refl _),fun z hz=>(h.oz z hz).below hb⟩
theorem SplS.app (h : SplS w0 g x j AE cE AO cO zs w) (hz : MgOwn w (g + 1) z) (ho : OwnMg w2 (g + 1) A' (zs.length + 1) c' (zs ++ [z])) (hg : w.grownBy w2 (AO.map (·.block))) (hB : Below (g + 1) w w2) : SplS w0 g x j AE cE A' c' (zs ++ [z]) w2:=by
  have hgg:=h.hg
  have hne : ∀ k,AO.map (·.block) = some k→g + 1≤k:=fun k hk=>(h.oO.lt k hk).1
  refine ⟨h.kb.grown hg (fun e=>by have:=hne g e;omega),h.gb.trans (hB.mono (by omega)),h.hg,h.le,h.ev.below (hB.mono (by omega)),h.c1,h.c2,by rw [List.length_append];exact ho,fun y hy=>?_⟩
  rcases List.mem_append.1 hy with q | q
  · exact (h.oz y q).grownMg h.oO hg
  · rw [List.mem_singleton.1 q];exact hz.grownMg h.oO hg
theorem SplS.dl (h : SplS w0 g x j AE cE AO cO zs w) (hd : DlIn w0 x) : DlIn w (yJ x j AE cE):=(hd.below h.gb).part (h.ev.more h.gb.size) h.c1 h.c2
theorem SplS.next (h : SplS w0 g x j AE cE AO cO zs w) {k : Nat} (hk : j + k≤x.n2) : SplS w0 g x (j + k) (if cE = k then AE else AE.map (·.add (k * 14))) (cE - k) AO cO zs (w.setCell ⟨g,14,none⟩ (.slice (if cE = k then AE else AE.map (·.add (k * 14))) (x.n2 - j - k) (cE - k))):=by
  have hgg:=h.hg;have hc1:=h.c1;have k2:=h.kb.set_ 14 (.slice (if cE = k then AE else AE.map (·.add (k * 14))) (x.n2 - j - k) (cE - k))
  have e : (yJ x j AE cE).cs.setIfInBounds 14 (.slice (if cE = k then AE else AE.map (·.add (k * 14))) (x.n2 - j - k) (cE - k)) = (yJ x (j + k) (if cE = k then AE else AE.map (·.add (k * 14))) (cE - k)).cs:=by
    rw [show x.n2 - j - k = x.n2 - (j + k) by omega]
    rfl
  rw [e] at k2;have hd:=h.ev.drop (A':=if cE = k then AE else AE.map (·.add (k * 14))) (k:=k) (fun hlt=>by rw [if_neg (by omega)]);rw [List.drop_drop,show x.n2 - j - k = x.n2 - (j + k) by omega] at hd;refine ⟨k2,h.gb.setCell (p:=⟨g,14,none⟩) hgg _,h.hg,hk,hd.below ((Below.refl _ _).setCell (p:=⟨g,14,none⟩) hgg _),by omega,by have:=h.c2;omega,h.oO.far (p:=⟨g,14,none⟩) (by show g < g + 1;omega) _,fun z hz=>(h.oz z hz).far (p:=⟨g,14,none⟩) (by show g < g + 1;omega) _⟩
end
def SplEnd (w0 : World) (x : MgV) (mtu : Nat) (A : Option Addr) (c : Nat) (zs : List MgV) (w' : World) : Prop :=
  OwnMg w' w0.heap.size A zs.length c zs∧(∀ z ∈ zs,MgOwn w' w0.heap.size z)∧(∃ ps,zs.map (·.m) = ps.map (Ms.evs x.m)∧Ms.Parts x.m mtu x.m.ev ps)∧Below w0.heap.size w0 w'
theorem fitM_ok {w : World} {x : MgV} (h : DlIn w x) {mtu : Nat} (h1 : 512≤mtu) (h2 : mtu≤4096) : Ms.fitM x.m (mtu : Int) = (Ms.fitN x.m mtu x.m.ev,0):=by
  unfold Ms.fitM
  rw [if_pos ⟨by omega,by omega,h.d.1,h.right⟩]
  rfl
set_option maxHeartbeats 4000000 in
theorem csplit_bad (x : MgV) (mtu : Int) (w0 : World) (h : MgC w0 x) (hf : Ms.fitM x.m mtu = (0,2)) :
    Calls Try.prog 22 #[.agg x.cs,.int .i64 mtu] w0 fun e w'=>e = .returned (.tuple #[.slice none 0 0,.int .i64 2])∧Below w0.heap.size w0 w':=by
  have hfit:=fun (w' : World) (hb : Below w0.heap.size w0 w')=>cfit_any x mtu w' (h.below hb)
  simp only [hf] at hfit
  obtain ⟨C,hC⟩ : ∃ C,C = x.cs:=⟨_,rfl⟩;rw [← hC] at hfit ⊢;have SC:=Lib.hid (show C.size = 16 by rw [hC];rfl);have HF:=Lib.hid hfit;clear hfit h hC hf
  go_enter Try.func22,Try.ntmps22
  go_upto_region 1 with fail
  refine nameW ?_;intro W hW;obtain ⟨g,hg⟩ : ∃ g,g = w0.heap.size:=⟨_,rfl⟩;rw [← hg]
  have kb : Blk W g 27 C:=by rw [hW,hg];exact Blk.new w0 _ _
  have gb : Below w0.heap.size w0 W:=by rw [hW];exact (Below.refl _ _).alloc (Nat.le_refl _) _
  clear hW hg
  go_wp2_with ((with_reducible refine wpList_ld rowMg kb SC.out ?_ ?_);rotate_left;(rfl))
  refine (HF.out W gb).mono ?_;rintro e w1 ⟨rfl,bb⟩;have gb:=gb.trans (bb.mono gb.size);go_wp2_with fail;go_ret2;exact ⟨rfl,gb⟩
set_option maxHeartbeats 8000000 in
theorem csplit_any (x : MgV) (mtu : Nat) (w0 : World) (h : DlIn w0 x) (hc : MgC w0 x) (h1 : 512≤mtu) (h2 : mtu≤4096) :
    Calls Try.prog 22 #[.agg x.cs,.int .i64 (mtu : Nat)] w0 fun e w'=>∃ A c zs,e = .returned (.tuple #[.slice A zs.length c,.int .i64 0])∧SplEnd w0 x mtu A c zs w':=by
  have hfit:=fun (w' : World) (hb : Below w0.heap.size w0 w')=>cfit_any x (mtu : Int) w' (hc.below hb)
  simp only [fitM_ok h h1 h2] at hfit
  have HD:=Lib.hid h;have hnc:=h.nc;have hcm:=h.cm;have hev:=h.ok.ok.ev;have HES:=Lib.hid h.ok.ok.es;have HLE:=Lib.hid h.ok.ok.ev.1;have h768:=h.n768
  have hpo : ∀ j,j < x.n2→0 < Ms.fitN x.m mtu ((x.xs.drop j).map (·.e)):=by
    intro j hj
    have hne : (x.xs.drop j).map (·.e) ≠ []:=by
      intro e
      have:=congrArg List.length e
      rw [List.length_map,List.length_drop,← h.ok.ok.ev.1,List.length_nil] at this
      omega
    have hrr : ∀ e ∈ (x.xs.drop j).map (·.e),e.p.length = 7∧rightE e = true:=by
      intro e he
      have he2 : e ∈ x.m.ev:=by rw [h.ok.ok.es];rw [List.map_drop] at he;exact List.mem_of_mem_drop he
      exact h.r e he2
    generalize (x.xs.drop j).map (·.e) = l at *
    exact Ms.fitN_pos h.d h1 hrr hne
  have HPO:=Lib.hid hpo;clear hpo;have HFL:=Lib.hid (fun (j : Nat)=>(by have:=Ms.fitN_le x.m mtu ((x.xs.drop j).map (·.e));rwa [List.length_map,List.length_drop,← h.ok.ok.ev.1] at this : Ms.fitN x.m mtu ((x.xs.drop j).map (·.e))≤x.n2 - j));obtain ⟨C,hC⟩ : ∃ C,C = x.cs:=⟨_,rfl⟩;rw [← hC] at hfit ⊢;have SC:=Lib.hid (show C.size = 16 by rw [hC];rfl);have HF:=Lib.hid hfit;have HC:=Lib.hid hC;have HMT:=Lib.hid (And.intro h1 h2);clear hfit hC h hc h1
  go_enter Try.func22,Try.ntmps22
  go_upto_region 1 with fail
  refine nameW ?_;intro W hW;obtain ⟨g,hg⟩ : ∃ g,g = w0.heap.size:=⟨_,rfl⟩;rw [← hg]
  have kb : Blk W g 27 C:=by rw [hW,hg];exact Blk.new w0 _ _
  have gb : Below w0.heap.size w0 W:=by rw [hW];exact (Below.refl _ _).alloc (Nat.le_refl _) _
  have hgg : w0.heap.size≤g:=by omega
  clear hW hg
  go_wp2_with ((with_reducible refine wpList_ld rowMg kb SC.out ?_ ?_);rotate_left;(rfl))
  refine (HF.out W gb).mono ?_;rintro e w1 ⟨rfl,bb⟩;have kb:=kb.below bb kb.lt;have gb:=gb.trans (bb.mono gb.size);rw [HC.out] at kb;have S : SplS w0 g x 0 x.A2 x.c2 none 0 [] w1:=⟨kb,gb,hgg,by omega,hev.below gb,hnc,hcm,OwnMg.nil _ _,fun z hz=>by simp at hz⟩
  have hfx : Ms.fitN x.m mtu x.m.ev = Ms.fitN x.m mtu ((x.xs.drop 0).map (·.e)):=by rw [List.drop_zero,← HES.out]
  rw [hfx];clear bb kb gb hev HF hnc hcm hfx;go_wp2_with fail
  go_loopw [4,6] (fun s i wr=>∃ (j : Nat) (AE AO : Option Addr) (cE cO : Nat) (zs : List MgV),s = .slice AO zs.length cO∧i = .int .i64 (Ms.fitN x.m mtu ((x.xs.drop j).map (·.e)) : Nat)∧(∃ done,zs.map (·.m) = done.map (Ms.evs x.m)∧∀ ps,Ms.Parts x.m mtu ((x.xs.drop j).map (·.e)) ps→Ms.Parts x.m mtu x.m.ev (done ++ ps))∧zs.length≤j∧SplS w0 g x j AE cE AO cO zs wr) (fun s _ _=>x.n2 - sliceLen s)
  case atStart=>exact ⟨0,x.A2,none,x.c2,0,[],rfl,rfl,⟨[],rfl,fun ps hp=>by rw [List.drop_zero,← HES.out] at hp;exact hp⟩,by simp,S⟩
  case round =>
  clear S;obtain ⟨j,AE,AO,cE,cO,zs,rfl,rfl,⟨done,hz,hd⟩,hzj,S⟩:=hrel;obtain ⟨rn,hrn⟩ : ∃ rn,rn = x.n2 - j:=⟨_,rfl⟩
  have c14 : wr.cell? ⟨g,14,none⟩ = some (.slice AE rn cE):=by rw [hrn];exact S.kb.cell 14
  obtain ⟨nf,hnf⟩ : ∃ nf,nf = Ms.fitN x.m mtu ((x.xs.drop j).map (·.e)):=⟨_,rfl⟩;rw [← hnf]
  have hn0 : 0 < rn→0 < nf:=fun h=>by rw [hnf];exact HPO.out j (by omega)
  have hnl : nf≤rn:=by rw [hnf,hrn];exact HFL.out j
  have hjl:=S.le;have hnc:=S.c1;have hcm:=S.c2
  unfold maxLen at hcm
  rw [← hrn] at hnc;have HRN:=Lib.hid hrn;have HNF:=Lib.hid hnf;have HDN:=Lib.hid (And.intro hz hd);have HS:=Lib.hid S
  have hrj : rn≤x.n2 - j:=by omega
  clear hnf hrn hz hd S
  by_cases hlt : 0 < rn
  · have hr0 : (0 : Int) < (rn : Int):=by omega
    have hf0 : (0 : Int) < (nf : Int):=by have:=hn0 hlt;omega
    obtain ⟨CY,hCY⟩ : ∃ CY,CY = (yJ x j AE cE).cs:=⟨_,rfl⟩;have HCY:=Lib.hid hCY;have SY:=Lib.hid (show CY.size = 16 by rw [hCY];rfl)
    have HWT:=Lib.hid fun (w : World) (hb : Below wr.heap.size wr w)=>(by
      have hS:=HS.out.below hb;have hdl:=hS.dl HD.out
      have:=with_any (yJ x j AE cE) AE nf cE ((x.xs.drop j).take nf) w hdl.ok (by have:=hdl.ok.ok.ev.take (k:=nf) (by show nf≤x.n2 - j;omega);exact this) (by omega) hdl.b1 (fun y hy=>hdl.hm y (List.mem_of_mem_take hy)) hdl.b3
      rw [← hCY] at this
      exact this.mono (fun e w' ⟨z,e1,e2,e3,e4⟩=>⟨z,e1,e2,e3.mono (show g + 1≤w.heap.size from hS.kb.lt),e4⟩) : Calls Try.prog 62 #[.agg CY,.slice AE nf cE] w fun e w'=>∃ z : MgV,e = .returned (.agg z.cs)∧z.m = Ms.evs x.m (((x.xs.drop j).take nf).map (·.e))∧MgOwn w' (g + 1) z∧Below w.heap.size w w')
    have kb0:=HS.out.kb;rw [← hCY] at kb0;have hlg : g < wr.heap.size:=kb0.lt;clear hCY
    go_upto_region 5 with fail
    refine wp_region_tailF 7 8 (fun L v w=>v 2 = .pointer (some ⟨g,0,none⟩)∧v 4 = .slice AO zs.length cO∧v 6 = .int .i64 (nf : Nat)∧Below wr.heap.size wr w∧(L 0 = true→v 24 = .slice AO zs.length cO)∧(L 1 = true→v 25 = .agg CY)∧(L 2 = true→v 26 = .pointer (some ⟨g,14,none⟩))∧(L 3 = true→v 27 = .slice AE rn cE)∧(L 4 = true→v 28 = .int .i64 (nf : Nat))∧(L 5 = true→v 29 = .slice AE nf cE)∧(L 6 = true→(∃ z : MgV,v 30 = .agg z.cs∧z.m = Ms.evs x.m (((x.xs.drop j).take nf).map (·.e))∧MgOwn w (g + 1) z))∧(L 7 = true→(∃ (z : MgV) (gB : Nat),v 31 = .slice (some ⟨gB,0,none⟩) 1 1∧z.m = Ms.evs x.m (((x.xs.drop j).take nf).map (·.e))∧MgOwn w (g + 1) z∧Blk w gB 27 z.cs))) [24,25,26,27,28,29,30,31] (by kernel_rfl) (by kernel_rfl) (by kernel_rfl) (by kernel_rfl) (by kernel_rfl) (by kernel_rfl) ?h0 ?hst ?hend
    case h0 =>
      intro L h0;have h0 : ∀ i,i < 8→L i = false:=h0;exact ⟨rfl,rfl,rfl,(Below.refl _ _).drew,offF h0 (i:=0) (by decide),offF h0 (i:=1) (by decide),offF h0 (i:=2) (by decide),offF h0 (i:=3) (by decide),offF h0 (i:=4) (by decide),offF h0 (i:=5) (by decide),offF h0 (i:=6) (by decide),offF h0 (i:=7) (by decide)⟩
    case hst =>
      show FactSteps _ _ _ _ [0,1,2,3,4,5,6,7]
      refine @FactSteps.cons _ _ _ _ 0 _ [] _ rfl (by kernel_rfl) ?s0 ?_;rotate_left;refine @FactSteps.cons _ _ _ _ 1 _ [] _ rfl (by kernel_rfl) ?s1 ?_;rotate_left;refine @FactSteps.cons _ _ _ _ 2 _ [] _ rfl (by kernel_rfl) ?s2 ?_;rotate_left;refine @FactSteps.cons _ _ _ _ 3 _ [2] _ rfl (by kernel_rfl) ?s3 ?_;rotate_left;refine @FactSteps.cons _ _ _ _ 4 _ [] _ rfl (by kernel_rfl) ?s4 ?_;rotate_left;refine @FactSteps.cons _ _ _ _ 5 _ [3,4] _ rfl (by kernel_rfl) ?s5 ?_;rotate_left;refine @FactSteps.cons _ _ _ _ 6 _ [1,5] _ rfl (by kernel_rfl) ?s6 ?_;rotate_left;refine @FactSteps.cons _ _ _ _ 7 _ [6] _ rfl (by kernel_rfl) ?s7 ?_;rotate_left;exact FactSteps.nil
      case s0 =>
        rintro L a v w hv hg hL hd hcl ⟨e2,e4,e6,hb,f0,f1,f2,f3,f4,f5,f6,f7⟩ K hK;refine step_do rfl ?_;clear hv;go_simp;exact hK.out _ _ ⟨e2,e4,e6,hb,fun _=>rfl,f1,f2,f3,f4,f5,f6,f7⟩
      case s1 =>
        rintro L a v w hv hg hL hd hcl ⟨e2,e4,e6,hb,f0,f1,f2,f3,f4,f5,f6,f7⟩ K hK;refine step_do rfl ?_;refine wp_ld rowMg (.tmp 2) rfl ((hv 2).trans e2) (kb0.below hb kb0.lt) SY.out ?_;exact hK.out _ _ ⟨e2,e4,e6,hb,f0,fun _=>rfl,f2,f3,f4,f5,f6,f7⟩
      case s2 =>
        rintro L a v w hv hg hL hd hcl ⟨e2,e4,e6,hb,f0,f1,f2,f3,f4,f5,f6,f7⟩ K hK;refine step_do rfl ?_;clear hv;go_simp;exact hK.out _ _ ⟨e2,e4,e6,hb,f0,f1,fun _=>rfl,f3,f4,f5,f6,f7⟩
      case s3 =>
        rintro L a v w hv hg hL hd hcl ⟨e2,e4,e6,hb,f0,f1,f2,f3,f4,f5,f6,f7⟩ K hK;have g2:=f2 (hd 2 (by decide));have cs : w.cell? ⟨g,14,none⟩ = some (.slice AE rn cE):=(hb.cell (p:=⟨g,14,none⟩) hlg).trans c14;refine step_do rfl ?_;clear hv;go_simp;exact hK.out _ _ ⟨e2,e4,e6,hb,f0,f1,f2,fun _=>rfl,f4,f5,f6,f7⟩
      case s4 =>
        rintro L a v w hv hg hL hd hcl ⟨e2,e4,e6,hb,f0,f1,f2,f3,f4,f5,f6,f7⟩ K hK;refine step_do rfl ?_;clear hv;go_simp;exact hK.out _ _ ⟨e2,e4,e6,hb,f0,f1,f2,f3,fun _=>rfl,f5,f6,f7⟩
      case s5 =>
        rintro L a v w hv hg hL hd hcl ⟨e2,e4,e6,hb,f0,f1,f2,f3,f4,f5,f6,f7⟩ K hK;have g3:=f3 (hd 3 (by decide));have g4:=f4 (hd 4 (by decide));have g3:=f3 (hd 3 (by decide));have g4:=f4 (hd 4 (by decide))
        have p0 : (0 : Int)≤(nf : Int):=by omega
        have p3 : (nf : Int)≤(cE : Int):=by omega
        have p4 : nf≤cE:=by omega
        refine step_do rfl ?_;clear hv;go_simp;exact hK.out _ _ ⟨e2,e4,e6,hb,f0,f1,f2,f3,f4,fun _=>rfl,f6,f7⟩
      case s6 =>
        rintro L a v w hv hg hL hd hcl ⟨e2,e4,e6,hb,f0,f1,f2,f3,f4,f5,f6,f7⟩ K hK;have g1:=f1 (hd 1 (by decide));have g5:=f5 (hd 5 (by decide));have hwt:=HWT.out w hb;refine step_do rfl ?_;clear hv;go_simp;refine hwt.mono ?_;rintro e wy ⟨z,rfl,hz,oz,bb⟩;exact hK.out _ _ ⟨e2,e4,e6,(hb.trans (bb.mono hb.size)),f0,f1,f2,f3,f4,f5,fun _=>⟨z,rfl,hz,oz⟩,(fun h=>(by obtain ⟨z,gB,e,hz,o,k⟩:=f7 h;exact ⟨z,gB,e,hz,o.below bb,k.below bb k.lt⟩))⟩
      case s7 =>
        rintro L a v w hv hg hL hd hcl ⟨e2,e4,e6,hb,f0,f1,f2,f3,f4,f5,f6,f7⟩ K hK;obtain ⟨z,q6,hz,oz⟩:=f6 (hd 6 (by decide));have q6:=(hv 30).trans q6;have bb : Below w.heap.size w (w.alloc (.cells z.cs 27)):=(Below.refl _ _).alloc (Nat.le_refl _) _;refine step_do rfl ?_;refine step_bs (v:=.slice (some ⟨w.heap.size,0,none⟩) 1 1) (w':=w.alloc (.cells z.cs 27)) 52 1 #[(0,.tmp 30)] rfl (by simp only [List.map_toArray,List.map_cons,List.map_nil,q6];exact buildMg1 z w) ?_;exact hK.out _ _ ⟨e2,e4,e6,(hb.trans (bb.mono hb.size)),f0,f1,f2,f3,f4,f5,(fun h=>(by obtain ⟨z,e,hz,o⟩:=f6 h;exact ⟨z,e,hz,o.below bb⟩)),fun _=>⟨z,w.heap.size,rfl,hz,oz.below bb,Blk.new w _ _⟩⟩
    case hend =>
    rintro L v w5 hall ⟨e2,e4,e6,hb,f0,f1,f2,f3,f4,f5,f6,f7⟩;have hL : ∀ i,i < 8→L i = true:=hall;have f0:=f0 (hL 0 (by decide));have f1:=f1 (hL 1 (by decide));have f2:=f2 (hL 2 (by decide));have f3:=f3 (hL 3 (by decide));have f4:=f4 (hL 4 (by decide));have f5:=f5 (hL 5 (by decide));have f6:=f6 (hL 6 (by decide));have f7:=f7 (hL 7 (by decide));obtain ⟨z,gB,q7,hz,oz,kz⟩:=f7;obtain ⟨z6,q6,_⟩:=f6
    simp only [finA,List.foldl_cons,List.foldl_nil,Act.put,List.setIfInBounds_toArray,List.set_cons_succ,List.set_cons_zero,f0,f1,f2,f3,f4,f5,q6,q7]
    have S5:=HS.out.below hb;clear e2 e4 e6 f0 f1 f2 f3 f4 f5 hL hall hb
    show wpList _ _ _ [_,_] _ _
    have HO:=Lib.hid S5.oO;have HR7:=Lib.hid kz.rdMg;have hlb:=kz.lt;have hg5 : g + 1≤w5.heap.size:=S5.kb.lt
    have hz9 : zs.length≤768:=by omega
    have HZ:=Lib.hid (And.intro hz oz);have HS5:=Lib.hid S5;have kb5:=S5.kb;rw [← HCY.out] at kb5;clear hz oz S5 kz HWT c14 kb0 q6 q7
    go_upto_region 6 with (at_builtin;refine wpList_appMg rfl (.tmp 24) (.tmp 31) rfl rfl HO.out rfl (news:=[z]) (B:=gB + 1) ?hd1 rfl ?hd2 ?hd3 ?_)
    case hd1=>rw [show mgsL [z] = z.cs.toList by simp [mgsL]];exact HR7.out
    case hd2=>omega
    case hd3=>exact hg5
    intro A9 c9 w9 o9 g9 m9 b9;have S9:=HS5.out.app HZ.out.2 o9 g9 b9
    have c14 : w9.cell? ⟨g,14,none⟩ = some (.slice AE rn cE):=by rw [HRN.out];exact S9.kb.cell 14
    have f14:=S9.kb.free 14;have hlg9:=S9.kb.lt;obtain ⟨A10,hA10⟩ : ∃ A10,A10 = (if cE = nf then AE else AE.map (·.add (nf * 14))):=⟨_,rfl⟩;have S10:=S9.next (k:=nf) (by omega);rw [← hA10,← HRN.out] at S10;have HA:=Lib.hid hA10;have HS10:=Lib.hid S10;clear o9 g9 m9 b9 S9 S10 HS5 HO HR7 hA10 kb5
    go_upto_region 7 with ((with_reducible refine wpList_slE (A:=AE) (n:=rn) (c:=cE) (k:=nf) hnl ?_ ?_ ?_);rotate_left;(rfl);(rfl);rw [← HA.out])
    have HL9:=Lib.hid (show zs.length≤j∧j < x.n2 by omega);obtain ⟨w10,hw10⟩ : ∃ w10,w10 = w9.setCell ⟨g,14,none⟩ (.slice A10 (rn - nf) (cE - nf)):=⟨_,rfl⟩;have S10:=HS10.out;rw [← hw10] at S10 ⊢;have hfit:=fit_any (yJ x (j + nf) A10 (cE - nf)) mtu w10 (S10.dl HD.out) HMT.out.2;have kb10:=S10.kb;obtain ⟨C10,hC10⟩ : ∃ C10,C10 = (yJ x (j + nf) A10 (cE - nf)).cs:=⟨_,rfl⟩;have S10C:=Lib.hid (show C10.size = 16 by rw [hC10];rfl);rw [← hC10] at hfit kb10
    have hfit : Calls Try.prog 63 #[.agg C10,.int .i64 (mtu : Nat)] w10 fun e w'=>e = .returned (.int .i64 (Ms.fitN x.m mtu ((x.xs.drop (j + nf)).map (·.e)) : Nat))∧Below w10.heap.size w10 w':=hfit
    obtain ⟨nf2,hnf2⟩ : ∃ nf2,nf2 = Ms.fitN x.m mtu ((x.xs.drop (j + nf)).map (·.e)):=⟨_,rfl⟩;rw [← hnf2] at hfit;have HFIT:=Lib.hid hfit;have HN2:=Lib.hid hnf2;have HS11:=Lib.hid S10;clear hfit hC10 hw10 S10 HS10 hnf2 HA c14 f14 hlg9
    go_wp2_with ((with_reducible refine wpList_ld rowMg kb10 S10C.out ?_ ?_);rotate_left;(rfl))
    refine HFIT.out.mono ?_;rintro e w11 ⟨rfl,b11⟩;have S11:=HS11.out.below b11;have HS12:=Lib.hid S11;clear b11 S11 HS11 HFIT kb10;go_wp2_with fail
    go_roundw
    case rel =>
      refine ⟨j + nf,A10,A9,cE - nf,c9,zs ++ [z],by rw [List.length_append];rfl,by rw [HN2.out],⟨done ++ [((x.xs.drop j).take nf).map (·.e)],by rw [List.map_append,List.map_append,HDN.out.1,List.map_cons,List.map_nil,List.map_cons,List.map_nil,HZ.out.1],fun ps hp=>?_⟩,by rw [List.length_append];have:=HL9.out;have:=hn0 hlt;simp;omega,HS12.out⟩
      have:=Ms.Parts.step HDN.out.2 (fun e=>by
        have e:=congrArg List.length e;rw [List.length_map,List.length_drop,← HLE.out] at e
        have:=HL9.out
        simp at e
        omega) ps (by rw [← HNF.out,← List.map_drop,List.drop_drop];exact hp)
      rw [← HNF.out,← List.map_take] at this;exact this
    case measure=>simp [sliceLen];have:=HL9.out;omega
  obtain rfl : rn = 0:=by omega
  have hr0 : ¬ (0 : Int) < ((0 : Nat) : Int):=by omega
  have hxd : x.xs.drop j = []:=List.drop_eq_nil_of_le (by rw [← HLE.out];have:=HRN.out;omega);have hfin:=HDN.out.2 [] (by rw [hxd];rfl);rw [List.append_nil] at hfin;have HFIN:=Lib.hid hfin;clear hfin hxd hnl hn0 hrj;go_wp2_with fail;go_ret2;have hgg:=HS.out.hg;exact ⟨AO,cO,zs,rfl,HS.out.oO.mono (by omega),fun z hz=>(HS.out.oz z hz).mono (by omega),⟨done,HDN.out.1,HFIN.out⟩,HS.out.gb⟩
end Go.Proofs.Ytcgalmnllegnbaa

namespace Go.Proofs.Ytcgalmnllegnbaa
set_option linter.unusedVariables false
set_option linter.unusedSimpArgs false
set_option maxRecDepth 100000
open Go.RowKit
open Dot Evt
open Ms (Mem)
structure MgSm (w : World) (x : MgV) : Prop where
  ok : MgIn w x
  b1 : x.n1≤1000000
  b3 : x.n3≤1000000
  hm : ∀ z ∈ x.xs,z.m≤1000000
theorem MgSm.below {w w' : World} {x : MgV} (h : MgSm w x) (hb : Below w.heap.size w w') : MgSm w' x:=⟨h.ok.below hb,h.b1,h.b3,h.hm⟩
set_option maxHeartbeats 2000000 in
theorem great21_any (x : MgV) (w : World) (h : MgIn w x) : Calls Try.prog 21 #[.agg x.cs] w fun e w'=>(∃ G,e = .returned (.bool G)∧(G = false→x.n1≤1000∧x.n3≤1000∧evSum x.xs≤3000∧x.n2≤120))∧Below w.heap.size w w':=by
  have HGR:=Lib.hid fun (w' : World) (hb : Below w.heap.size w w')=>rgreat17_any x w' (h.below hb)
  have HAT:=Lib.hid (mgv_at x);clear h;obtain ⟨C,hC⟩ : ∃ C,C = x.cs:=⟨_,rfl⟩;rw [← hC] at HGR HAT ⊢;have SC:=Lib.hid (show C.size = 16 by rw [hC];rfl);clear hC
  go_enter Try.func21,Try.ntmps21
  go_upto_region 1 with fail
  refine nameW ?_;intro W hW;obtain ⟨g,hg⟩ : ∃ g,g = w.heap.size:=⟨_,rfl⟩;rw [← hg]
  have kb : Blk W g 27 C:=by rw [hW,hg];exact Blk.new w _ _
  have gb : Below w.heap.size w W:=by rw [hW];exact (Below.refl _ _).alloc (Nat.le_refl _) _
  clear hW hg
  go_wp2_with ((with_reducible refine wpList_ld rowMg kb SC.out ?_ ?_);rotate_left;(rfl))
  refine (HGR.out W gb).mono ?_;rintro e w1 ⟨⟨G,rfl,hG⟩,bb⟩;have c14 : w1.cell? ⟨g,14,none⟩ = some (.slice x.A2 x.n2 x.c2):=((kb.below bb kb.lt).cell 14).trans HAT.out.2.2.2.2.2.2.1;have gb:=gb.trans (bb.mono gb.size);have HG:=Lib.hid hG;clear bb hG kb
  cases G
  case true =>
    go_wp2_with fail;go_ret;exact ⟨⟨true,rfl,fun h=>by cases h⟩,gb⟩
  have hg:=HG.out rfl;have HGG:=Lib.hid hg;clear hg HG
  by_cases hb : 120 < x.n2
  · have hd : decide ((120 : Int) < (x.n2 : Int)) = true:=decide_eq_true (by omega)
    clear hb;go_wp2_with fail;go_ret;exact ⟨⟨true,rfl,fun h=>by cases h⟩,gb⟩
  · have hd : decide ((120 : Int) < (x.n2 : Int)) = false:=decide_eq_false (by omega)
    have HB:=Lib.hid hb;clear hb;go_wp2_with fail;go_ret;exact ⟨⟨false,rfl,fun _=>⟨HGG.out.1,HGG.out.2.1,HGG.out.2.2,by have:=HB.out;omega⟩⟩,gb⟩
end Go.Proofs.Ytcgalmnllegnbaa

namespace Go.Proofs.Ytcgalmnllegnbaa
set_option linter.unusedVariables false
set_option linter.unusedSimpArgs false
set_option maxRecDepth 100000
open Go.RowKit
open Dot Evt
open Ms (Mem)
theorem wf_zeros {l : List Int} (h : ∀ y ∈ l,y = 0) : Wf l:=fun y hy=>by rw [h y hy];exact wf_of (by omega) (by omega)
end Go.Proofs.Ytcgalmnllegnbaa

namespace Go.Proofs.Ytcgalmnllegnbaa
set_option linter.unusedVariables false
set_option linter.unusedSimpArgs false
set_option maxRecDepth 100000
open Go.RowKit
open Dot Evt
open Ms (Mem)
theorem OwnMg.form {w : World} {base n c : Nat} {A : Option Addr} {xs : List MgV} (h : OwnMg w base A n c xs) (hn : 0 < n) : ∃ g,A = some ⟨g,0,none⟩∧base≤g∧g < w.heap.size:=by
  rcases h.2.2 with ⟨_,h0⟩ | ⟨g,cap,cur,hv,hb,hh,_⟩
  · omega
  · injection hv with hA
    subst hA;exact ⟨g,rfl,hb,lt_of_block hh⟩
theorem OwnMg.cell {w : World} {base n c g : Nat} {xs : List MgV} (h : OwnMg w base (some ⟨g,0,none⟩) n c xs) {i : Nat} {x : MgV} (hi : xs[i]? = some x) {j : Nat} {v : Value} (hv : x.cs[j]? = some v) : w.cell? ⟨g,i * 16 + j,none⟩ = some v:=by
  obtain ⟨ad,hA,hb,hc⟩:=h.row.2 i x hi
  injection hA with hA
  subst hA
  have:=hc j v hv
  rwa [add_mk,add_mk,Nat.zero_add] at this
def ev5 (i : Int) : Ev:=⟨(0,i),1,1,0,0,Evt.p0,[]⟩
def vv5 (i : Int) : EvV:=⟨ev5 i,none,0,0⟩
abbrev c5 (i : Int) : Array Value:=#[.int .i64 0,.int .i64 i,.int .i64 1,.int .i64 1,.int .i64 0,.int .i64 0,.int .i64 0,.int .i64 0,.int .i64 0,.int .i64 0,.int .i64 0,.int .i64 0,.int .i64 0,.slice none 0 0]
theorem c5_eq (i : Int) : (vv5 i).cs = c5 i:=by kernel_rfl
def al5 : Ms.Msg:=⟨5,1,0,0,0,[0,0,0,0,0,0,0,0],[],[ev5 1,ev5 2],[]⟩
abbrev cA5 : Array Value:=#[.int .i64 5,.int .i64 1,.int .i64 0,.int .i64 0,.int .i64 0,.int .i64 0,.int .i64 0,.int .i64 0,.int .i64 0,.int .i64 0,.int .i64 0,.int .i64 0,.int .i64 0,.slice none 0 0,.slice none 0 0,.slice none 0 0]
theorem cA5_size : cA5.size = 16:=rfl
theorem cA5_one : cA5.all (·.oneCell') = true:=by kernel_rfl
theorem cA5_eq : mgc al5 (.slice none 0 0) (.slice none 0 0) (.slice none 0 0) = cA5:=rfl
theorem al5_right : Ms.rightM al5 = true:=by decide +kernel
theorem al5_fit : Ms.fitN al5 512 [ev5 1,ev5 2] = 2:=by decide +kernel
theorem al5_parts {ps : List (List Ev)} (h : Ms.Parts al5 512 al5.ev ps) : ps = [[ev5 1,ev5 2]]:=by
  refine h.one ⟨by simp [al5],?_,?_⟩
  · rw [show al5.ev = [ev5 1,ev5 2] from rfl,al5_fit];rfl
  · rw [show al5.ev = [ev5 1,ev5 2] from rfl,al5_fit];rfl
def xA5 (A : Option Addr) (c : Nat) : MgV:=⟨al5,none,0,0,[vv5 1,vv5 2],A,2,c,none,0,0⟩
theorem xA5_in {w : World} {base c : Nat} {A : Option Addr} (h : OwnEv w base A 2 c [vv5 1,vv5 2]) : MgC w (xA5 A c):=by
  have hle:=ownsRow_le h.2;refine ⟨⟨⟨rfl,RdD.nil _ _ _,h.row (fun y hy=>?_),rfl,RdMb.nil _ _ _⟩,wf_zeros (by simp [xA5,al5]),by show 2≤_;omega,by show 0≤_;omega⟩,hle.1,hle.2,by show 0≤_;omega,by show 0≤_;omega,fun y hy=>?_⟩
  · rcases List.mem_cons.1 hy with rfl | hy
    · exact ⟨rfl,RdD.nil _ _ _,by show 0≤_;omega⟩
    · rw [List.mem_singleton.1 hy];exact ⟨rfl,RdD.nil _ _ _,by show 0≤_;omega⟩
  · have hy : y ∈ [vv5 1,vv5 2]:=hy
    rcases List.mem_cons.1 hy with rfl | hy
    · show 0≤_;omega
    · rw [List.mem_singleton.1 hy];show 0≤_;omega
set_option maxHeartbeats 2000000 in
theorem alive21 (w : World) : Calls Try.prog 20 #[] w fun e w'=>e = .returned (.bool true)∧Below w.heap.size w w':=by
  go_enter Try.func20,Try.ntmps20
  go_upto_region 2 with ((with_reducible refine wpList_st (cs:=cA5) rowMg (Blk.new _ _ _) cA5_size ?_ cA5_one ?_ ?_ ?_);(rfl);rotate_left;(rfl);(rfl);intro w1 kb g1 z1)
  have gb : Below w.heap.size w w1:=new_below g1;obtain ⟨g,hg⟩ : ∃ g,g = w.heap.size:=⟨_,rfl⟩;rw [← hg] at kb ⊢;have HG:=Lib.hid hg;rw [← cA5_eq] at kb;clear g1 z1 hg;go_wp2_with fail
  go_loopw [2,8] (fun _ i wr=>∃ (k : Nat) (AE : Option Addr) (cE : Nat),k≤2∧i = .int .i64 (k : Nat)∧Blk wr g 27 (mgc al5 (.slice none 0 0) (.slice AE k cE) (.slice none 0 0))∧OwnEv wr (g + 1) AE k cE ([vv5 1,vv5 2].take k)∧Below w.heap.size w wr) (fun _ i _=>2 - (intOf i).toNat)
  case atStart=>exact ⟨0,none,0,by omega,rfl,kb,OwnEv.nil _ _,gb⟩
  case round =>
  clear kb gb;obtain ⟨k,AE,cE,hk,rfl,kb,oE,gb⟩:=hrel
  have hgw : w.heap.size≤g:=by have:=HG.out;omega
  by_cases hlt : k < 2
  · have htk : [vv5 1,vv5 2].take (k + 1) = [vv5 1,vv5 2].take k ++ [vv5 ((k : Int) + 1)]:=by
      rcases (show k = 0∨k = 1 by omega) with rfl | rfl <;> rfl
    have HTK:=Lib.hid htk
    have hkm : (k : Int) < 2:=by omega
    have c14 : wr.cell? ⟨g,14,none⟩ = some (.slice AE k cE):=kb.cell 14;have HBS:=Lib.hid (fun w=>(by have:=buildE1 (vv5 ((k : Int) + 1)) w;rw [c5_eq] at this;exact this : (Instr.buildSlice 24 1 #[(0,.agg (c5 ((k : Int) + 1)))]).run Try.prog w = .ok (.slice (some ⟨w.heap.size,0,none⟩) 1 1) (w.alloc (.cells (c5 ((k : Int) + 1)) 50))));have HO:=Lib.hid (oE.alloc (.cells (c5 ((k : Int) + 1)) 50));have HOE:=Lib.hid oE;have HKB:=Lib.hid kb;have hg8 : g + 1≤wr.heap.size:=kb.lt;clear htk oE kb
    go_upto_region 5 with fail
    go_wp2_with (at_builtin;refine wpList_appE rfl (.tmp 12) (.tmp 17) rfl rfl HO.out rfl (news:=[vv5 ((k : Int) + 1)]) (B:=wr.heap.size + 1) ?hd1 rfl ?hd2 ?hd3 ?_)
    case hd1 =>
      have h:=Rd.made wr (c5 ((k : Int) + 1)) 50 (0,0);rw [show ecsL [vv5 ((k : Int) + 1)] = (c5 ((k : Int) + 1)).toList from by rw [← c5_eq];simp [ecsL]];exact h
    case hd2=>omega
    case hd3=>simp;omega
    intro A9 c9 w9 o9 g9 m9 b9;have bA : Below wr.heap.size wr (wr.alloc (.cells (c5 ((k : Int) + 1)) 50)):=(Below.refl _ _).alloc (Nat.le_refl _) _;have kA:=HKB.out.below bA HKB.out.lt;have k9:=kA.grown g9 (own_ne HO.out.2 kA (by decide));have gb9 : Below w.heap.size w w9:=(gb.trans (bA.mono gb.size)).trans (b9.mono (by omega));have k10 : Blk (w9.setCell ⟨g,14,none⟩ (.slice A9 (k + 1) c9)) g 27 (mgc al5 (.slice none 0 0) (.slice A9 (k + 1) c9) (.slice none 0 0)):=k9.set_ 14 _;have o10:=o9.far (p:=⟨g,14,none⟩) (by show g < g + 1;omega) (.slice A9 (k + 1) c9);rw [← HTK.out] at o10;have gb10:=gb9.setCell (p:=⟨g,14,none⟩) (by show w.heap.size≤g;omega) (.slice A9 (k + 1) c9);have f14 : w9.cell? ⟨g,14,none⟩ = some (.slice AE k cE):=k9.cell 14;have u14:=k9.free 14;have hl9:=k9.lt;have HR:=Lib.hid (And.intro k10 (And.intro o10 gb10));clear bA kA k9 gb9 k10 o10 gb10 o9 g9 m9 b9 c14 HO HOE HKB HBS gb;go_wp2_with fail
    go_roundw
    case rel=>exact ⟨k + 1,A9,c9,by omega,by go_num,HR.out.1,HR.out.2.1,HR.out.2.2⟩
    case measure=>simp [intOf];omega
  obtain rfl : k = 2:=by omega
  have kx : Blk wr g 27 (xA5 AE cE).cs:=kb;have hin:=xA5_in oE
  have HIN:=Lib.hid fun (w' : World) (hb : Below wr.heap.size wr w')=>hin.below hb
  have SX:=Lib.hid (xA5 AE cE).size
  have hsp:=fun (w' : World) (hb : Below wr.heap.size wr w')=>csplit_any (xA5 AE cE) 512 w' ((hin.below hb).dl rfl al5_right) (hin.below hb) (by omega) (by omega)
  have hft:=fun (w' : World) (hb : Below wr.heap.size wr w')=>cfit_any (xA5 AE cE) 511 w' (hin.below hb)
  rw [show Ms.fitM (xA5 AE cE).m 511 = (0,2) by unfold Ms.fitM;rw [if_neg (by omega)]] at hft;obtain ⟨CX,hCX⟩ : ∃ CX,CX = (xA5 AE cE).cs:=⟨_,rfl⟩;rw [← hCX] at kx SX hsp hft;have HSP:=Lib.hid (hsp wr (Below.refl _ _));have HFT:=Lib.hid hft;clear hin hsp hft hCX oE kb hlt
  go_wp2_with ((with_reducible refine wpList_ld rowMg kx SX.out ?_ ?_);rotate_left;(rfl))
  refine HSP.out.mono ?_;rintro e w2 ⟨AO,cO,zs,rfl,oO,oz,⟨ps,hzs,hps⟩,b2⟩;have hps:=al5_parts hps;subst hps
  have hz1 : zs.length = 1:=by have:=congrArg List.length hzs;rw [List.length_map] at this;exact this
  obtain ⟨z,rfl⟩ : ∃ z,zs = [z]:=List.length_eq_one_iff.1 hz1
  have hzm : z.m = Ms.evs (xA5 AE cE).m [ev5 1,ev5 2]:=by simpa using hzs
  have hn2 : z.n2 = 2:=by
    have h1:=(oz z (List.mem_singleton.2 rfl));rw [h1.ev.1,← List.length_map (f:=(·.e)),← h1.es,hzm]
    rfl
  obtain ⟨q,rfl,hq1,hq2⟩:=oO.form (by rw [hz1];omega)
  have c14 : w2.cell? ⟨q,14,none⟩ = some (.slice z.A2 2 z.c2):=by
    have:=oO.cell (i:=0) (x:=z) rfl (j:=14) (v:=.slice z.A2 z.n2 z.c2) rfl
    rw [hn2] at this;exact this
  have kx:=kx.below b2 kx.lt;have gb:=gb.trans (b2.mono gb.size);have HFT2:=Lib.hid (HFT.out w2 b2);rw [hz1];clear oO oz hzs hz1 hzm hn2 hq1 b2 HSP HFT HIN
  go_wp2_with ((with_reducible refine wpList_ld rowMg kx SX.out ?_ ?_);rotate_left;(rfl))
  refine HFT2.out.mono ?_;rintro e w3 ⟨rfl,b3⟩;have c14 : w3.cell? ⟨q,14,none⟩ = some (.slice z.A2 2 z.c2):=(b3.cell (p:=⟨q,14,none⟩) hq2).trans c14;have gb:=gb.trans (b3.mono gb.size);clear b3 HFT2;go_wp2_with fail;go_ret;exact ⟨rfl,gb⟩
end Go.Proofs.Ytcgalmnllegnbaa

namespace Go.Proofs.Ytcgalmnllegnbaa
set_option linter.unusedVariables false
set_option linter.unusedSimpArgs false
set_option maxRecDepth 100000
open Go.RowKit
open Dot Evt
open Ms (Mem)
def Ms.PartsOf (m : Ms.Msg) (mtu : Int) (ps : List (List Ev)) : Prop:=if (Ms.fitM m mtu).2 = 0 then Ms.Parts m mtu.toNat m.ev ps else ps = []
theorem Ms.PartsOf.one {m : Ms.Msg} {mtu : Int} {p q : List (List Ev)} (h1 : Ms.PartsOf m mtu p) (h2 : Ms.PartsOf m mtu q) : p = q:=by
  unfold Ms.PartsOf at h1 h2
  split at h1
  · rename_i h;rw [if_pos h] at h2;exact h1.one h2
  · rename_i h;rw [if_neg h] at h2;rw [h1,h2]
theorem Ms.Parts.mem {m : Ms.Msg} {mtu : Nat} : ∀ {ps : List (List Ev)} {l : List Ev},Ms.Parts m mtu l ps→∀ p ∈ ps,p.length≤l.length∧∀ e ∈ p,e ∈ l:=by
  intro ps
  induction ps with
  | nil=>intro l _ p hp;cases hp
  | cons q ps ih =>
    intro l h p hp
    rcases List.mem_cons.1 hp with rfl | hp
    · rw [h.2.1]
      exact ⟨by rw [List.length_take];omega,fun e he=>List.mem_of_mem_take he⟩
    · have:=ih h.2.2 p hp
      exact ⟨by have h1:=this.1;rw [List.length_drop] at h1;omega,fun e he=>List.mem_of_mem_drop (this.2 e he)⟩
theorem Ms.PartsOf.mem {m : Ms.Msg} {mtu : Int} {ps : List (List Ev)} (h : Ms.PartsOf m mtu ps) : ∀ p ∈ ps,p.length≤m.ev.length∧∀ e ∈ p,e ∈ m.ev:=by
  unfold Ms.PartsOf at h
  split at h
  · exact h.mem
  · rw [h];intro p hp;cases hp
theorem fitM_cases (m : Ms.Msg) (mtu : Int) : Ms.fitM m mtu = (0,2)∨∃ mt : Nat,mtu = (mt : Int)∧512≤mt∧mt≤4096∧m.kind = 5∧Ms.rightM m = true∧Ms.fitM m mtu = (Ms.fitN m mt m.ev,0):=by
  by_cases h : 512≤mtu∧mtu≤4096∧m.kind = 5∧Ms.rightM m = true
  · refine .inr ⟨mtu.toNat,by omega,by omega,by omega,h.2.2.1,h.2.2.2,?_⟩
    unfold Ms.fitM
    rw [if_pos h]
  · refine .inl ?_
    unfold Ms.fitM
    rw [if_neg h]
structure SplAll (w0 : World) (x : MgV) (mtu : Int) (A : Option Addr) (c : Nat) (zs : List MgV) (w' : World) : Prop where
  row : OwnMg w' w0.heap.size A zs.length c zs
  own : ∀ z ∈ zs,MgOwn w' w0.heap.size z
  ps : ∃ ps,zs.map (·.m) = ps.map (Ms.evs x.m)∧Ms.PartsOf x.m mtu ps
  bel : Below w0.heap.size w0 w'
theorem SplAll.below {w0 w w' : World} {x : MgV} {mtu : Int} {A : Option Addr} {c : Nat} {zs : List MgV} (h : SplAll w0 x mtu A c zs w) (hb : Below w.heap.size w w') : SplAll w0 x mtu A c zs w' :=
  ⟨h.row.below hb (Nat.le_refl _),fun z hz=>(h.own z hz).below hb,h.ps,h.bel.trans (hb.mono h.bel.size)⟩
theorem SplAll.none_ {w0 w' : World} {x : MgV} {mtu : Int} (hf : Ms.fitM x.m mtu = (0,2)) (hb : Below w0.heap.size w0 w') : SplAll w0 x mtu none 0 [] w' :=
  ⟨OwnMg.nil _ _,fun z hz=>by simp at hz,⟨[],rfl,by unfold Ms.PartsOf;rw [hf,if_neg (by decide)]⟩,hb⟩
theorem SplEnd.all {w0 w' : World} {x : MgV} {mt : Nat} {A : Option Addr} {c : Nat} {zs : List MgV} (h : SplEnd w0 x mt A c zs w') (hf : (Ms.fitM x.m (mt : Int)).2 = 0) : SplAll w0 x (mt : Int) A c zs w':=by
  obtain ⟨h1,h2,⟨ps,h3,h4⟩,h5⟩:=h;exact ⟨h1,h2,⟨ps,h3,by unfold Ms.PartsOf;rw [if_pos hf];exact h4⟩,h5⟩
theorem csplit_all (x : MgV) (mtu : Int) (w0 : World) (h : MgC w0 x) :
    Calls Try.prog 22 #[.agg x.cs,.int .i64 mtu] w0 fun e w'=>∃ A c zs,e = .returned (.tuple #[.slice A zs.length c,.int .i64 ((Ms.fitM x.m mtu).2 : Nat)])∧SplAll w0 x mtu A c zs w':=by
  rcases fitM_cases x.m mtu with hf | ⟨mt,rfl,h1,h2,hk,hr,hf⟩
  · refine (csplit_bad x mtu w0 h hf).mono fun e w' ⟨he,hb⟩=>⟨none,0,[],?_,SplAll.none_ hf hb⟩
    rw [he,hf]
    rfl
  · refine (csplit_any x mt w0 (h.dl hk hr) h h1 h2).mono fun e w' ⟨A,c,zs,he,hs⟩=>⟨A,c,zs,?_,hs.all (by rw [hf])⟩
    rw [he,hf]
    rfl
theorem SplAll.part {w0 w : World} {x : MgV} {mtu : Int} {A : Option Addr} {c : Nat} {zs : List MgV} (h : SplAll w0 x mtu A c zs w) {wx : World} (hx : MgC wx x) (hn2 : x.n2≤100000) : ∀ z ∈ zs,MgSm w z∧MgC w z∧z.n2≤x.n2:=fun z hz=>by
  obtain ⟨ps,e1,e2⟩:=h.ps;have hm : z.m ∈ zs.map (·.m):=List.mem_map_of_mem hz;rw [e1] at hm;obtain ⟨p,hp,hzm⟩:=List.mem_map.1 hm;obtain ⟨q1,q2⟩:=e2.mem p hp;have ho:=h.own z hz
  have l1 : z.n1 = x.n1:=by rw [ho.more.1,← hzm,hx.ok.ok.more.1];rfl
  have l3 : z.n3 = x.n3:=by rw [ho.mem.1,← hzm,hx.ok.ok.mem.1];rfl
  have lx : x.m.ev.length = x.n2:=by rw [hx.ok.ok.es,List.length_map,← hx.ok.ok.ev.1]
  have l2 : z.n2 = p.length:=by rw [ho.ev.1,← List.length_map (f:=(·.e)),← ho.es,← hzm];rfl
  have hc:=ownsRow_le ho.ev.2
  have hmm : ∀ y ∈ z.xs,y.m≤100000:=fun y hy=>by
    rw [(ho.eo y hy).2.1.1]
    have hy2 : y.e ∈ z.m.ev:=by rw [ho.es];exact List.mem_map_of_mem hy
    rw [← hzm] at hy2;have hy3:=q2 _ hy2;rw [hx.ok.ok.es] at hy3;obtain ⟨u,hu,hue⟩:=List.mem_map.1 hy3;obtain ⟨i,hi,rfl⟩:=List.getElem_of_mem hu;have hq:=(hx.ok.ok.ev.2 i _ (List.getElem?_eq_getElem hi)).1;rw [← hue,← hq.2.1.1];exact hx.hm _ hu
  have hin : MgIn w z:=ho.mgin (by omega) (by rw [l3];exact hx.ok.b3);have b1:=hx.b1;have b3:=hx.b3;exact ⟨⟨hin,by omega,by omega,fun y hy=>by have:=hmm y hy;omega⟩,⟨hin,hc.1,hc.2,by omega,by omega,hmm⟩,by omega⟩
theorem SplAll.same {w0 w w0' w1 : World} {x y : MgV} {mtu : Int} {A A' : Option Addr} {c c' : Nat} {zs zs' : List MgV} (h : SplAll w0 x mtu A c zs w) (h' : SplAll w0' y mtu A' c' zs' w1) (he : x.m = y.m) : zs.map (·.m) = zs'.map (·.m):=by
  obtain ⟨ps,e1,e2⟩:=h.ps;obtain ⟨ps',e1',e2'⟩:=h'.ps;rw [← he] at e1' e2';rw [e1,e1',e2.one e2']
theorem evSum_mem (xs : List EvV) : ∀ x ∈ xs,x.m≤evSum xs:=by
  unfold evSum
  induction xs with
  | nil=>simp
  | cons y l ih =>
    intro x hx
    simp only [List.map_cons,List.sum_cons]
    rcases List.mem_cons.1 hx with rfl | h
    · omega
    · have:=ih x h;omega
end Go.Proofs.Ytcgalmnllegnbaa

namespace Go.Proofs.Ytcgalmnllegnbaa
set_option linter.unusedVariables false
set_option linter.unusedSimpArgs false
open Go.ChangeShapes Go.WideShapes Go.ChangeAt Go.RowKit Go.Deep
open Dot
set_option maxRecDepth 100000
section
variable {H : Type} {enc : TypeId × Value→H} {W : World} {base : Nat} {sp : Nat→Bool} {held : Bool} {fuel : Nat} {cs : List Value} {x : DataW H × List MemPlace}
theorem rd_arr8 (hf : DataW.trod enc Try.prog W base sp held fuel 22 cs = some x) : ∃ l : List Int,cs = l.map (Value.int .i64)∧l.length = 8∧Wf l:=by
  obtain ⟨xs,m,_,_,hl,hxl,hg⟩:=DataW.trod_array Try.underlying22 hf;rw [cellsA] at hl;rw [cellsI] at hg
  have key : ∀ i,i < 8→∃ z : Int,cs[i]? = some (.int .i64 z)∧(Lit.int .i64 z).wf = true:=fun i hi=>by
    have h:=hg i hi;rw [List.getElem?_eq_getElem (by omega)] at h;obtain ⟨z,h1,h2⟩:=rd_int h;rw [Nat.mul_one] at h1;refine ⟨z,?_,wf_of h2.1 h2.2⟩
    have : ((cs.drop i).take 1)[0]? = some (.int .i64 z):=by rw [h1];rfl
    rw [List.getElem?_take,if_pos (by omega),List.getElem?_drop] at this;exact this
  have hex : ∀ i,∃ z : Int,i < 8→cs[i]? = some (.int .i64 z)∧(Lit.int .i64 z).wf = true:=fun i=>by
    by_cases hi : i < 8
    · obtain ⟨z,h⟩:=key i hi
      exact ⟨z,fun _=>h⟩
    · exact ⟨0,fun h=>absurd h hi⟩
  refine ⟨(List.range 8).map fun i=>(hex i).choose,?_,by simp,fun z hz=>?_⟩
  · apply List.ext_getElem?
    intro i
    by_cases hi : i < 8
    · rw [((hex i).choose_spec hi).1,List.getElem?_map,List.getElem?_map,List.getElem?_range hi]
      rfl
    · rw [List.getElem?_eq_none (by omega),List.getElem?_eq_none (by simp;omega)]
  · obtain ⟨i,hi,rfl⟩:=List.mem_map.1 hz
    exact ((hex i).choose_spec (by simpa using hi)).2
end
section
variable {H : Type} {enc : TypeId × Value→H} {W : World} {base : Nat} {sp : Nat→Bool} {held : Bool} {r : Reach} {b0 : Nat} {v : Value} {d : DataW H} {p : List MemPlace}
end
end Go.Proofs.Ytcgalmnllegnbaa

namespace Go.Proofs.Ytcgalmnllegnbaa
set_option linter.unusedVariables false
set_option linter.unusedSimpArgs false
open Go.ChangeShapes Go.WideShapes Go.ChangeAt Go.RowKit Go.Deep
open Dot Evt
open Ms (Mem)
set_option maxRecDepth 100000
theorem cellsMb : (Try.prog).cellsOf 62 = 3:=by kernel_rfl
theorem cellsMbs : (Try.prog).cellsOf 25 = 1:=by kernel_rfl
theorem cellsEs : (Try.prog).cellsOf 24 = 1:=by kernel_rfl
theorem cellsMg : (Try.prog).cellsOf 27 = 16:=by kernel_rfl
section
variable {H : Type} {enc : TypeId × Value→H} {W : World} {base : Nat} {sp : Nat→Bool} {held : Bool} {fuel : Nat} {cs : List Value} {x : DataW H × List MemPlace}
theorem rd_mb (hf : DataW.trod enc Try.prog W base sp held fuel 62 cs = some x) : ∃ d : Mem,cs = [.int .i64 d.1,.int .i64 d.2.1,.int .i64 d.2.2]:=by
  have hl:=rd_len Try.underlying62 cellsMb hf;obtain ⟨_,_,g0⟩:=rd_field Try.underlying62 hf 0 3 0 1 rfl cellsIq;obtain ⟨_,_,g1⟩:=rd_field Try.underlying62 hf 1 3 1 1 rfl cellsIq;obtain ⟨_,_,g2⟩:=rd_field Try.underlying62 hf 2 3 2 1 rfl cellsIq;obtain ⟨x0,e0,_⟩:=rd_int g0;obtain ⟨x1,e1,_⟩:=rd_int g1;obtain ⟨x2,e2,_⟩:=rd_int g2
  match cs,hl with
  | [a,b,c],_ =>
    simp at e0 e1 e2
    exact ⟨(x0,x1,x2),by rw [e0,e1,e2]⟩
theorem rd_mbs (hf : DataW.trod enc Try.prog W base sp held fuel 25 cs = some x) : ∃ (A : Option Addr) (n c : Nat) (l : List Mem),cs = [.slice A n c]∧RdMb W W.heap.size A n l∧n≤maxLen:=by
  obtain ⟨a,n,c,hcs,hnc,hcm,hg⟩:=rd_slice Try.underlying25 cellsMb hf
  have key : ∀ i,i < n→∃ (ad : Addr) (d : Mem),a = some ad∧MbAt W W.heap.size (ad.add (i * 3)) d:=fun i hi=>by
    obtain ⟨ad,cs',f',x',e,hl,hc,ht⟩:=hg i hi;obtain ⟨d,rfl⟩:=rd_mb ht;have h0:=hc 0 (by omega);have h1:=hc 1 (by omega);have h2:=hc 2 (by omega);rw [add_add] at h0 h1 h2;rw [Nat.add_zero] at h0;rw [add_nextMb _ _ _ (by decide)] at h1 h2;exact ⟨ad,d,e,World.block_lt_of_cell? W _ h0,h0,h1,h2⟩
  have hex : ∀ i,∃ d : Mem,i < n→∃ ad,a = some ad∧MbAt W W.heap.size (ad.add (i * 3)) d:=fun i=>by
    by_cases hi : i < n
    · obtain ⟨ad,d,h⟩:=key i hi
      exact ⟨d,fun _=>⟨ad,h⟩⟩
    · exact ⟨(0,0,0),fun h=>absurd h hi⟩
  refine ⟨a,n,c,(List.range n).map fun i=>(hex i).choose,hcs,⟨by simp,fun i d hi=>?_⟩,Nat.le_trans hnc hcm⟩
  have hi' : i < n:=by
    have:=(List.getElem?_eq_some_iff.1 hi).1
    simpa using this
  rw [List.getElem?_map,List.getElem?_range hi'] at hi
  injection hi with hi
  rw [← hi];exact (hex i).choose_spec hi'
theorem rdz_msg (hf : DataW.trod enc Try.prog W base sp held fuel 27 cs = some x) (hs : Sz 27 x.1) : ∃ v : MgV,cs = v.cs.toList∧MgOk W W.heap.size v∧Wf v.m.u∧v.n1≤maxLen∧v.n2≤10000000000000∧v.n3≤maxLen:=by
  have hl:=rd_len Try.underlying27 cellsMg hf;obtain ⟨_,_,g0⟩:=rd_field Try.underlying27 hf 0 3 0 1 rfl cellsIq;obtain ⟨_,_,g1⟩:=rd_field Try.underlying27 hf 1 3 1 1 rfl cellsIq;obtain ⟨_,_,g2⟩:=rd_field Try.underlying27 hf 2 3 2 1 rfl cellsIq;obtain ⟨_,_,g3⟩:=rd_field Try.underlying27 hf 3 3 3 1 rfl cellsIq;obtain ⟨_,_,g4⟩:=rd_field Try.underlying27 hf 4 3 4 1 rfl cellsIq;obtain ⟨_,_,g5⟩:=rd_field Try.underlying27 hf 5 22 5 8 rfl cellsA;obtain ⟨_,_,g6⟩:=rd_field Try.underlying27 hf 6 23 13 1 rfl cellsDs;obtain ⟨_,_,g7,z7⟩:=rdz_field Try.underlying27 hf hs 7 24 14 1 rfl cellsEs;obtain ⟨_,_,g8⟩:=rd_field Try.underlying27 hf 8 25 15 1 rfl cellsMbs;obtain ⟨x0,e0,_⟩:=rd_int g0;obtain ⟨x1,e1,_⟩:=rd_int g1;obtain ⟨x2,e2,_⟩:=rd_int g2;obtain ⟨x3,e3,_⟩:=rd_int g3;obtain ⟨x4,e4,_⟩:=rd_int g4;obtain ⟨U,e5,hU,wU⟩:=rd_arr8 g5;obtain ⟨A1,n1,c1,l1,e6,hr1,hn1⟩:=rd_dots g6;obtain ⟨A2,n2,c2,xs,e7,hr2,hn2⟩:=rdz_evs g7 z7;obtain ⟨A3,n3,c3,l3,e8,hr3,hn3⟩:=rd_mbs g8;refine ⟨⟨⟨x0,x1,x2,x3,x4,U,l1,xs.map (·.e),l3⟩,A1,n1,c1,xs,A2,n2,c2,A3,n3,c3⟩,?_,⟨hU,hr1,hr2,rfl,hr3⟩,wU,hn1,hn2,hn3⟩
  match U,hU with
  | [u0,u1,u2,u3,u4,u5,u6,u7],_ =>
    match cs,hl with
    | [a0,a1,a2,a3,a4,a5,a6,a7,a8,a9,a10,a11,a12,a13,a14,a15],_ =>
      simp at e0 e1 e2 e3 e4 e5 e6 e7 e8
      obtain ⟨rfl,rfl,rfl,rfl,rfl,rfl,rfl,rfl⟩:=e5;subst e0 e1 e2 e3 e4 e6 e7 e8
      rfl
end
section
variable {H : Type} {enc : TypeId × Value→H} {W : World} {base : Nat} {sp : Nat→Bool} {held : Bool} {r : Reach} {b0 : Nat} {v : Value} {d : DataW H} {p : List MemPlace}
theorem open_msgz (hv : Value.okWide Try.prog W r b0 27 v) (h : DataW.Trod enc Try.prog W base sp held 27 v d p) (hs : Sz 27 d) :
    ∃ x : MgV,v = .agg x.cs∧MgOk W W.heap.size x∧Wf x.m.u∧x.n1≤maxLen∧x.n2≤10000000000000∧x.n3≤maxLen:=by
  obtain ⟨cs,rfl,hsz⟩:=okWide_struct Try.underlying27 hv;obtain ⟨fuel,hf0⟩:=h;have hf : DataW.trod enc Try.prog W base sp held fuel 27 cs.toList = some (d,p):=hf0;obtain ⟨x,h1,h2⟩:=rdz_msg hf hs;exact ⟨x,by rw [← Array.toArray_toList (xs:=cs),h1],h2⟩
end
end Go.Proofs.Ytcgalmnllegnbaa

namespace Go.Proofs.Ytcgalmnllegnbaa
set_option linter.unusedVariables false
set_option linter.unusedSimpArgs false
open Go.ChangeShapes Go.WideShapes Go.ChangeAt Go.RowKit Go.Deep
open Dot Evt
set_option maxRecDepth 100000
section
variable {H : Type} {enc : TypeId × Value→H} {W : World} {base : Nat} {sp : Nat→Bool} {held : Bool} {r : Reach} {b0 : Nat} {v : Value} {d : DataW H} {p : List MemPlace}
theorem open_msgc (hv : Value.okWide Try.prog W r b0 27 v) (h : DataW.Trod enc Try.prog W base sp held 27 v d p) (hs : Sz 27 d) :
    ∃ x : MgV,v = .agg x.cs∧MgOk W W.heap.size x∧Wf x.m.u∧x.n1≤maxLen∧x.n2≤10000000000000∧x.n3≤maxLen∧x.n2≤x.c2∧x.c2≤maxLen:=by
  obtain ⟨x,rfl,h1,h2,h3,h4,h5⟩:=open_msgz hv h hs;obtain ⟨fuel,hf0⟩:=h;have hf : DataW.trod enc Try.prog W base sp held fuel 27 x.cs.toList = some (d,p):=hf0;obtain ⟨_,_,g7⟩:=rd_field Try.underlying27 hf 7 24 14 1 rfl cellsEs;obtain ⟨a,n,c,e,hn,hc,_⟩:=rd_slice Try.underlying24 cellsE g7;have e2 : (x.cs.toList.drop 14).take 1 = [.slice x.A2 x.n2 x.c2]:=rfl;rw [e2] at e
  injection e with e _
  injection e with _ e3 e4
  exact ⟨x,rfl,h1,h2,h3,h4,h5,by rw [e3,e4];exact hn,by rw [e4];exact hc⟩
end
end Go.Proofs.Ytcgalmnllegnbaa

namespace Go.Proofs.Ytcgalmnllegnbaa.ChunkFits
set_option linter.unusedVariables false
set_option linter.unusedSimpArgs false
set_option maxRecDepth 100000
open Go.ChangeShapes Go.WideShapes Go.ChangeAt Go.RowKit Go.Deep
open Dot Evt
open Ms (Mem)
set_option linter.unusedVariables false
set_option linter.unusedSimpArgs false
theorem ev0_range {w : World} {base n c q : Nat} {u : EvV} {r : List EvV} (h : OwnEv w base (some ⟨q,0,none⟩) n c (u :: r)) : w.rangeAt q 0 u.cs.toList:=fun j v hv=>by
  have hv : u.cs[j]? = some v:=by simpa using hv
  obtain ⟨a,ha,_,hc⟩:=h.raw _ _ (ecsL_at (u :: r) 0 u rfl j v hv)
  injection ha with ha
  subst ha;rw [add_mk,Nat.zero_mul,Nat.zero_add] at hc;exact hc
theorem row_range {w : World} {base n c q : Nat} {xs : List MgV} (h : OwnMg w base (some ⟨q,0,none⟩) n c xs) {i : Nat} {x : MgV} (hi : xs[i]? = some x) : w.rangeAt q (i * 16) x.cs.toList:=fun j v hv=>h.cell hi (by simpa using hv)
theorem OwnEv.form {w : World} {base n c : Nat} {A : Option Addr} {xs : List EvV} (h : OwnEv w base A n c xs) (hn : 0 < n) : ∃ g,A = some ⟨g,0,none⟩∧base≤g∧g < w.heap.size:=by
  rcases h.2.2 with ⟨_,h0⟩ | ⟨g,cap,cur,hv,hb,hh,_⟩
  · omega
  · injection hv with hA
    subst hA;exact ⟨g,rfl,hb,lt_of_block hh⟩
theorem flat_take (ps : List (List Ev)) (k : Nat) : (ps.take k).flatten.length≤ps.flatten.length:=by
  have h:=congrArg List.length (congrArg List.flatten (List.take_append_drop k ps));rw [List.flatten_append,List.length_append] at h
  omega
set_option maxHeartbeats 8000000 in
theorem walk (x : MgV) (mtu : Int) (w0 : World) (hk : MgOk w0 w0.heap.size x) (wu : Wf x.m.u) (b1 : x.n1≤maxLen) (b2 : x.n2≤10000000000000) (b3 : x.n3≤maxLen) (bc : x.n2≤x.c2) (bm : x.c2≤maxLen) (m1 : -9223372036854775808≤mtu) (m2 : mtu≤9223372036854775807) :
    Calls Try.prog 7 #[.agg x.cs,.int .i64 mtu] w0 fun e w'=>e = .returned (.bool true)∧Below w0.heap.size w0 w':=by
  have h : MgIn w0 x:=⟨hk,wu,b2,b3⟩
  have HIN:=Lib.hid fun (w' : World) (hb : Below w0.heap.size w0 w')=>h.below hb
  have HCAP:=Lib.hid (And.intro bc bm);have SZ:=Lib.hid x.size;have HAT:=Lib.hid (mgv_at x)
  have HGR:=Lib.hid fun (w' : World) (hb : Below w0.heap.size w0 w')=>great21_any x w' (h.below hb)
  clear hk wu b1 b2 b3 h bc bm m1 m2;obtain ⟨C,hC⟩ : ∃ C,C = x.cs:=⟨_,rfl⟩;rw [← hC] at SZ HGR HAT ⊢;have HC:=Lib.hid hC;clear hC
  go_enter Try.func7,Try.ntmps7
  go_upto_region 1 with fail
  refine nameW ?_;intro W hW;obtain ⟨g,hg⟩ : ∃ g,g = w0.heap.size:=⟨_,rfl⟩;rw [← hg]
  have kb : Blk W g 27 C:=by rw [hW,hg];exact Blk.new w0 _ _
  have gb : Below w0.heap.size w0 W:=by rw [hW];exact (Below.refl _ _).alloc (Nat.le_refl _) _
  clear hW hg;go_wp2_with fail;refine (alive21 W).mono ?_;rintro e w1 ⟨rfl,bb⟩;have kb:=kb.below bb kb.lt;have gb:=gb.trans (bb.mono gb.size);clear bb
  go_wp2_with ((with_reducible refine wpList_ld rowMg kb SZ.out ?_ ?_);rotate_left;(rfl))
  refine (HGR.out w1 gb).mono ?_;rintro e w2 ⟨⟨G,rfl,hG⟩,bb⟩;have kb:=kb.below bb kb.lt;have gb:=gb.trans (bb.mono gb.size);clear bb HGR
  cases G
  case true =>
    go_wp2_with fail;go_ret;exact ⟨rfl,gb⟩
  obtain ⟨hn1,hn3,hsum,hn2⟩:=hG rfl
  have hxm : ∀ y ∈ x.xs,y.m≤3000:=fun y hy=>by have:=evSum_mem x.xs y hy;omega
  have HX:=Lib.hid fun (w' : World) (hb : Below w0.heap.size w0 w')=>(⟨HIN.out w' hb,HCAP.out.1,HCAP.out.2,by omega,by omega,fun y hy=>by have:=hxm y hy;omega⟩ : MgC w' x)
  have HN2:=Lib.hid hn2
  have HRX:=Lib.hid fun (w' : World) (hb : Below w0.heap.size w0 w')=>(by have:=mright_any x w' (HX.out w' hb).ok;rw [← HC.out] at this;exact this : Calls Try.prog 14 #[.agg C] w' fun e w''=>e = .returned (.bool (Ms.rightM x.m))∧Below w'.heap.size w' w'')
  clear hG hn1 hn3 hsum hxm hn2 HIN;have HSP:=Lib.hid (by have:=csplit_all x mtu w2 (HX.out w2 gb);rw [← HC.out] at this;exact this)
  go_wp2_with ((with_reducible refine wpList_ld rowMg kb SZ.out ?_ ?_);rotate_left;(rfl))
  refine HSP.out.mono ?_;rintro e w6 ⟨A1,c1,zs,rfl,S1⟩;have kb:=kb.below S1.bel kb.lt;have gb6:=gb.trans (S1.bel.mono gb.size)
  rcases fitM_cases x.m mtu with hf | ⟨mt,hmt,h1,h2,hkd,hr,hf⟩
  · obtain ⟨ps,e1,e2⟩:=S1.ps
    have hps : ps = []:=by unfold Ms.PartsOf at e2;rw [hf,if_neg (by decide)] at e2;exact e2
    subst hps
    have hzs : zs = []:=by simpa using e1
    subst hzs
    have hnot : ¬ (512≤mtu∧mtu≤4096∧x.m.kind = 5∧Ms.rightM x.m = true):=fun hh=>by unfold Ms.fitM at hf;rw [if_pos hh] at hf;injection hf with _ hf;cases hf
    have c0 : w6.cell? ⟨g,0,none⟩ = some (.int .i64 x.m.kind):=(kb.cell 0).trans HAT.out.1;rw [hf];have HNOT:=Lib.hid hnot;clear hnot hf e1 e2 S1 HSP
    by_cases hlo : mtu < 512
    · go_wp2_with fail
      go_ret;exact ⟨rfl,gb6⟩
    by_cases hhi : 4096 < mtu
    · go_wp2_with fail
      go_ret;exact ⟨rfl,gb6⟩
    by_cases hkd : x.m.kind = 5
    · rw [hkd] at c0
      have hrf : Ms.rightM x.m = false:=by
        cases hq : Ms.rightM x.m with
        | false=>rfl
        | true=>exact absurd ⟨by omega,by omega,hkd,hq⟩ HNOT.out
      have hr2:=HRX.out w6 gb6;rw [hrf] at hr2;have HR2:=Lib.hid hr2;have dlo : decide (mtu < 512) = false:=decide_eq_false hlo;have dhi : decide ((4096 : Int) < mtu) = false:=decide_eq_false hhi;clear hr2 hkd hrf hlo hhi
      go_wp2_with ((with_reducible refine wpList_ldg rowMg kb SZ.out ?_ ?_ ?_);rotate_left;(rfl);(rfl))
      refine HR2.out.mono ?_;rintro e w7 ⟨rfl,b7⟩;have gb7:=gb6.trans (b7.mono gb6.size);go_wp2_with fail;go_ret;exact ⟨rfl,gb7⟩
    · have hkq : (x.m.kind != 5) = true:=by rw [bne_iff_ne];exact hkd
      go_wp2_with fail;go_ret;exact ⟨rfl,gb6⟩
  subst hmt;obtain ⟨ps,hzs,hpo⟩:=S1.ps
  have hpo : Ms.Parts x.m mt x.m.ev ps:=by unfold Ms.PartsOf at hpo;rw [hf,if_pos rfl] at hpo;exact hpo
  have hdl:=(HX.out w2 gb).dl hkd hr;have hspec:=Ms.Parts.spec hdl.d h1 hdl.r hpo
  have hlen : zs.length = ps.length:=by have:=congrArg List.length hzs;rwa [List.length_map,List.length_map] at this
  have hevn : x.m.ev.length = x.n2:=by rw [hdl.ok.ok.es,List.length_map,← hdl.ok.ok.ev.1]
  have HDL:=Lib.hid (And.intro hdl.d hdl.r);have HSPEC:=Lib.hid hspec;have HZS:=Lib.hid (And.intro hzs hlen);have HEV:=Lib.hid (And.intro hevn hdl.ok.ok.es)
  have HS:=Lib.hid fun (w : World) (hb : Below w6.heap.size w6 w)=>S1.below hb
  have HPT:=Lib.hid fun (w : World) (hb : Below w6.heap.size w6 w)=>(S1.below hb).part (HX.out w0 (Below.refl _ _)) (by have:=HN2.out;omega)
  have hzl : zs.length≤9223372036854775807:=by
    have:=ownsRow_le S1.row.2
    unfold maxLen at this
    omega
  have hnn : ∃ q,0 < zs.length→A1 = some ⟨q,0,none⟩∧q < w6.heap.size:=by
    by_cases h0 : 0 < zs.length
    · obtain ⟨q,hq,_,hl⟩:=S1.row.form h0
      exact ⟨q,fun _=>⟨hq,hl⟩⟩
    · exact ⟨0,fun h=>absurd h h0⟩
  obtain ⟨q,hq⟩:=hnn;have HQ:=Lib.hid hq;rw [hf];clear hq hspec hzs hpo hdl hevn hlen S1 HSP hkd hr hf HRX;go_wp2_with fail;obtain ⟨nz,hnz⟩ : ∃ nz,nz = zs.length:=⟨_,rfl⟩;rw [← hnz] at hzl HQ ⊢;have HNZ:=Lib.hid hnz;have HB6:=Lib.hid (show Below w6.heap.size w6 w6 from Below.refl _ _);clear hnz
  go_loopw [7,8,10,11,13,14,50] (fun a _ _ _ _ _ i wr=>∃ (k : Nat) (AA : Option Addr) (cA nA : Nat) (av : List EvV),k≤nz∧i = .int .i64 (k : Nat)∧a = .slice AA nA cA∧OwnEv wr w6.heap.size AA nA cA av∧av.map (·.e) = (ps.take k).flatten∧(∀ a ∈ av,∃ z ∈ zs,a ∈ z.xs)∧Below w6.heap.size w6 wr) (fun _ _ _ _ _ _ i _=>nz - (intOf i).toNat)
  case atStart=>exact ⟨0,none,0,0,[],by omega,rfl,rfl,OwnEv.nil _ _,rfl,fun a ha=>by simp at ha,HB6.out⟩
  case round =>
  obtain ⟨k,AA,cA,nA,av,hk,rfl,rfl,oA,hae,haz,hbw⟩:=hrel;have HOA:=Lib.hid oA;have HAE:=Lib.hid (And.intro hae haz);have HBW:=Lib.hid hbw
  have hnA : nA≤120:=by
    have h9:=congrArg List.length hae;rw [List.length_map,← oA.1] at h9;have h8:=flat_take ps k;rw [HSPEC.out.1,HEV.out.1] at h8
    have:=HN2.out
    omega
  have kbr:=kb.below hbw kb.lt;have gbr:=gb6.trans (hbw.mono gb6.size);clear oA hae haz
  by_cases hlt : k < nz
  case neg =>
    have hkn : ¬ (k : Int) < (nz : Int):=by omega
    have hfin : av.map (·.e) = x.xs.map (·.e):=by
      rw [HAE.out.1,List.take_of_length_le (by rw [← HZS.out.2,← HNZ.out];omega),HSPEC.out.1];exact HEV.out.2
    have hnx : nA = x.n2:=by
      have h9:=congrArg List.length hfin;rw [List.length_map,List.length_map,← HOA.out.1] at h9
      have:=(HX.out wr gbr).ok.ok.ev.1
      omega
    have hrow : RowEv wr wr.heap.size AA nA av:=HOA.out.row (fun a ha=>by
      obtain ⟨z,hz,haz⟩:=HAE.out.2 a ha
      exact (((HS.out wr hbw).own z hz).eo a haz).ok)
    have hall:=rall07_eq AA x.A2 nA cA x.c2 av x.xs wr hrow (by have:=(HX.out wr gbr).ok.ok.ev;rw [hnx];exact this) hfin (fun a ha=>by
      obtain ⟨z,hz,haz⟩:=HAE.out.2 a ha
      exact (HPT.out wr hbw z hz).1.hm a haz) (by omega)
    rw [hnx] at hall;have HALL:=Lib.hid hall;have c14 : wr.cell? ⟨g,14,none⟩ = some (.slice x.A2 x.n2 x.c2):=(kbr.cell 14).trans HAT.out.2.2.2.2.2.2.1;rw [hnx];clear hall hrow hfin hnx hbw;go_wp2_with fail;refine HALL.out.mono ?_;rintro e wz ⟨rfl,bz⟩;have gbz:=gbr.trans (bz.mono gbr.size);go_wp2_with fail;go_ret;exact ⟨rfl,gbz⟩
  have hkl : k < zs.length:=by rw [← HNZ.out];exact hlt
  have hkp : k < ps.length:=by rw [← HZS.out.2];exact hkl
  obtain ⟨hA1,hql⟩:=HQ.out (by omega);subst hA1;obtain ⟨hpne,hpf,hpn⟩:=HSPEC.out.2 k _ (List.getElem?_eq_getElem hkp)
  have hzm : zs[k].m = Ms.evs x.m ps[k]:=by
    have h9:=congrArg (fun l=>l[k]?) HZS.out.1
    simp only [List.getElem?_map,List.getElem?_eq_getElem hkl,List.getElem?_eq_getElem hkp,Option.map_some] at h9
    injection h9
  have hzi:=fun (w : World) (hb : Below w6.heap.size w6 w)=>HPT.out w hb _ (List.getElem_mem hkl)
  have hzo:=fun (w : World) (hb : Below w6.heap.size w6 w)=>(HS.out w hb).own _ (List.getElem_mem hkl)
  have hzr:=fun (w : World) (hb : Below w6.heap.size w6 w)=>row_range (HS.out w hb).row (List.getElem?_eq_getElem hkl)
  have hmem : zs[k] ∈ zs:=List.getElem_mem hkl
  have htk : (ps.take (k + 1)).flatten = (ps.take k).flatten ++ ps[k]:=by
    rw [List.take_succ_eq_append_getElem hkp,List.flatten_append,List.flatten_cons,List.flatten_nil,List.append_nil]
  generalize zs[k] = z at *
  generalize ps[k] = p at *
  have hze : z.xs.map (·.e) = p:=by rw [← (hzo w6 HB6.out).es,hzm];rfl
  have hzn : z.n2 = p.length:=by rw [(hzo w6 HB6.out).ev.1,← List.length_map (f:=(·.e)),hze]
  have hp0 : 0 < p.length:=List.length_pos_iff.2 hpne
  have hpl : nA + p.length≤120:=by
    have h9:=congrArg List.length htk;rw [List.length_append,← HAE.out.1,List.length_map,← HOA.out.1] at h9;have h8:=flat_take ps (k + 1);rw [HSPEC.out.1,HEV.out.1] at h8
    have:=HN2.out
    omega
  have hpr : ∀ e ∈ p,rightE e = true:=fun e he=>by
    have h9 : e ∈ (ps.take (k + 1)).flatten:=by rw [htk];exact List.mem_append.2 (.inr he)
    have h8 : e ∈ ps.flatten:=by
      rw [← List.take_append_drop (k + 1) ps,List.flatten_append];exact List.mem_append.2 (.inl h9)
    rw [HSPEC.out.1] at h8;exact (HDL.out.2 e h8).2
  have hpp:=Ms.fits_put HDL.out.1 (mtu:=mt) p hpr (by omega);rw [hpf,← hzm] at hpp
  obtain ⟨hpe,hpb⟩ : (Ms.putM z.m).2 = 0∧(Ms.putM z.m).1.length≤mt:=by
    have hpp:=hpp.symm;rw [Bool.and_eq_true] at hpp;exact ⟨of_decide_eq_true hpp.1,of_decide_eq_true hpp.2⟩
  have hsz:=fun (w : World) (hb : Below w6.heap.size w6 w)=>msize_any z w (hzi w hb).1.ok
  simp only [hpe] at hsz
  obtain ⟨PB,hPB⟩ : ∃ PB,PB = (Ms.putM z.m).1.length:=⟨_,rfl⟩;rw [← hPB] at hsz hpb;obtain ⟨CZ,hCZ⟩ : ∃ CZ,CZ = z.cs:=⟨_,rfl⟩;rw [← hCZ] at hsz hzr;have HZA:=Lib.hid (by have:=mgv_at z;rw [← hCZ,hzm] at this;exact this);have SZC:=Lib.hid (show CZ.size = 16 by rw [hCZ];rfl);have OZC:=Lib.hid (show CZ.all (·.oneCell') = true by rw [hCZ];exact z.one);have HSZ:=Lib.hid hsz;have HZI:=Lib.hid hzi;have HZO:=Lib.hid hzo;have HZR:=Lib.hid hzr;have HZM:=Lib.hid (And.intro hzm (And.intro hze hmem));have HTK:=Lib.hid htk;have HPN:=Lib.hid (And.intro hpn hpr);have HCZ:=Lib.hid hCZ;clear hsz hzi hzo hzr hzm hze hmem htk hpn hpr hpp hpf hpne hpe hPB hCZ
  have hk0 : (0 : Int)≤(k : Int):=by omega
  have hkn : (k : Int) < (nz : Int):=by omega
  have hzn0 : 0 < z.n2:=by omega
  have hpl : nA + z.n2≤120:=by omega
  have HZN:=Lib.hid (And.intro hzn hp0);clear hzn hp0;have hrng:=HZR.out wr hbw;clear hbw
  go_upto_region 12 with first
    | ((with_reducible refine wpList_ldr rowMg hrng SZC.out ?_ ?_);rotate_left;(rfl))
    | ((with_reducible refine wpList_st (cs:=CZ) rowMg (Blk.new _ _ _) SZC.out ?_ OZC.out ?_ ?_ ?_);(rfl);rotate_left;(rfl);(rfl);intro wa kz ga za)
  have bA : Below wr.heap.size wr wa:=new_below ga;obtain ⟨g9,hg9⟩ : ∃ g9,g9 = wr.heap.size:=⟨_,rfl⟩;rw [← hg9] at kz ⊢
  have hg96 : w6.heap.size≤g9:=by rw [hg9];exact HBW.out.size
  have hba:=HBW.out.trans (bA.mono HBW.out.size);have HSZ2:=Lib.hid (HSZ.out wa hba);have HOA:=Lib.hid (HOA.out.below bA (Nat.le_refl _));have HBW:=Lib.hid hba;have kbr:=kbr.below bA kbr.lt;clear ga za hg9 bA hba hrng
  go_wp2_with ((with_reducible refine wpList_ld rowMg kz SZC.out ?_ ?_);rotate_left;(rfl))
  refine HSZ2.out.mono ?_;rintro e wb ⟨rfl,bb⟩;have kz:=kz.below bb kz.lt;have kbr:=kbr.below bb kbr.lt;have HOA:=Lib.hid (HOA.out.below bb (Nat.le_refl _));have HBW:=Lib.hid (HBW.out.trans (bb.mono HBW.out.size));have c14 : wb.cell? ⟨g9,14,none⟩ = some (.slice z.A2 z.n2 z.c2):=(kz.cell 14).trans HZA.out.2.2.2.2.2.2.1;have c1 : wb.cell? ⟨g9,1,none⟩ = some (.int .i64 x.m.frm):=(kz.cell 1).trans HZA.out.2.1;have c2 : wb.cell? ⟨g9,2,none⟩ = some (.int .i64 x.m.to):=(kz.cell 2).trans HZA.out.2.2.1;have d1 : wb.cell? ⟨g,1,none⟩ = some (.int .i64 x.m.frm):=(kbr.cell 1).trans HAT.out.2.1;have d2 : wb.cell? ⟨g,2,none⟩ = some (.int .i64 x.m.to):=(kbr.cell 2).trans HAT.out.2.2.1
  have hq0 : ((z.n2 : Int) == 0) = false:=by rw [beq_eq_false_iff_ne];omega
  have hq1 : ¬ (mt : Int) < (PB : Int):=by omega
  have hk1 : IntKind.i64.wrap ((k : Int) + 1) = (k : Int) + 1:=IntWalk.i64_in _ (by omega);clear bb HSZ2
  by_cases hlast : k + 1 < nz
  case neg =>
    have hkl1 : ¬ (k : Int) + 1 < (nz : Int):=by omega
    go_upto_region 21 with fail
    clear c14 c1 c2 d1 d2 hq0 hq1 hk1 hkl1;have hz14 : wb.cell? ⟨g9,14,none⟩ = some (.slice z.A2 z.n2 z.c2):=(kz.cell 14).trans HZA.out.2.2.2.2.2.2.1;have HO:=Lib.hid HOA.out;have HRZ:=Lib.hid (show Rd wb wb.heap.size z.A2 (ecsL z.xs) from (HZO.out wb HBW.out).ev.raw);have HZL:=Lib.hid (HZO.out wb HBW.out).ev.1;have hs6 : w6.heap.size≤wb.heap.size:=HBW.out.size
    go_wp2_with (at_builtin;refine wpList_appE rfl (.tmp 119) (.tmp 121) rfl rfl HO.out rfl (news:=z.xs) HRZ.out HZL.out ?ta2 ?ta3 ?_)
    case ta2=>omega
    case ta3=>exact hs6
    intro A9 c9 w9 o9 g9' m9 b9;have HBW9:=Lib.hid (HBW.out.trans b9);have HO9:=Lib.hid o9;clear o9 g9' m9 b9 hz14 HO HRZ;go_wp2_with fail
    go_roundw
    case rel=>exact ⟨k + 1,A9,c9,nA + z.n2,av ++ z.xs,by omega,by go_num,rfl,HO9.out,by rw [List.map_append,HAE.out.1,HZM.out.2.1,HTK.out],fun a ha=>by
      rcases List.mem_append.1 ha with h | h
      · exact HAE.out.2 a h
      · exact ⟨z,HZM.out.2.2,h⟩,HBW9.out⟩
    case measure=>simp [intOf];omega
  have hkl1 : (k : Int) + 1 < (nz : Int):=by omega
  have hkl2 : k + 1 < zs.length:=by rw [← HNZ.out];exact hlast
  have hkp2 : k + 1 < ps.length:=by rw [← HZS.out.2];exact hkl2
  obtain ⟨hh,ht,hqe,hnf,hnl,hnm⟩:=HPN.out.1 _ (List.getElem?_eq_getElem hkp2)
  have hzm2 : zs[k + 1].m = Ms.evs x.m ps[k + 1]:=by
    have h9:=congrArg (fun l=>l[k + 1]?) HZS.out.1
    simp only [List.getElem?_map,List.getElem?_eq_getElem hkl2,List.getElem?_eq_getElem hkp2,Option.map_some] at h9
    injection h9
  have hzo2:=fun (w : World) (hb : Below w6.heap.size w6 w)=>(HS.out w hb).own _ (List.getElem_mem hkl2)
  obtain ⟨k1,hk1e⟩ : ∃ k1,k1 = k + 1:=⟨_,rfl⟩
  have hcr:=fun (w : World) (hb : Below w6.heap.size w6 w)=>(HS.out w hb).row.cell (List.getElem?_eq_getElem hkl2) (j:=14) (v:=.slice zs[k + 1].A2 zs[k + 1].n2 zs[k + 1].c2) rfl
  generalize zs[k + 1] = z2 at *
  rw [hqe] at hzm2
  have hxe : z2.xs.map (·.e) = hh :: ht:=by rw [← (hzo2 w6 HB6.out).es,hzm2];rfl
  obtain ⟨u,r,hxs⟩ : ∃ u r,z2.xs = u :: r:=by
    cases hx : z2.xs with
    | nil=>rw [hx] at hxe;cases hxe
    | cons u r=>exact ⟨u,r,rfl⟩
  have hue : u.e = hh:=by rw [hxs] at hxe;injection hxe
  have hz2n : 0 < z2.n2:=by rw [(hzo2 w6 HB6.out).ev.1,hxs];simp
  obtain ⟨q2,hA2,_,hq2⟩:=OwnEv.form (hzo2 w6 HB6.out).ev hz2n
  have hru:=fun (w : World) (hb : Below w6.heap.size w6 w)=>(by have h:=(hzo2 w hb).ev;rw [hA2,hxs] at h;exact ev0_range h : w.rangeAt q2 0 u.cs.toList)
  have huo:=fun (w : World) (hb : Below w6.heap.size w6 w)=>(hzo2 w hb).eo u (by rw [hxs];exact List.mem_cons_self ..)
  rw [hA2,← hk1e] at hcr;obtain ⟨CU,hCU⟩ : ∃ CU,CU = u.cs:=⟨_,rfl⟩;rw [← hCU] at hru;have SU:=Lib.hid (show CU.size = 14 by rw [hCU];rfl);have HBS:=Lib.hid (fun w=>(by have:=buildE1 u w;rw [← hCU] at this;exact this : (Instr.buildSlice 24 1 #[(0,.agg CU)]).run Try.prog w = .ok (.slice (some ⟨w.heap.size,0,none⟩) 1 1) (w.alloc (.cells CU 50))));have HCU:=Lib.hid hCU;have HRU:=Lib.hid hru;have HUO:=Lib.hid huo;have HCR:=Lib.hid hcr;have HUE:=Lib.hid hue;have HNF:=Lib.hid (And.intro hnf (And.intro hnl hnm));have HK1:=Lib.hid hk1e;obtain ⟨n2',hn2'⟩ : ∃ n2',n2' = z2.n2:=⟨_,rfl⟩;rw [← hn2'] at HCR hz2n;clear hn2' hqe hzm2 hzo2 hcr hxe hxs hue hA2 hru huo hCU hnf hnl hnm hk1e
  go_upto_region 16 with fail
  go_upto_region 17 with first
    | ((with_reducible refine wpList_ld rowMg kz SZC.out ?_ ?_);rotate_left;(rfl))
    | ((with_reducible refine wpList_st (cs:=CZ) rowMg (Blk.new _ _ _) SZC.out ?_ OZC.out ?_ ?_ ?_);(rfl);rotate_left;(rfl);(rfl);intro wd k12 gd zd)
  have bd : Below wb.heap.size wb wd:=new_below gd;obtain ⟨g12,hg12⟩ : ∃ g12,g12 = wb.heap.size:=⟨_,rfl⟩;rw [← hg12] at k12 ⊢
  have hgne : g9 ≠ g12:=by rw [hg12];exact Nat.ne_of_lt kz.lt
  have hgne2 : g ≠ g12:=by rw [hg12];exact Nat.ne_of_lt kbr.lt
  have kz:=kz.below bd kz.lt
  have hg12a : w6.heap.size≤g12:=by rw [hg12];exact HBW.out.size
  have kbr:=kbr.below bd kbr.lt;have HOA:=Lib.hid (HOA.out.below bd (Nat.le_refl _));have HBW:=Lib.hid (HBW.out.trans (bd.mono HBW.out.size));have hzc : wd.cell? ⟨g9,14,none⟩ = some (.slice z.A2 z.n2 z.c2):=(kz.cell 14).trans HZA.out.2.2.2.2.2.2.1;have hl9:=kz.lt;have hl12:=k12.lt
  have HCP:=Lib.hid fun (w : World) (hb : Below wd.heap.size wd w)=>(by
    have hb6:=HBW.out.trans (hb.mono HBW.out.size)
    exact rcopies07_any z.A2 z.n2 z.c2 z.xs w (by omega) (HZI.out w hb6).1.ok.ok.ev (HZI.out w hb6).2.1.hm : Calls Try.prog 27 #[.slice z.A2 z.n2 z.c2] w (CopiesEnd w z.n2 z.xs))
  clear gd zd hg12 bd c14 c1 c2 d1 d2 hq0 hq1;refine wp_region_tailF 12 12 (fun L v w=>v 5 = .slice (some ⟨q,0,none⟩) nz c1∧v 8 = .int .i64 (k : Nat)∧v 9 = .pointer (some ⟨g9,0,none⟩)∧v 12 = .pointer (some ⟨g12,0,none⟩)∧Below wd.heap.size wd w∧(L 0 = true→v 93 = .pointer (some ⟨g9,14,none⟩))∧(L 1 = true→v 94 = .slice z.A2 z.n2 z.c2)∧(L 2 = true→(∃ Ac cc ys,v 95 = .slice Ac z.n2 cc∧OwnEv w wd.heap.size Ac z.n2 cc ys∧(∀ y ∈ ys,EvOwn w wd.heap.size y)∧ys.map (·.e) = z.xs.map (·.e)))∧(L 3 = true→v 96 = .slice (some ⟨q,0,none⟩) nz c1)∧(L 4 = true→v 97 = .int .i64 (k : Nat))∧(L 5 = true→v 98 = .int .i64 ((k : Int) + 1))∧(L 6 = true→v 99 = .pointer (some ⟨q,k1 * 16,none⟩))∧(L 7 = true→v 100 = .pointer (some ⟨q,k1 * 16 + 14,none⟩))∧(L 8 = true→v 101 = .slice (some ⟨q2,0,none⟩) n2' z2.c2)∧(L 9 = true→v 102 = .pointer (some ⟨q2,0,none⟩))∧(L 10 = true→v 103 = .agg CU)∧(L 11 = true→(∃ gB : Nat,v 104 = .slice (some ⟨gB,0,none⟩) 1 1∧Blk w gB 50 CU))) [93,94,95,96,97,98,99,100,101,102,103,104] (by kernel_rfl) (by kernel_rfl) (by kernel_rfl) (by kernel_rfl) (by kernel_rfl) (by kernel_rfl) ?h0 ?hst ?hend
  case h0 =>
    intro L h0;have h0 : ∀ i,i < 12→L i = false:=h0;exact ⟨rfl,rfl,rfl,rfl,(Below.refl _ _).drew,offF h0 (i:=0) (by decide),offF h0 (i:=1) (by decide),offF h0 (i:=2) (by decide),offF h0 (i:=3) (by decide),offF h0 (i:=4) (by decide),offF h0 (i:=5) (by decide),offF h0 (i:=6) (by decide),offF h0 (i:=7) (by decide),offF h0 (i:=8) (by decide),offF h0 (i:=9) (by decide),offF h0 (i:=10) (by decide),offF h0 (i:=11) (by decide)⟩
  case hst =>
    show FactSteps _ _ _ _ [0,1,2,3,4,5,6,7,8,9,10,11]
    refine @FactSteps.cons _ _ _ _ 0 _ [] _ rfl (by kernel_rfl) ?s0 ?_;rotate_left;refine @FactSteps.cons _ _ _ _ 1 _ [0] _ rfl (by kernel_rfl) ?s1 ?_;rotate_left;refine @FactSteps.cons _ _ _ _ 2 _ [1] _ rfl (by kernel_rfl) ?s2 ?_;rotate_left;refine @FactSteps.cons _ _ _ _ 3 _ [] _ rfl (by kernel_rfl) ?s3 ?_;rotate_left;refine @FactSteps.cons _ _ _ _ 4 _ [] _ rfl (by kernel_rfl) ?s4 ?_;rotate_left;refine @FactSteps.cons _ _ _ _ 5 _ [4] _ rfl (by kernel_rfl) ?s5 ?_;rotate_left;refine @FactSteps.cons _ _ _ _ 6 _ [3,5] _ rfl (by kernel_rfl) ?s6 ?_;rotate_left;refine @FactSteps.cons _ _ _ _ 7 _ [6] _ rfl (by kernel_rfl) ?s7 ?_;rotate_left;refine @FactSteps.cons _ _ _ _ 8 _ [7] _ rfl (by kernel_rfl) ?s8 ?_;rotate_left;refine @FactSteps.cons _ _ _ _ 9 _ [8] _ rfl (by kernel_rfl) ?s9 ?_;rotate_left;refine @FactSteps.cons _ _ _ _ 10 _ [9] _ rfl (by kernel_rfl) ?s10 ?_;rotate_left;refine @FactSteps.cons _ _ _ _ 11 _ [10] _ rfl (by kernel_rfl) ?s11 ?_;rotate_left;exact FactSteps.nil
    case s0 =>
      rintro L a v w hv hg hL hd hcl ⟨e5,e8,e9,e12,hb,f0,f1,f2,f3,f4,f5,f6,f7,f8,f9,f10,f11⟩ K hK;refine step_do rfl ?_;clear hv;go_simp;exact hK.out _ _ ⟨e5,e8,e9,e12,hb,fun _=>rfl,f1,f2,f3,f4,f5,f6,f7,f8,f9,f10,f11⟩
    case s1 =>
      rintro L a v w hv hg hL hd hcl ⟨e5,e8,e9,e12,hb,f0,f1,f2,f3,f4,f5,f6,f7,f8,f9,f10,f11⟩ K hK;have g0:=f0 (hd 0 (by decide));have cs : w.cell? ⟨g9,14,none⟩ = some (.slice z.A2 z.n2 z.c2):=(hb.cell (p:=⟨g9,14,none⟩) hl9).trans hzc;refine step_do rfl ?_;clear hv;go_simp;exact hK.out _ _ ⟨e5,e8,e9,e12,hb,f0,fun _=>rfl,f2,f3,f4,f5,f6,f7,f8,f9,f10,f11⟩
    case s2 =>
      rintro L a v w hv hg hL hd hcl ⟨e5,e8,e9,e12,hb,f0,f1,f2,f3,f4,f5,f6,f7,f8,f9,f10,f11⟩ K hK;have g1:=f1 (hd 1 (by decide));have hcp:=HCP.out w hb;refine step_do rfl ?_;clear hv;go_simp;refine hcp.mono ?_;rintro e wy ⟨Ac,cc,ys,rfl,oc,oy,hye,bb⟩;exact hK.out _ _ ⟨e5,e8,e9,e12,(hb.trans (bb.mono hb.size)),f0,f1,fun _=>⟨Ac,cc,ys,rfl,oc.mono hb.size,fun y hy=>⟨(oy y hy).1,(oy y hy).2.1.mono hb.size,(oy y hy).2.2⟩,hye⟩,f3,f4,f5,f6,f7,f8,f9,f10,(fun h=>(by obtain ⟨gB,e,k⟩:=f11 h;exact ⟨gB,e,k.below bb k.lt⟩))⟩
    case s3 =>
      rintro L a v w hv hg hL hd hcl ⟨e5,e8,e9,e12,hb,f0,f1,f2,f3,f4,f5,f6,f7,f8,f9,f10,f11⟩ K hK;refine step_do rfl ?_;clear hv;go_simp;exact hK.out _ _ ⟨e5,e8,e9,e12,hb,f0,f1,f2,fun _=>rfl,f4,f5,f6,f7,f8,f9,f10,f11⟩
    case s4 =>
      rintro L a v w hv hg hL hd hcl ⟨e5,e8,e9,e12,hb,f0,f1,f2,f3,f4,f5,f6,f7,f8,f9,f10,f11⟩ K hK;refine step_do rfl ?_;clear hv;go_simp;exact hK.out _ _ ⟨e5,e8,e9,e12,hb,f0,f1,f2,f3,fun _=>rfl,f5,f6,f7,f8,f9,f10,f11⟩
    case s5 =>
      rintro L a v w hv hg hL hd hcl ⟨e5,e8,e9,e12,hb,f0,f1,f2,f3,f4,f5,f6,f7,f8,f9,f10,f11⟩ K hK;have g4:=f4 (hd 4 (by decide));have g4:=f4 (hd 4 (by decide));refine step_do rfl ?_;clear hv;go_simp;exact hK.out _ _ ⟨e5,e8,e9,e12,hb,f0,f1,f2,f3,f4,fun _=>rfl,f6,f7,f8,f9,f10,f11⟩
    case s6 =>
      rintro L a v w hv hg hL hd hcl ⟨e5,e8,e9,e12,hb,f0,f1,f2,f3,f4,f5,f6,f7,f8,f9,f10,f11⟩ K hK;have g3:=f3 (hd 3 (by decide));have g5:=f5 (hd 5 (by decide));have g3:=f3 (hd 3 (by decide));have g5:=f5 (hd 5 (by decide))
      have et : ((k : Int) + 1).toNat = k1:=by have:=HK1.out;omega
      have p0 : (0 : Int)≤(k : Int) + 1:=by omega
      refine step_do rfl ?_;clear hv;go_simp;exact hK.out _ _ ⟨e5,e8,e9,e12,hb,f0,f1,f2,f3,f4,f5,fun _=>rfl,f7,f8,f9,f10,f11⟩
    case s7 =>
      rintro L a v w hv hg hL hd hcl ⟨e5,e8,e9,e12,hb,f0,f1,f2,f3,f4,f5,f6,f7,f8,f9,f10,f11⟩ K hK;have g6:=f6 (hd 6 (by decide));refine step_do rfl ?_;clear hv;go_simp;exact hK.out _ _ ⟨e5,e8,e9,e12,hb,f0,f1,f2,f3,f4,f5,f6,fun _=>rfl,f8,f9,f10,f11⟩
    case s8 =>
      rintro L a v w hv hg hL hd hcl ⟨e5,e8,e9,e12,hb,f0,f1,f2,f3,f4,f5,f6,f7,f8,f9,f10,f11⟩ K hK;have g7:=f7 (hd 7 (by decide));have g7:=f7 (hd 7 (by decide));have hb6:=HBW.out.trans (hb.mono HBW.out.size);have cs:=HCR.out w hb6;refine step_do rfl ?_;clear hv;go_simp;exact hK.out _ _ ⟨e5,e8,e9,e12,hb,f0,f1,f2,f3,f4,f5,f6,f7,fun _=>rfl,f9,f10,f11⟩
    case s9 =>
      rintro L a v w hv hg hL hd hcl ⟨e5,e8,e9,e12,hb,f0,f1,f2,f3,f4,f5,f6,f7,f8,f9,f10,f11⟩ K hK;have g8:=f8 (hd 8 (by decide));have g8:=f8 (hd 8 (by decide))
      have p0 : (0 : Int) < (n2' : Int):=by omega
      refine step_do rfl ?_;clear hv;go_simp;exact hK.out _ _ ⟨e5,e8,e9,e12,hb,f0,f1,f2,f3,f4,f5,f6,f7,f8,fun _=>rfl,f10,f11⟩
    case s10 =>
      rintro L a v w hv hg hL hd hcl ⟨e5,e8,e9,e12,hb,f0,f1,f2,f3,f4,f5,f6,f7,f8,f9,f10,f11⟩ K hK;have g9:=f9 (hd 9 (by decide));have hb6:=HBW.out.trans (hb.mono HBW.out.size);refine step_do rfl ?_;refine wp_ldr rowE (.tmp 102) rfl ((hv 102).trans g9) (HRU.out w hb6) SU.out ?_;exact hK.out _ _ ⟨e5,e8,e9,e12,hb,f0,f1,f2,f3,f4,f5,f6,f7,f8,f9,fun _=>rfl,f11⟩
    case s11 =>
      rintro L a v w hv hg hL hd hcl ⟨e5,e8,e9,e12,hb,f0,f1,f2,f3,f4,f5,f6,f7,f8,f9,f10,f11⟩ K hK;have q10:=(hv 103).trans (f10 (hd 10 (by decide)));have bb : Below w.heap.size w (w.alloc (.cells CU 50)):=(Below.refl _ _).alloc (Nat.le_refl _) _;refine step_do rfl ?_;refine step_bs (v:=.slice (some ⟨w.heap.size,0,none⟩) 1 1) (w':=w.alloc (.cells CU 50)) 24 1 #[(0,.tmp 103)] rfl (by simp only [List.map_toArray,List.map_cons,List.map_nil,q10];exact HBS.out w) ?_;exact hK.out _ _ ⟨e5,e8,e9,e12,(hb.trans (bb.mono hb.size)),f0,f1,(fun h=>(by obtain ⟨Ac,cc,ys,e,o,oy,he⟩:=f2 h;exact ⟨Ac,cc,ys,e,o.below bb (Nat.le_refl _),fun y hy=>⟨(oy y hy).1,(oy y hy).2.1.below bb (Nat.le_refl _),(oy y hy).2.2⟩,he⟩)),f3,f4,f5,f6,f7,f8,f9,f10,fun _=>⟨w.heap.size,rfl,Blk.new w _ _⟩⟩
  case hend =>
  rintro L v we hall ⟨e5,e8,e9,e12,hb,f0,f1,f2,f3,f4,f5,f6,f7,f8,f9,f10,f11⟩;have hL : ∀ i,i < 12→L i = true:=hall;have f0:=f0 (hL 0 (by decide));have f1:=f1 (hL 1 (by decide));have f2:=f2 (hL 2 (by decide));have f3:=f3 (hL 3 (by decide));have f4:=f4 (hL 4 (by decide));have f5:=f5 (hL 5 (by decide));have f6:=f6 (hL 6 (by decide));have f7:=f7 (hL 7 (by decide));have f8:=f8 (hL 8 (by decide));have f9:=f9 (hL 9 (by decide));have f10:=f10 (hL 10 (by decide));have f11:=f11 (hL 11 (by decide));obtain ⟨Ac,cc,ys,q2f,oc,oy,hye⟩:=f2;obtain ⟨gB,q11,kB⟩:=f11
  simp only [finA,List.foldl_cons,List.foldl_nil,Act.put,List.setIfInBounds_toArray,List.set_cons_succ,List.set_cons_zero,f0,f1,f3,f4,f5,f6,f7,f8,f9,f10,q2f,q11]
  have HBD:=Lib.hid hb;have hds : wd.heap.size≤we.heap.size:=hb.size;clear e5 e8 e9 e12 f0 f1 f3 f4 f5 f6 f7 f8 f9 f10 hL hall hb
  show wpList _ _ _ [_,_,_] _ _
  have HOC:=Lib.hid oc;have HOY:=Lib.hid (And.intro oy hye);have HRB:=Lib.hid kB.rdMg;have hlB:=kB.lt;clear oc oy hye kB q2f q11 hzc HCP
  go_upto_region 18 with (at_builtin;refine wpList_appE rfl (.tmp 95) (.tmp 104) rfl rfl HOC.out rfl (news:=[u]) (B:=gB + 1) ?hd1 rfl ?hd2 ?hd3 ?_)
  case hd1=>rw [show ecsL [u] = CU.toList by rw [HCU.out];simp [ecsL]];exact HRB.out
  case hd2=>omega
  intro A9 c9 w9 o9 g9' m9 b9;have b0:=HBD.out.trans b9;have kz:=kz.below b0 hl9;have k12:=k12.below b0 hl12;have kbr:=kbr.below b0 kbr.lt;have HOA:=Lib.hid (HOA.out.below b0 (Nat.le_refl _));have hwd : w6.heap.size≤wd.heap.size:=HBW.out.size;have hbw:=HBW.out.trans (b0.mono hwd)
  have hyo : ∀ y ∈ ys,EvOwn w9 wd.heap.size y:=fun y hy=>⟨(HOY.out.1 y hy).1,(HOY.out.1 y hy).2.1.grown g9' (own2_ne (HOY.out.1 y hy).2.1.2 HOC.out.2 (by decide)),(HOY.out.1 y hy).2.2⟩
  have f14 : w9.cell? ⟨g12,14,none⟩ = some (.slice z.A2 z.n2 z.c2):=(k12.cell 14).trans HZA.out.2.2.2.2.2.2.1;have u14:=k12.free 14;have hl12b:=k12.lt;obtain ⟨Y,hY⟩ : ∃ Y : MgV,Y = ⟨Ms.evs z.m ((ys ++ [u]).map (·.e)),z.A1,z.n1,z.c1,ys ++ [u],A9,z.n2 + 1,c9,z.A3,z.n3,z.c3⟩:=⟨_,rfl⟩;obtain ⟨w13,hw13⟩ : ∃ w13,w13 = w9.setCell ⟨g12,14,none⟩ (.slice A9 (z.n2 + 1) c9):=⟨_,rfl⟩
  have k13 : Blk w13 g12 27 Y.cs:=by
    have h:=k12.set_ 14 (.slice A9 (z.n2 + 1) c9);rw [HCZ.out] at h;rw [hw13,hY];exact h
  have o13 : OwnEv w13 wd.heap.size A9 (z.n2 + 1) c9 (ys ++ [u]):=by rw [hw13];exact o9.far (p:=⟨g12,14,none⟩) hl12 _
  have ho13 : ∀ y ∈ ys,EvOwn w13 wd.heap.size y:=fun y hy=>by rw [hw13];exact (hyo y hy).far (p:=⟨g12,14,none⟩) hl12 _
  have hbw13 : Below w6.heap.size w6 w13:=by rw [hw13];exact hbw.setCell (p:=⟨g12,14,none⟩) hg12a _
  have kz13 : Blk w13 g9 27 CZ:=by rw [hw13];exact kz.far (p:=⟨g12,14,none⟩) hgne _
  have kb13 : Blk w13 g 27 C:=by rw [hw13];exact kbr.far (p:=⟨g12,14,none⟩) hgne2 _
  have hoa13 : OwnEv w13 w6.heap.size AA nA cA av:=⟨HOA.out.1,by
    rw [hw13]
    exact ownsRow_keep HOA.out.2 fun k hk=>Below.heap_setCell w9 ⟨g12,14,none⟩ _ k (fun e=>own_ne HOA.out.2 k12 (by decide) (by rw [hk,e]))⟩
  have hzi:=(HZI.out w13 hbw13).1.ok
  have hYI : MgIn w13 Y:=by
    rw [hY];refine ⟨⟨hzi.ok.u,hzi.ok.more,o13.row (fun y hy=>?_),rfl,hzi.ok.mem⟩,hzi.wu,by show z.n2 + 1≤_;omega,hzi.b3⟩
    rcases List.mem_append.1 hy with h | h
    · exact (ho13 y h).ok
    · rw [List.mem_singleton.1 h];exact (HUO.out w13 hbw13).ok
  have hYm : Y.m = Ms.evs x.m (p ++ [hh]):=by
    rw [hY]
    show Ms.evs z.m ((ys ++ [u]).map (·.e)) = _
    rw [HZM.out.1,List.map_append,HOY.out.2,HZM.out.2.1,List.map_cons,List.map_nil,HUE.out]
    rfl
  have hput:=Ms.fits_put HDL.out.1 (mtu:=mt) (p ++ [hh]) (fun e he=>(HDL.out.2 e (HNF.out.2.2 e he)).2) (by have h8:=HNF.out.2.1;rw [HEV.out.1] at h8;have:=HN2.out;omega);rw [HNF.out.1,← hYm] at hput;have hsy:=msize_any Y w13 hYI;have SY:=Lib.hid Y.size;obtain ⟨PB2,hPB2⟩ : ∃ PB2,PB2 = (Ms.putM Y.m).1.length:=⟨_,rfl⟩;obtain ⟨PE2,hPE2⟩ : ∃ PE2,PE2 = (Ms.putM Y.m).2:=⟨_,rfl⟩;rw [← hPB2,← hPE2] at hsy hput;obtain ⟨CY,hCY⟩ : ∃ CY,CY = Y.cs:=⟨_,rfl⟩;rw [← hCY] at k13 SY hsy;have HSY:=Lib.hid hsy;have HPUT:=Lib.hid hput;have HW13:=Lib.hid hw13;have HOA:=Lib.hid hoa13;have HBW:=Lib.hid hbw13;clear b0 hbw hyo hY k12 kz kbr o9 g9' m9 b9 o13 ho13 hbw13 hoa13 hzi hYI hYm hput hsy hPB2 hPE2 hCY hw13 HOC HOY HBD HRB
  go_upto_region 18 with fail
  rw [← HW13.out];clear f14 u14 hl12b HW13
  go_wp2_with ((with_reducible refine wpList_ld rowMg k13 SY.out ?_ ?_);rotate_left;(rfl))
  refine HSY.out.mono ?_;rintro e wf ⟨rfl,bf⟩;have kz:=kz13.below bf kz13.lt;have kbr:=kb13.below bf kb13.lt;have HOA:=Lib.hid (HOA.out.below bf (Nat.le_refl _));have HBW:=Lib.hid (HBW.out.trans (bf.mono HBW.out.size));clear bf HSY k13 kz13 kb13
  by_cases hpe : PE2 = 0
  case neg =>
    have hpq : ¬ ((PE2 : Nat) : Int) = 0:=by omega
    go_upto_region 21 with fail
    clear hpq;have hz14 : wf.cell? ⟨g9,14,none⟩ = some (.slice z.A2 z.n2 z.c2):=(kz.cell 14).trans HZA.out.2.2.2.2.2.2.1;have HO:=Lib.hid HOA.out;have HRZ:=Lib.hid (show Rd wf wf.heap.size z.A2 (ecsL z.xs) from (HZO.out wf HBW.out).ev.raw);have HZL:=Lib.hid (HZO.out wf HBW.out).ev.1;have hs6 : w6.heap.size≤wf.heap.size:=HBW.out.size
    go_wp2_with (at_builtin;refine wpList_appE rfl (.tmp 119) (.tmp 121) rfl rfl HO.out rfl (news:=z.xs) HRZ.out HZL.out ?tb2 ?tb3 ?_)
    case tb2=>omega
    case tb3=>exact hs6
    intro A9 c9 w9 o9 g9' m9 b9;have HBW9:=Lib.hid (HBW.out.trans b9);have HO9:=Lib.hid o9;clear o9 g9' m9 b9 hz14 HO HRZ;go_wp2_with fail
    go_roundw
    case rel=>exact ⟨k + 1,A9,c9,nA + z.n2,av ++ z.xs,by omega,by go_num,rfl,HO9.out,by rw [List.map_append,HAE.out.1,HZM.out.2.1,HTK.out],fun a ha=>by
      rcases List.mem_append.1 ha with h | h
      · exact HAE.out.2 a h
      · exact ⟨z,HZM.out.2.2,h⟩,HBW9.out⟩
    case measure=>simp [intOf];omega
  subst hpe
  have hpb2 : ¬ PB2≤mt:=fun h=>by have h9:=HPUT.out;rw [decide_eq_true h] at h9;cases h9
  have hpb3 : ¬ (PB2 : Int)≤(mt : Int):=by omega
  go_upto_region 21 with fail
  clear hpb3 hpb2;have hz14 : wf.cell? ⟨g9,14,none⟩ = some (.slice z.A2 z.n2 z.c2):=(kz.cell 14).trans HZA.out.2.2.2.2.2.2.1;have HO:=Lib.hid HOA.out;have HRZ:=Lib.hid (show Rd wf wf.heap.size z.A2 (ecsL z.xs) from (HZO.out wf HBW.out).ev.raw);have HZL:=Lib.hid (HZO.out wf HBW.out).ev.1;have hs6 : w6.heap.size≤wf.heap.size:=HBW.out.size
  go_wp2_with (at_builtin;refine wpList_appE rfl (.tmp 119) (.tmp 121) rfl rfl HO.out rfl (news:=z.xs) HRZ.out HZL.out ?tc2 ?tc3 ?_)
  case tc2=>omega
  case tc3=>exact hs6
  intro A9 c9 w9 o9 g9' m9 b9;have HBW9:=Lib.hid (HBW.out.trans b9);have HO9:=Lib.hid o9;clear o9 g9' m9 b9 hz14 HO HRZ;go_wp2_with fail
  go_roundw
  case rel=>exact ⟨k + 1,A9,c9,nA + z.n2,av ++ z.xs,by omega,by go_num,rfl,HO9.out,by rw [List.map_append,HAE.out.1,HZM.out.2.1,HTK.out],fun a ha=>by
    rcases List.mem_append.1 ha with h | h
    · exact HAE.out.2 a h
    · exact ⟨z,HZM.out.2.2,h⟩,HBW9.out⟩
  case measure=>simp [intOf];omega
set_option maxRecDepth 100000 in
theorem lifted (os : Os) (started : os.Started) (H : Type) (enc : TypeId × Value→H) :
    ReturnsInHanded {} Try.checked os 7 .any (Rows.chunkFitsSpec.pre6 enc Try.prog Try.f7 Rows.chunkFitsRow.domain false) (Rows.chunkFitsSpec.post enc Try.prog Try.f7 false true false false):=by
  refine returnsInHanded_of_change_sized (C:=Try.checked) own started (by kernel_rfl) Try.func7
    (ChangeSpec.witness6 (enc:=enc) (C:=Try.checked) false ⟨#[],#[.agg ZM,.int .i64 0],[]⟩ 8 (by kernel_rfl) (by kernel_rfl) (by kernel_rfl) (by kernel_rfl)) ?_
  intro W base args ds gs before hval0 hW hcnd hsz0 _;have hsz : (DataW.weightsEach Try.prog (Try.f7.params.toList ++ []) (ds ++ gs)).all (·≤reachBytes) = true:=hsz0;have hval : ∀ (j : Nat) t v,Try.f7.params[j]? = some t→args[j]? = some v→Value.okWide Try.prog W .any base t v:=hval0;have hW':=hW;obtain ⟨p,q,hA0,hV,rfl,hfz,hnd⟩:=hW;have hA : DataW.TrodAll enc Try.prog W 0 (fun _=>true) true Try.f7.params.toList args.toList ds p:=hA0;rw [Try.params7] at hA hval hsz;obtain ⟨v0,vs0,d0,ds0,p0,q0,hargs,rfl,rfl,h0,r0⟩:=trodAll_cons hA;obtain ⟨v1,vs1,d1,ds1,p1,q1,rfl,rfl,rfl,h1,r1⟩:=trodAll_cons r0;obtain ⟨rfl,rfl,rfl⟩:=trodAll_nil r1
  obtain rfl : args = #[v0,v1]:=by cases args;simp_all
  obtain ⟨rfl,rfl⟩:=trodVars_none hV
  have lt0 : ∀ x ∈ p0,x.block < W.heap.size:=by obtain ⟨m,hm⟩:=h0;exact DataW.trod_lt m _ _ _ hm
  have k0:=h0
  have lt1 : ∀ x ∈ p1,x.block < W.heap.size:=by obtain ⟨m,hm⟩:=h1;exact DataW.trod_lt m _ _ _ hm
  have k1:=h1;have sz0 : Sz 27 d0:=sz_arg (j:=0) hsz rfl rfl;obtain ⟨x0,rfl,hk0,wu0,p10,p20,p30,p40,p50⟩:=open_msgc (hval 0 27 v0 rfl rfl) h0 sz0;obtain ⟨x1,rfl,rfl,rfl,wf1⟩:=open_int Try.underlying3 (hval 1 3 v1 rfl rfl) h1
  have hb1 : -9223372036854775808≤x1∧x1≤9223372036854775807:=by
    have hmin : IntKind.i64.min = -9223372036854775808:=rfl;have hmax : IntKind.i64.max = 9223372036854775807:=rfl
    simp only [Lit.wf,Bool.and_eq_true,decide_eq_true_eq] at wf1
    omega
  clear hA0 hval0
  refine (walk x0 x1 W hk0 wu0 p10 p20 p30 p40 p50 hb1.1 hb1.2).mono fun e W' ⟨he,bel⟩=>?_
  subst he;exact ⟨_,rfl,_,_,_,[],_,[],hW',trodAll_mk1 (shut_bool Try.underlying4 _),(trodAll_cons_mk (Below.trod laidOut (by kernel_rfl) (of_decide_eq_true (by kernel_rfl)) k0 bel lt0) (trodAll_cons_mk (Below.trod laidOut (by kernel_rfl) (of_decide_eq_true (by kernel_rfl)) k1 bel lt1) trodAll_mk0)),rfl,bel.frame _,fun h=>by cases h⟩
theorem proved : Rows.ChunkFitsSaid :=
  OpenClaim.holds_of_wide 7 Try.f7 rfl rfl rfl rfl rfl rfl rfl ⟨rfl,rfl,rfl,rfl,rfl⟩ rfl rfl rfl rfl rfl (by kernel_rfl) Try.func7 (by kernel_rfl)
    (of_decide_eq_true (by kernel_rfl)) (by unfold Func.isWrapper;first | (rw [if_pos (by decide +kernel)];kernel_rfl) | (rw [if_neg (by decide +kernel)];exact ⟨rfl,rfl⟩))
    (fun os started H enc _=>lifted os started H enc)
#print axioms proved
