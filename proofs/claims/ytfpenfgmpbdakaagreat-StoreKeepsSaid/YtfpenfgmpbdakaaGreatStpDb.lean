import Derived.Test.YtfpenfgmpbdakaaGreatDotClo
import Derived.Test.YtfpenfgmpbdakaaGreatEvPol
import Derived.Test.YtfpenfgmpbdakaaGreatQuiet
import Derived.Test.YtfpenfgmpbdakaaGreatVintPut
import Derived.RegionTactic
import Derived.LoopN
import Derived.Test.YtfpenfgmpbdakaaGreatBytes
import Derived.Test.YtfpenfgmpbdakaaGreatStoWalks
import Derived.Test.YtfpenfgmpbdakaaGreatDiskWords
namespace Go.Proofs.YtfpenfgmpbdakaaGreat
set_option linter.unusedVariables false
set_option linter.unusedSimpArgs false
set_option maxRecDepth 100000
open Go.RowKit
open Dot
def upT (G : Grid) (n q : Nat) : List Int:=(List.range 8).map fun j=>if j < n then (lead (G j) 98 : Int) else if j = n then (lead (G n) q : Int) else 0
theorem upT_len (G : Grid) (n q : Nat) : (upT G n q).length = 8:=by simp [upT]
theorem upT_get (G : Grid) (n q : Nat) {j : Nat} (hj : j < 8) : (upT G n q)[j]? = some (if j < n then (lead (G j) 98 : Int) else if j = n then (lead (G n) q : Int) else 0):=by
  unfold upT
  rw [List.getElem?_map,List.getElem?_range hj]
  rfl
theorem upT_at (G : Grid) (n q : Nat) (hn : n < 8) : (upT G n q).getD n 0 = lead (G n) q:=by
  rw [List.getD_eq_getElem?_getD,upT_get G n q hn]
  simp
theorem upT_ext {l : List Int} {G : Grid} {n q : Nat} (hl : l.length = 8) (h : ∀ j,j < 8→l[j]? = some (if j < n then (lead (G j) 98 : Int) else if j = n then (lead (G n) q : Int) else 0)) : l = upT G n q:=by
  apply List.ext_getElem?
  intro j
  by_cases hj : j < 8
  · rw [h j hj,upT_get G n q hj]
  · rw [List.getElem?_eq_none (by omega),List.getElem?_eq_none (by rw [upT_len];omega)]
theorem upT_start (G : Grid) : List.replicate 8 0 = upT G 0 0:=upT_ext rfl fun j hj=>by
  rw [List.getElem?_replicate,if_pos hj,if_neg (by omega)]
  split
  · simp [lead]
  · rfl
theorem upT_next (G : Grid) (n : Nat) : upT G n 98 = upT G (n + 1) 0:=upT_ext (upT_len _ _ _) fun j hj=>by
  rw [upT_get G n 98 hj]
  by_cases h1 : j < n
  · rw [if_pos h1,if_pos (by omega)]
  · by_cases h2 : j = n
    · subst h2
      rw [if_neg (by omega),if_pos rfl,if_pos (by omega)]
    · rw [if_neg h1,if_neg h2,if_neg (by omega)]
      by_cases h3 : j = n + 1
      · rw [if_pos h3];simp [lead]
      · rw [if_neg h3]
theorem upT_all (G : Grid) : upT G 8 0 = uptoS G:=by
  unfold upT uptoS
  refine List.map_congr_left fun j hj=>?_
  rw [if_pos (by simpa using hj)]
theorem upT_same (G : Grid) (n q : Nat) (h : lead (G n) (q + 1) = lead (G n) q) : upT G n (q + 1) = upT G n q:=by unfold upT;rw [h]
theorem upT_set (G : Grid) (n q : Nat) (hn : n < 8) (h : lead (G n) (q + 1) = q) : (upT G n q).set n (q : Int) = upT G n (q + 1):=upT_ext (by rw [List.length_set,upT_len]) fun j hj=>by
  by_cases e : n = j
  · subst e
    rw [List.getElem?_set_self (by rw [upT_len];omega),if_neg (by omega),if_pos rfl,h]
  · rw [List.getElem?_set_ne e,upT_get G n q hj]
    by_cases h1 : j < n
    · rw [if_pos h1,if_pos h1]
    · rw [if_neg h1,if_neg h1,if_neg (fun h=>e h.symm),if_neg (fun h=>e h.symm)]
theorem numb_snoc (n : Nat) (l : List Nat) (q : Nat) : numb n (l ++ [q]) = numb n l ++ [((n : Int),(q : Int))]:=by unfold numb;rw [List.map_append];rfl
def CloI (w0 : World) (base g gs : Nat) (G : Grid) (n q : Nat) (w : World) : Prop:=q≤98∧n≤8∧Blk w g 196 (gc G)∧∃ A m c,Blk w gs 180 (uc (upT G n q) (.slice A m c))∧OwnD w base A m c (moreTo G n ++ numb n (rest (G n) q))∧A.map (·.block) ≠ some gs∧Below base w0 w
theorem clo_step (w0 : World) (base g gs : Nat) (G : Grid) (h1 : g < base) (h2 : base≤gs) (n q : Nat) (w : World) (hn : n < 8) (hq : q < 98) (hg : G n q = true) (hI : CloI w0 base g gs G n q w) :
    Calls Tryz.prog 140 #[.agg #[.int .i64 (n : Nat),.int .i64 (q : Nat)],.pointer (some ⟨gs,0,none⟩)] w fun e w'=>e = .returned (.tuple #[])∧CloI w0 base g gs G n (q + 1) w':=by
  obtain ⟨_,_,kg,A,m,c,ks,oD,hne,hb⟩:=hI;have hat:=upT_at G n q hn;have hle:=lead_le (G n) q
  by_cases hl : q = lead (G n) q + 1
  · have e1 : lead (G n) (q + 1) = q:=by rw [lead,if_pos ⟨hg,hl⟩]
    have e2 : rest (G n) (q + 1) = rest (G n) q:=by rw [rest,if_neg (by simp [← hl])]
    refine (clo_up gs n q _ (upT_len G n q) _ w hn hq (by rw [hat];omega) ks).mono ?_;rintro e w' ⟨rfl,k,gr⟩;rw [upT_set G n q hn e1] at k;refine ⟨rfl,by omega,by omega,kg.grown gr (by intro h;injection h with h;omega),A,m,c,k,?_,hne,hb.grown gr (Nat.le_of_lt (Nat.lt_of_le_of_lt h2 ks.lt)) (fun x hx=>by injection hx;omega)⟩;rw [e2];exact oD.grown gr (.inr hne)
  · have e1 : lead (G n) (q + 1) = lead (G n) q:=by rw [lead,if_neg (fun h=>hl h.2)]
    have e2 : rest (G n) (q + 1) = rest (G n) q ++ [q]:=by rw [rest,if_pos ⟨hg,hl⟩]
    have hm : m≤1000:=by
      have:=oD.1
      have h3:=moreTo_len G n;have h4:=rest_len (G n) q;rw [List.length_append,numb_len] at this
      omega
    refine (clo_app gs n q m c base A _ _ (upT_len G n q) w hn hq (by rw [hat];omega) (by rw [hat];omega) ks oD hne h2 hm).mono ?_;rintro e w' ⟨rfl,A',c',k,o,hne',b⟩;refine ⟨rfl,by omega,by omega,kg.below b h1,A',m + 1,c',?_,?_,hne',hb.trans b⟩
    · rw [upT_same G n q e1];exact k
    · rw [e2,numb_snoc,← List.append_assoc];exact o
theorem clo_skip (w0 : World) (base g gs : Nat) (G : Grid) (n q : Nat) (w : World) (hq : q < 98) (hg : G n q = false) (hI : CloI w0 base g gs G n q w) : CloI w0 base g gs G n (q + 1) w:=by
  obtain ⟨_,hn,kg,A,m,c,ks,oD,hne,hb⟩:=hI
  have e1 : lead (G n) (q + 1) = lead (G n) q:=by rw [lead,if_neg (by rw [hg];simp)]
  have e2 : rest (G n) (q + 1) = rest (G n) q:=by rw [rest,if_neg (by rw [hg];simp)]
  refine ⟨by omega,hn,kg,A,m,c,?_,?_,hne,hb⟩
  · rw [upT_same G n q e1];exact ks
  · rw [e2];exact oD
theorem clo_next (w0 : World) (base g gs : Nat) (G : Grid) (n : Nat) (w : World) (hn : n < 8) (hI : CloI w0 base g gs G n 98 w) : CloI w0 base g gs G (n + 1) 0 w:=by
  obtain ⟨_,_,kg,A,m,c,ks,oD,hne,hb⟩:=hI;refine ⟨by omega,by omega,kg,A,m,c,?_,?_,hne,hb⟩
  · rw [← upT_next];exact ks
  · rw [show moreTo G (n + 1) ++ numb (n + 1) (rest (G (n + 1)) 0) = moreTo G n ++ numb n (rest (G n) 98) by rw [show rest (G (n + 1)) 0 = [] from rfl,show numb (n + 1) [] = [] from rfl,List.append_nil];rfl];exact oD
set_option maxHeartbeats 1000000 in
theorem close_any (g : Nat) (G : Grid) (w : World) (hG : Blk w g 196 (gc G)) :
    Calls Tryz.prog 135 #[.pointer (some ⟨g,0,none⟩)] w fun e w'=>∃ A m c,e = .returned (.agg (uc (uptoS G) (.slice A m c)))∧OwnD w' w.heap.size A m c (moreS G)∧Below w.heap.size w w':=by
  have hmf : ∀ (fn : Fn) (first cap : Array Value) (w : World),(Instr.makeFunc fn first cap).run Tryz.prog w = .ok (.func fn first cap) w:=fun _ _ _ _=>rfl
  have hgw:=hG.lt
  go_enter Tryz.func135,Tryz.ntmps135
  go_upto_region 1 with fail
  refine nameW ?_;intro wv hwv;obtain ⟨gs,hgs⟩ : ∃ gs,gs = w.heap.size:=⟨_,rfl⟩;rw [← hgs]
  have hI : CloI w gs g gs G 0 0 wv:=by
    refine ⟨by omega,by omega,by rw [hwv];exact hG.alloc _,none,0,0,?_,OwnD.nil _ _,by simp,by rw [hwv,hgs];exact (Below.refl _ _).alloc (Nat.le_refl _) _⟩;rw [← upT_start,hwv,hgs];exact Blk.new w _ _
  have HG:=Lib.hid hgs
  have hggs : g < gs:=by omega
  clear hwv hgs;go_wp2_with fail;refine (walk_any 140 g ⟨gs,0,none⟩ G (CloI w gs g gs G) (fun _ _=>rfl) (fun n q w' hn hq hg hI=>clo_step w gs g gs G hggs (Nat.le_refl _) n q w' hn hq hg hI) (fun n q w' _ hq hg hI=>clo_skip w gs g gs G n q w' hq hg hI) (fun n w' hn hI=>clo_next w gs g gs G n w' hn hI) (fun n q w' hI=>hI.2.2.1) wv hI).mono ?_;rintro e w1 ⟨rfl,_,_,kg,A,m,c,ks,oD,hne,hb⟩;rw [upT_all] at ks;have HS:=Lib.hid (uc_size (show (uptoS G).length = 8 by simp [uptoS]) (.slice A m c));have H1:=Lib.hid (uc_one (U:=uptoS G) (s:=.slice A m c) rfl)
  have hM : moreTo G 8 ++ numb 8 (rest (G 8) 0) = moreS G:=by rw [show rest (G 8) 0 = [] from rfl,show numb 8 [] = [] from rfl,List.append_nil];rfl
  rw [hM] at oD;clear hI hM
  go_wp2_with first
    | ((with_reducible refine wpList_ld rowS ks HS.out ?_ ?_);rotate_left;(rfl))
    | ((with_reducible refine wpList_st rowS ks HS.out HS.out H1.out ?_ ?_ ?_);rotate_left;(rfl);(rfl);intro w7 k7 g7 z7)
  have o7:=oD.grown g7 (.inr hne);have b7:=hb.grown g7 (Nat.le_of_lt ks.lt) (fun q hq=>by injection hq;omega);obtain rfl:=HG.out;exact bodyPost_ret (v:=.agg (uc (uptoS G) (.slice A m c))) (results_blk rfl rowS k7 HS.out rfl) rfl ⟨A,m,c,rfl,o7,b7⟩
end Go.Proofs.YtfpenfgmpbdakaaGreat

namespace Go.Proofs.YtfpenfgmpbdakaaGreat
set_option linter.unusedVariables false
set_option linter.unusedSimpArgs false
set_option maxRecDepth 100000
open Go.RowKit
open Dot
theorem eight {U : List Int} (h : U.length = 8) : ∃ a b c d e f g i,U = [a,b,c,d,e,f,g,i]:=by
  match U,h with
  | [a,b,c,d,e,f,g,i],_=>exact ⟨a,b,c,d,e,f,g,i,rfl⟩
theorem build1 {U : List Int} (h : U.length = 8) (A : Option Addr) (n c : Nat) (w : World) : (Instr.buildSlice 194 1 #[(0,.agg (uc U (.slice A n c)))]).run Tryz.prog w = .ok (.slice (some ⟨w.heap.size,0,none⟩) 1 1) (w.alloc (.cells (uc U (.slice A n c)) 180)):=by
  obtain ⟨a,b,c,d,e,f,g,i,rfl⟩:=eight h
  kernel_rfl
theorem step_bs {P : Program} {o : Oper} {a : Act} {w w' : World} {v : Value} {K : Act→World→Prop} {Q : Exit→Act→World→Prop} (t : TypeId) (len : Nat) (parts : Array (Nat × Operand)) (ho : o.op = .buildSlice t len parts)
    (hrun : (Instr.buildSlice t len (parts.map fun (i,x)=>(i,a.eval x))).run P w = .ok v w') (h : K (a.put o.dst v) w') : o.wp P a w K Q:=by
  unfold Oper.wp execOp
  simp only [ho,Sem.run_bind,hrun,Result.andThen_ok]
  exact h
theorem wpList_bs {P : Program} {ops : Array Oper} {rest : List Oper} {o : Oper} {a : Act} {w w' : World} {v : Value} {Q : Exit→Act→World→Prop} (hg : o.guard = none) (t : TypeId) (len : Nat) (parts : Array (Nat × Operand)) (ho : o.op = .buildSlice t len parts)
    (hrun : (Instr.buildSlice t len (parts.map fun (i,x)=>(i,a.eval x))).run P w = .ok v w') (h : wpList P ops Q rest (a.put o.dst v) w') : wpList P ops Q (o :: rest) a w :=
  wpList_plain hg fun _ hK=>step_bs t len parts ho hrun (hK _ _ h)
def hasB (U : List Int) (l : List Dt) (d : Dt) : Bool:=mayB d && hasG U l d.1.toNat d.2.toNat
end Go.Proofs.YtfpenfgmpbdakaaGreat

namespace Go.Proofs.YtfpenfgmpbdakaaGreat
set_option linter.unusedVariables false
set_option linter.unusedSimpArgs false
set_option maxRecDepth 100000
open Go.RowKit
open Dot
def addE (U : List Int) (l : List Dt) (d : Dt) : Int:=if mayB d = true then if hasB U l d = true then 9 else 0 else 2
def addG (U : List Int) (l : List Dt) (d : Dt) : Grid:=if mayB d = true∧hasB U l d = false then putG (hasG U l) d else noG
theorem upto_no : uptoS noG = List.replicate 8 0:=by kernel_rfl
theorem more_no : moreS noG = []:=by kernel_rfl
def AddEnd (w : World) (U : List Int) (l : List Dt) (d : Dt) (e : Ending) (w' : World) : Prop:=∃ A m c,e = .returned (.tuple #[.agg (uc (uptoS (addG U l d)) (.slice A m c)),.int .i64 (addE U l d)])∧OwnD w' w.heap.size A m c (moreS (addG U l d))∧Below w.heap.size w w'
set_option maxRecDepth 100000 in
set_option maxHeartbeats 2000000 in
theorem add_any (s : SetV) (n q : Int) (w : World) (hU : s.U.length = 8) (hr : RdD w w.heap.size s.A s.n s.l) :
    Calls Tryz.prog 124 #[.agg (uc s.U (.slice s.A s.n s.c)),.agg #[.int .i64 n,.int .i64 q]] w (AddEnd w s.U s.l (n,q)):=by
  unfold AddEnd
  obtain ⟨E,hE⟩ : ∃ E,E = addE s.U s.l (n,q):=⟨_,rfl⟩;obtain ⟨G,hG⟩ : ∃ G,G = addG s.U s.l (n,q):=⟨_,rfl⟩;rw [← hE,← hG];have HS:=Lib.hid (uc_size hU (.slice s.A s.n s.c));obtain ⟨sc,hsc⟩ : ∃ sc,sc = uc s.U (.slice s.A s.n s.c):=⟨_,rfl⟩;rw [← hsc] at HS ⊢;have hb1:=build1 hU s.A s.n s.c;rw [← hsc] at hb1;have HB1:=Lib.hid hb1;have HSC:=Lib.hid hsc;clear hsc hb1;obtain ⟨zc,hzc⟩ : ∃ zc,zc = uc (uptoS noG) (.slice none 0 0):=⟨_,rfl⟩
  have hzl : zc = #[.int .i64 0,.int .i64 0,.int .i64 0,.int .i64 0,.int .i64 0,.int .i64 0,.int .i64 0,.int .i64 0,.slice none 0 0]:=by rw [hzc];kernel_rfl
  have hz1 : (zeroValue 180).run Tryz.prog w = .ok (.agg zc) w:=by rw [hzc];kernel_rfl
  have ZS:=Lib.hid (show zc.size = 9 by rw [hzl];rfl);have Z1:=Lib.hid (show zc.all (·.oneCell') = true by rw [hzc];exact uc_one rfl);have ZS2:=Lib.hid (show (#[.int .i64 0,.int .i64 0,.int .i64 0,.int .i64 0,.int .i64 0,.int .i64 0,.int .i64 0,.int .i64 0,.slice none 0 0] : Array Value).size = 9 from rfl);have Z12:=Lib.hid (show (#[.int .i64 0,.int .i64 0,.int .i64 0,.int .i64 0,.int .i64 0,.int .i64 0,.int .i64 0,.int .i64 0,.slice none 0 0] : Array Value).all (·.oneCell') = true by rw [← hzl,hzc];exact uc_one rfl);have HZC:=Lib.hid hzc;have HZL:=Lib.hid hzl;clear hzc hzl hz1
  go_enter Tryz.func124,Tryz.ntmps124
  go_upto_region 1 with fail
  refine nameW ?_;intro wv hwv;obtain ⟨b,hb⟩ : ∃ b,b = w.heap.size:=⟨_,rfl⟩;rw [← hb]
  have kb : Blk wv b 180 sc:=by rw [hwv,hb];exact ((Blk.new w _ _).alloc _).alloc _
  have kd : Blk wv (b + 1) 42 #[.int .i64 n,.int .i64 q]:=by
    have h:=(Blk.new (w.alloc (.cells sc 180)) 42 #[.int .i64 n,.int .i64 q]).alloc (.cells zc 180);rw [HZL.out] at h;rw [hwv,hb]
    simpa using h
  have kz : Blk wv (b + 1 + 1) 180 zc:=by
    have h:=Blk.new ((w.alloc (.cells sc 180)).alloc (.cells #[.int .i64 n,.int .i64 q] 42)) 180 zc;rw [HZL.out] at h ⊢;rw [hwv,hb]
    simpa using h
  have gb : Below w.heap.size w wv:=by rw [hwv];exact (((Below.refl _ _).alloc (Nat.le_refl _) _).alloc (by simp) _).alloc (by simp;omega) _
  have hrv : RdD wv w.heap.size s.A s.n s.l:=hr.below gb
  have hbw : w.heap.size≤b:=by omega
  have t0 : wv.cell? ⟨b + 1,0,none⟩ = some (.int .i64 n):=kd.cell 0;have t1 : wv.cell? ⟨b + 1,1,none⟩ = some (.int .i64 q):=kd.cell 1;clear hwv hb;go_wp2_with fail;refine (may_any n q wv).mono ?_;rintro e w1 ⟨rfl,h1⟩;have kb1:=kb.below h1 kb.lt;have kd1:=kd.below h1 kd.lt;have kz1:=kz.below h1 kz.lt;have b1:=gb.trans (h1.mono gb.size);have hr1:=hrv.below (h1.mono gb.size);clear kb kd kz gb t0 t1 h1 hrv
  by_cases hm : mayB (n,q) = true
  case neg =>
    have hm2 : mayB (n,q) = false:=by simpa using hm
    have hE2 : E = 2:=by rw [hE];unfold addE;rw [hm2];rfl
    have hG2 : G = noG:=by rw [hG];unfold addG;rw [hm2];rfl
    rw [hm2];clear hE hG hm;subst hE2;subst hG2
    go_wp2_with ((with_reducible refine wpList_st rowS kz1 ZS2.out ZS.out Z12.out ?_ ?_ ?_);rotate_left;(rfl);(rfl);intro w7 k7 g7 z7)
    rw [← HZL.out,HZC.out] at k7;have b7:=b1.grown g7 b1.size (fun q hq=>by injection hq;omega);exact bodyPost_ret (v:=.tuple #[.agg (uc (uptoS noG) (.slice none 0 0)),.int .i64 2]) (results_blk2 rfl rowS k7 (by rw [← HZC.out];exact ZS.out) rfl rfl) rfl ⟨none,0,0,rfl,by rw [more_no];exact OwnD.nil _ _,b7⟩
  rw [hm]
  have hHG : hasB s.U s.l (n,q) = hasG s.U s.l n.toNat q.toNat:=by unfold hasB;rw [hm];rfl
  have hmi:=(may_iff _).1 hm
  simp only at hmi
  obtain ⟨y,rfl⟩:=Int.eq_ofNat_of_zero_le hmi.1;obtain ⟨p,rfl⟩:=Int.eq_ofNat_of_zero_le (show 0≤q by omega)
  have hy : y < 8:=by omega
  have hp : p < 98:=by omega
  have hy0 : (0 : Int)≤(y : Int):=by omega
  have hy8 : (y : Int) < 8:=by omega
  have hp0 : (0 : Int)≤(p : Int):=by omega
  have hp8 : (p : Int) < 98:=by omega
  simp only [Int.toNat_natCast] at hHG
  have hrow:=(rowset_one s hU (hr1.more b1.size) (Nat.le_refl _) 180 (0,0)).more (B':=(w1.alloc (.cells sc 180)).heap.size) (by simp);rw [← HSC.out] at hrow;have HM:=Lib.hid hm;have HE:=Lib.hid hE;have HG:=Lib.hid hG;have HH:=Lib.hid hHG;clear hE hG hHG hm hmi
  go_upto_region 3 with fail
  go_wp2_with first
    | ((with_reducible refine wpList_ld rowS kb1 HS.out ?_ ?_);rotate_left;(rfl))
    | ((refine wpList_bs (v:=.slice (some ⟨w1.heap.size,0,none⟩) 1 1) (w':=w1.alloc (.cells sc 180)) rfl 194 1 #[(0,.tmp 11)] rfl ?_ ?_);(simp only [List.map_toArray,List.map_cons,List.map_nil];exact HB1.out w1))
  refine (of_any [s] 1 w1.heap.size _ rfl (by decide) hrow).mono ?_;rintro e w2 ⟨rfl,k2,h2⟩;rw [lays_one] at k2;have bx : Below w1.heap.size w1 (w1.alloc (.cells sc 180)):=(Below.refl _ _).alloc (Nat.le_refl _) _;have by2:=bx.trans (h2.mono (by simp));have kd2:=kd1.below by2 kd1.lt;have kz2:=kz1.below by2 kz1.lt;have b2:=b1.trans (by2.mono b1.size);obtain ⟨g,hg⟩ : ∃ g,g = (w1.alloc (.cells sc 180)).heap.size:=⟨_,rfl⟩;rw [← hg] at k2 ⊢
  have hgb : b + 1 + 1 < g:=by have:=kz1.lt;rw [hg];simp;omega
  clear hg hrow kb1 kd1 kz1 b1 h2 bx by2 hr1;have hcell:=has_at k2 hy hp;have t0 : w2.cell? ⟨b + 1,0,none⟩ = some (.int .i64 (y : Nat)):=kd2.cell 0;have t1 : w2.cell? ⟨b + 1,1,none⟩ = some (.int .i64 (p : Nat)):=kd2.cell 1
  cases hh : hasG s.U s.l y p
  case true =>
    have hE2 : E = 9:=by rw [HE.out];unfold addE;rw [HM.out,HH.out,hh];rfl
    have hG2 : G = noG:=by rw [HG.out];unfold addG;rw [HH.out,hh];simp
    rw [hh] at hcell;clear HE HG;subst hE2;subst hG2
    go_upto_region 4 with fail
    go_region_held3 (fun w'=>w'.cell? ⟨b + 1,0,none⟩ = some (.int .i64 (y : Nat))∧w'.cell? ⟨b + 1,1,none⟩ = some (.int .i64 (p : Nat))∧w'.cell? ⟨g,y * 98 + p,none⟩ = some (.bool true))
      (first | go_keep)
      (first | fail)
    have kz3:=kz2.drew;have b3:=b2.drew;clear kz2 b2 t0 t1
    go_wp2_with ((with_reducible refine wpList_st rowS kz3 ZS2.out ZS.out Z12.out ?_ ?_ ?_);rotate_left;(rfl);(rfl);intro w7 k7 g7 z7)
    rw [← HZL.out,HZC.out] at k7;have b7:=b3.grown g7 b3.size (fun q hq=>by injection hq;omega);exact bodyPost_ret (v:=.tuple #[.agg (uc (uptoS noG) (.slice none 0 0)),.int .i64 9]) (results_blk2 rfl rowS k7 (by rw [← HZC.out];exact ZS.out) rfl rfl) rfl ⟨none,0,0,rfl,by rw [more_no];exact OwnD.nil _ _,b7⟩
  case false =>
    have hE2 : E = 0:=by rw [HE.out];unfold addE;rw [HM.out,HH.out,hh];rfl
    have hG2 : G = putG (hasG s.U s.l) ((y : Int),(p : Int)):=by rw [HG.out];unfold addG;rw [HM.out,HH.out,hh];simp
    rw [hh] at hcell;clear HE HG;subst hE2;subst hG2
    go_upto_region 4 with fail
    go_region_held3 (fun w'=>w'.cell? ⟨b + 1,0,none⟩ = some (.int .i64 (y : Nat))∧w'.cell? ⟨b + 1,1,none⟩ = some (.int .i64 (p : Nat))∧w'.cell? ⟨g,y * 98 + p,none⟩ = some (.bool false))
      (first | go_keep)
      (first | fail)
    go_wp2_with fail;refine (put_any g y p _ _ hy hp k2.drew).mono ?_;rintro e w3 ⟨rfl,k3,g3⟩;have kz3:=(kz2.drew).grown g3 (by intro h;injection h with h;omega);have b3:=b2.drew.grown g3 b2.size (fun q hq=>by injection hq;omega);clear kz2 b2 t0 t1 kd2 k2 g3;go_wp2_with fail;refine (close_any g _ w3 k3).mono ?_;rintro e w4 ⟨A,m,c,rfl,o4,h4⟩;have kz4:=kz3.below h4 kz3.lt;have b4:=b3.trans (h4.mono b3.size);have HSG:=Lib.hid (uc_size (show (uptoS (putG (hasG s.U s.l) ((y : Int),(p : Int)))).length = 8 by simp [uptoS]) (.slice A m c));have H1G:=Lib.hid (uc_one (U:=uptoS (putG (hasG s.U s.l) ((y : Int),(p : Int)))) (s:=.slice A m c) rfl);have hbw3 : w.heap.size≤w3.heap.size:=b3.size;have hne : b + 1 + 1 < w3.heap.size:=kz3.lt;clear kz3 b3 k3 h4
    go_wp2_with ((with_reducible refine wpList_st rowS kz4 HSG.out ZS.out H1G.out ?_ ?_ ?_);rotate_left;(rfl);(rfl);intro w7 k7 g7 z7)
    have b7:=b4.grown g7 b4.size (fun q hq=>by injection hq;omega);have o7:=(o4.mono hbw3).grown g7 (.inr (fun h=>by have:=(o4.lt _ h).1;omega));exact bodyPost_ret (v:=.tuple #[.agg (uc (uptoS (putG (hasG s.U s.l) ((y : Int),(p : Int)))) (.slice A m c)),.int .i64 0]) (results_blk2 rfl rowS k7 HSG.out rfl rfl) rfl ⟨A,m,c,rfl,o7,b7⟩
end Go.Proofs.YtfpenfgmpbdakaaGreat

namespace Go.Proofs.YtfpenfgmpbdakaaGreat
set_option linter.unusedVariables false
set_option linter.unusedSimpArgs false
set_option maxRecDepth 100000
open Go.RowKit
open Dot Evt
theorem has_empty (n q : Nat) : hasG (uptoS noG) [] n q = false:=by
  rw [upto_no]
  unfold hasG
  by_cases h : 1≤q
  · have : decide ((q : Int)≤(List.replicate 8 (0 : Int)).getD n 0) = false:=by
      rw [List.getD_eq_getElem?_getD,List.getElem?_replicate]
      split <;> simp <;> omega
    rw [this]
    simp
  · rw [decide_eq_false h]
    simp
theorem add_empty (d : Dt) : addE (uptoS noG) [] d = if mayB d = true then 0 else 2:=by
  unfold addE
  by_cases h : mayB d = true
  · rw [if_pos h,if_pos h,if_neg]
    unfold hasB
    rw [has_empty]
    simp
  · rw [if_neg h,if_neg h]
abbrev zs9 : Array Value:=#[.int .i64 0,.int .i64 0,.int .i64 0,.int .i64 0,.int .i64 0,.int .i64 0,.int .i64 0,.int .i64 0,.slice none 0 0]
theorem zs9_eq : uc (uptoS noG) (.slice none 0 0) = zs9:=by kernel_rfl
theorem zs9_one : zs9.all (·.oneCell') = true:=by kernel_rfl
theorem add0_any (n q : Int) (w : World) : Calls Tryz.prog 124 #[.agg zs9,.agg #[.int .i64 n,.int .i64 q]] w fun e w'=>∃ sc : Array Value,sc.size = 9∧sc.all (·.oneCell') = true∧e = .returned (.tuple #[.agg sc,.int .i64 (if mayB (n,q) = true then 0 else 2)])∧Below w.heap.size w w':=by
  have h:=add_any ⟨uptoS noG,none,0,0,[]⟩ n q w (by rw [upto_no];rfl) (RdD.nil _ _ _)
  simp only at h
  rw [zs9_eq] at h;refine h.mono ?_;rintro e w1 ⟨A,m,c,rfl,ho,hb⟩;exact ⟨_,uc_size (show (uptoS (addG (uptoS noG) [] (n,q))).length = 8 by unfold uptoS;simp) _,uc_one rfl,by rw [add_empty],hb⟩
theorem name_at {own : Dt} {l : List Dt} {i : Nat} (hi : i < l.length) (h : nameAt own l i = false) : namedB own l = false:=by
  rw [← Bool.not_eq_true,named_iff];intro h';rw [h' i hi] at h
  cases h
theorem num_succ (k : Nat) (h : k≤4611686018427387904) : Value.int .i64 (wrap64 ((k : Int) + 1)) = .int .i64 ((k + 1 : Nat) : Int):=by
  rw [IntWalk.wrap64_in _ ⟨by omega,by omega⟩,Int.natCast_add]
  rfl
theorem meas_succ (k m : Nat) (h : k < m) (h1 : k≤4611686018427387904) : m - (intOf (.int .i64 (wrap64 ((k : Int) + 1)))).toNat < m - (intOf (.int .i64 (k : Int))).toNat:=by
  rw [num_succ k h1]
  simp only [intOf]
  omega
set_option maxRecDepth 100000 in
set_option maxHeartbeats 1000000 in
theorem named_any (n q : Int) (A : Option Addr) (m c : Nat) (l : List Dt) (w : World) (hl : RdD w w.heap.size A m l) (h96 : m≤96) :
    Calls Tryz.prog 125 #[.agg #[.int .i64 n,.int .i64 q],.slice A m c] w fun e w'=>e = .returned (.bool (namedB (n,q) l))∧Below w.heap.size w w':=by
  obtain ⟨R,hR⟩ : ∃ R,R = namedB (n,q) l:=⟨_,rfl⟩;rw [← hR];have HR:=Lib.hid hR;have HM:=Lib.hid hl.1;have H96:=Lib.hid h96;clear h96;clear hR;have ZS:=Lib.hid (show zs9.size = 9 from rfl);have Z1:=Lib.hid zs9_one
  have hz1 : (zeroValue 180).run Tryz.prog w = .ok (.agg zs9) w:=by kernel_rfl
  clear hz1
  go_enter Tryz.func125,Tryz.ntmps125
  go_upto_region 1 with fail
  refine nameW ?_;intro wv hwv;obtain ⟨b,hb⟩ : ∃ b,b = w.heap.size:=⟨_,rfl⟩;rw [← hb]
  have kd : Blk wv b 42 #[.int .i64 n,.int .i64 q]:=by rw [hwv,hb];exact Blk.new w _ _
  have gb : Below w.heap.size w wv:=by rw [hwv];exact (Below.refl _ _).alloc (Nat.le_refl _) _
  have hwb : b < wv.heap.size:=kd.lt
  have hbw : w.heap.size≤b:=by omega
  clear hwv hb;have hlv : RdD wv w.heap.size A m l:=hl.below gb;clear hl;obtain ⟨B0,hB0⟩ : ∃ B0,B0 = w.heap.size:=⟨_,rfl⟩;rw [← hB0] at hlv hbw;have HB0:=Lib.hid hB0;clear hB0
  go_upto_region 3 with fail
  refine nameW ?_;intro w1 hw1
  have k0 : Blk w1 wv.heap.size 180 zs9:=by rw [hw1];exact Blk.new _ _ _
  have kd1 : Blk w1 b 42 #[.int .i64 n,.int .i64 q]:=by rw [hw1];exact kd.alloc _
  have gb1 : Below B0 w w1:=by rw [hw1,HB0.out];exact gb.alloc gb.size _
  obtain ⟨g,hg⟩ : ∃ g,g = wv.heap.size:=⟨_,rfl⟩;rw [← hg] at k0 ⊢
  have hgb : b < g:=by omega
  have hlv1 : RdD w1 B0 A m l:=hlv.below (by rw [hw1];exact (Below.refl _ _).alloc (by have:=gb.size;rw [HB0.out];exact this) _);clear hw1 kd gb hg hwb hlv
  go_loopw [13] (fun i wr=>∃ k : Nat,k≤m∧i = .int .i64 k∧(∀ j,j < k→nameAt (n,q) l j = true)∧Blk wr g 180 zs9∧Blk wr b 42 #[.int .i64 n,.int .i64 q]∧RdD wr B0 A m l∧Below B0 w wr) (fun i _=>m - (intOf i).toNat)
  case atStart=>exact ⟨0,by omega,rfl,fun j hj=>by omega,k0,kd1,hlv1,gb1⟩
  case round =>
    clear k0 kd1 hlv1 gb1;obtain ⟨k,hk,rfl,hall,k0,kd,hl,hbel⟩:=hrel;have HA:=Lib.hid hall;clear hall
    by_cases hlt : k < m
    · have hkl : k < l.length:=by rw [← HM.out];exact hlt
      obtain ⟨ad,rfl,hdt⟩:=hl.2 k _ (List.getElem?_eq_getElem hkl)
      have hgd : nameAt (n,q) l k = (mayB l[k] && !decide (l[k] = (n,q)) && (decide (k = 0) || befB (l.getD (k - 1) (0,0)) l[k])):=by
        unfold nameAt
        rw [show l.getD k (0,0) = l[k] by rw [List.getD_eq_getElem?_getD,List.getElem?_eq_getElem hkl];rfl]
      generalize l[k] = d at *
      obtain ⟨x,y⟩:=d;obtain ⟨q5,q0,q1⟩:=hdt
      simp only at q0 q1 hgd
      have HG:=Lib.hid hgd;clear hgd;obtain ⟨wn,hwn⟩ : ∃ wn,wn = wr.alloc (.cells #[.int .i64 x,.int .i64 y] 42):=⟨_,rfl⟩;obtain ⟨gd,hgd⟩ : ∃ gd,gd = wr.heap.size:=⟨_,rfl⟩
      have kx : Blk wn gd 42 #[.int .i64 x,.int .i64 y]:=by rw [hwn,hgd];exact Blk.new wr _ _
      have bn : Below wr.heap.size wr wn:=by rw [hwn];exact (Below.refl _ _).alloc (Nat.le_refl _) _
      have k1:=k0.below bn k0.lt;have kd1:=kd.below bn kd.lt;have hb1:=hbel.trans (bn.mono (by have:=hbel.size;have:=HB0.out;omega));have hl1:=hl.below (bn.mono (by have:=hbel.size;have:=HB0.out;omega));have HW:=Lib.hid hwn;have HGD:=Lib.hid hgd;clear hwn hgd bn k0 kd hl
      go_upto_region 5 with fail
      rw [← HW.out,← HGD.out];have t0 : wn.cell? ⟨gd,0,none⟩ = some (.int .i64 x):=kx.cell 0;have t1 : wn.cell? ⟨gd,1,none⟩ = some (.int .i64 y):=kx.cell 1;have o0 : wn.cell? ⟨b,0,none⟩ = some (.int .i64 n):=kd1.cell 0;have o1 : wn.cell? ⟨b,1,none⟩ = some (.int .i64 q):=kd1.cell 1
      --CASES
      by_cases hx : x = n
      · by_cases hy : y = q
        · have hgk : nameAt (n,q) l k = false:=by rw [HG.out,hx,hy];simp
          have HGK:=Lib.hid hgk;clear hgk;subst hx;subst hy;refine wp_region_below (by kernel_rfl) (by kernel_rfl) ?_;intro T iT F hF hT
          have S0 : ∀ xf,(F xf).cell? ⟨gd,0,none⟩ = some (.int .i64 x):=fun xf=>((hF xf).cell (p:=⟨gd,0,none⟩) kx.lt).trans t0
          have S1 : ∀ xf,(F xf).cell? ⟨gd,1,none⟩ = some (.int .i64 y):=fun xf=>((hF xf).cell (p:=⟨gd,1,none⟩) kx.lt).trans t1
          have S2 : ∀ xf,(F xf).cell? ⟨b,0,none⟩ = some (.int .i64 x):=fun xf=>((hF xf).cell (p:=⟨b,0,none⟩) kd1.lt).trans o0
          have S3 : ∀ xf,(F xf).cell? ⟨b,1,none⟩ = some (.int .i64 y):=fun xf=>((hF xf).cell (p:=⟨b,1,none⟩) kd1.lt).trans o1
          have HF:=Lib.hid hF;have HT:=Lib.hid hT;clear hF hT
          repeat (first
            | go_big_quiet_step (fail))
          refine wpQuiet_nil ?_;intro w' hw';obtain ⟨qf,rfl⟩:=hw';have bF:=HF.out qf;have kF:=k1.below bF k1.lt;have kdF:=kd1.below bF kd1.lt;have kxF:=kx.below bF kx.lt;have hbF:=hb1.trans (bF.mono (by have:=hb1.size;have:=HB0.out;omega));have hlF:=hl1.below (bF.mono (by have:=hb1.size;have:=HB0.out;omega));clear HF HT S0 S1 S2 S3 t0 t1 o0 o1;go_wp2_with fail;go_ret;exact ⟨by rw [HR.out,name_at hkl HGK.out];rfl,by rw [← HB0.out];exact hbF⟩
        · subst hx
          have HNO:=Lib.hid (show decide ((x,y) = (x,q)) = false by rw [decide_eq_false_iff_not];intro h;exact hy (congrArg Prod.snd h))
          by_cases hk0 : k = 0
          · subst hk0
            refine wp_region_below (by kernel_rfl) (by kernel_rfl) ?_;intro T iT F hF hT
            have S0 : ∀ xf,(F xf).cell? ⟨gd,0,none⟩ = some (.int .i64 x):=fun xf=>((hF xf).cell (p:=⟨gd,0,none⟩) kx.lt).trans t0
            have S1 : ∀ xf,(F xf).cell? ⟨gd,1,none⟩ = some (.int .i64 y):=fun xf=>((hF xf).cell (p:=⟨gd,1,none⟩) kx.lt).trans t1
            have S2 : ∀ xf,(F xf).cell? ⟨b,0,none⟩ = some (.int .i64 x):=fun xf=>((hF xf).cell (p:=⟨b,0,none⟩) kd1.lt).trans o0
            have S3 : ∀ xf,(F xf).cell? ⟨b,1,none⟩ = some (.int .i64 q):=fun xf=>((hF xf).cell (p:=⟨b,1,none⟩) kd1.lt).trans o1
            have HF:=Lib.hid hF;have HT:=Lib.hid hT;clear hF hT
            repeat (first
              | go_big_quiet_step (fail))
            refine wpQuiet_nil ?_;intro w' hw';obtain ⟨qf,rfl⟩:=hw';have bF:=HF.out qf;have kF:=k1.below bF k1.lt;have kdF:=kd1.below bF kd1.lt;have kxF:=kx.below bF kx.lt;have hbF:=hb1.trans (bF.mono (by have:=hb1.size;have:=HB0.out;omega));have hlF:=hl1.below (bF.mono (by have:=hb1.size;have:=HB0.out;omega));clear HF HT S0 S1 S2 S3 t0 t1 o0 o1
            generalize F qf = wf at *
            obtain ⟨tx0,tx1⟩ : wf.cell? ⟨gd,0,none⟩ = some (.int .i64 x)∧wf.cell? ⟨gd,1,none⟩ = some (.int .i64 y):=⟨kxF.cell 0,kxF.cell 1⟩;have hsz : wf.heap.size = wf.heap.size:=rfl;have ha0:=add0_any x y wf
            cases hm : mayB (x,y)
            case false =>
              have hgk : nameAt (x,q) l 0 = false:=by rw [HG.out,hm];rfl
              have HGK:=Lib.hid hgk;rw [hm] at ha0;clear hgk hm
              go_wp2_with first
                | ((with_reducible refine wpList_ld rowS kF ZS.out ?_ ?_);rotate_left;(rfl))
              refine ha0.mono ?_;rintro e w2 ⟨sc,s9,s1,rfl,b2⟩;have hb2:=hbF.trans (b2.mono (by have:=hbF.size;have:=HB0.out;omega));have S9:=Lib.hid s9;have SO:=Lib.hid s1;clear s9 s1
              go_wp2_with ((with_reducible refine wpList_st rowS (Blk.new _ _ _) S9.out ?_ SO.out ?_ ?_ ?_);(rfl);rotate_left;(rfl);(rfl);intro w3 k3 g3 z3)
              have hb3:=(hb2.alloc (by have:=hb2.size;have:=HB0.out;omega) _).grown g3 (by have:=hb2.size;have:=HB0.out;simp;omega) (fun r hr=>by injection hr with hr;have:=hb2.size;have:=HB0.out;omega);go_wp2_with fail;go_ret;exact ⟨by rw [HR.out,name_at hkl HGK.out];rfl,by rw [← HB0.out];exact hb3⟩
            case true =>
              have hgk : nameAt (x,q) l 0 = true:=by rw [HG.out,hm];rw [HNO.out];rfl
              have HGK:=Lib.hid hgk;rw [hm] at ha0;clear hgk hm
              go_wp2_with first
                | ((with_reducible refine wpList_ld rowS kF ZS.out ?_ ?_);rotate_left;(rfl))
              refine ha0.mono ?_;rintro e w2 ⟨sc,s9,s1,rfl,b2⟩;have hb2:=hbF.trans (b2.mono (by have:=hbF.size;have:=HB0.out;omega));have hl2:=hlF.below (b2.mono (by have:=hbF.size;have:=HB0.out;omega));have k2:=kF.below b2 kF.lt;have kd2:=kdF.below b2 kdF.lt;have S9:=Lib.hid s9;have SO:=Lib.hid s1;clear s9 s1
              go_wp2_with ((with_reducible refine wpList_st rowS (Blk.new _ _ _) S9.out ?_ SO.out ?_ ?_ ?_);(rfl);rotate_left;(rfl);(rfl);intro w3 k3 g3 z3)
              have hb3:=(hb2.alloc (by have:=hb2.size;have:=HB0.out;omega) _).grown g3 (by have:=hb2.size;have:=HB0.out;simp;omega) (fun r hr=>by injection hr with hr;have:=hb2.size;have:=HB0.out;omega);have bx : Below w2.heap.size w2 w3:=((Below.refl _ _).alloc (Nat.le_refl _) _).grown g3 (by simp) (fun r hr=>by injection hr with hr;omega);go_wp2_with fail
              go_roundw
              case rel=>exact ⟨1,by omega,rfl,fun i hi=>by
                by_cases e : i = 0
                · subst e;exact HGK.out
                · exact HA.out i (by omega),k2.below bx k2.lt,kd2.below bx kd2.lt,hl2.below (bx.mono (by have:=hb2.size;have:=HB0.out;omega)),hb3⟩
              case measure=>exact (by simp only [intOf];omega)
          · obtain ⟨j,hmk⟩ : ∃ j,k = j + 1:=⟨k - 1,by omega⟩
            have hml : j < l.length:=by omega
            have hkp : 0 < k:=by omega
            have hwk : IntKind.i64.wrap ((k : Int) - 1) = (j : Int):=by rw [IntKind.wrap_i64];have:=H96.out;omega
            have hm0 : (0 : Int)≤(j : Int):=by omega
            have hmn : (j : Int) < (m : Int):=by omega
            obtain ⟨ad2,hae,hdt2⟩:=hl1.2 j _ (List.getElem?_eq_getElem hml)
            injection hae with hae
            subst hae
            have hpe : l.getD j (0,0) = l[j]:=by rw [List.getD_eq_getElem?_getD,List.getElem?_eq_getElem hml];rfl
            have hg3 : nameAt (x,q) l k = (mayB (x,y) && befB l[j] (x,y)):=by
              rw [HG.out,HNO.out,decide_eq_false hk0,show k - 1 = j by omega,hpe]
              cases mayB (x,y) <;> rfl
            clear hpe
            generalize l[j] = d at *
            obtain ⟨x2,y2⟩:=d;obtain ⟨p5,p0,p1⟩:=hdt2
            simp only at p0 p1
            have p6 : (ad.add (j * 2)).block < wn.heap.size:=Nat.lt_of_lt_of_le p5 (by have:=hb1.size;have:=HB0.out;omega);clear HG;have HG:=Lib.hid hg3;clear hg3 hmk
            have hcc : ∀ w',Calls Tryz.prog 136 #[.agg #[.int .i64 x2,.int .i64 y2],.agg #[.int .i64 x,.int .i64 y]] w' fun e w''=>e = .returned (.bool (befB (x2,y2) (x,y)))∧Below w'.heap.size w' w'':=fun w'=>ebefore_any x2 y2 x y w'
            cases hbf : befB (x2,y2) (x,y)
            case false =>
              have hgk : nameAt (x,q) l k = false:=by rw [HG.out,hbf];cases mayB (x,y) <;> rfl
              have HGK:=Lib.hid hgk;rw [hbf] at hcc;have HCC:=Lib.hid hcc;clear hgk hbf hcc;refine wp_region_below (by kernel_rfl) (by kernel_rfl) ?_;intro T iT F hF hT
              have S0 : ∀ xf,(F xf).cell? ⟨gd,0,none⟩ = some (.int .i64 x):=fun xf=>((hF xf).cell (p:=⟨gd,0,none⟩) kx.lt).trans t0
              have S1 : ∀ xf,(F xf).cell? ⟨gd,1,none⟩ = some (.int .i64 y):=fun xf=>((hF xf).cell (p:=⟨gd,1,none⟩) kx.lt).trans t1
              have S2 : ∀ xf,(F xf).cell? ⟨b,0,none⟩ = some (.int .i64 x):=fun xf=>((hF xf).cell (p:=⟨b,0,none⟩) kd1.lt).trans o0
              have S3 : ∀ xf,(F xf).cell? ⟨b,1,none⟩ = some (.int .i64 q):=fun xf=>((hF xf).cell (p:=⟨b,1,none⟩) kd1.lt).trans o1
              have SP : ∀ xf,(F xf).cell? (ad.add (j * 2)) = some (.int .i64 x2):=fun xf=>((hF xf).cell p6).trans p0
              have SQ : ∀ xf,(F xf).cell? ⟨(ad.add (j * 2)).block,(ad.add (j * 2)).off + 1,none⟩ = some (.int .i64 y2):=fun xf=>((hF xf).cell (p:=⟨(ad.add (j * 2)).block,(ad.add (j * 2)).off + 1,none⟩) p6).trans p1
              have HF:=Lib.hid hF;have HT:=Lib.hid hT;clear hF hT
              repeat (first
                | go_big_quiet_step ((go_at_call 136;exact calls_below HF.out HT.out (HCC.out _))))
              refine wpQuiet_nil ?_;intro w' hw';obtain ⟨qf,rfl⟩:=hw';have bF:=HF.out qf;have kF:=k1.below bF k1.lt;have kdF:=kd1.below bF kd1.lt;have kxF:=kx.below bF kx.lt;have hbF:=hb1.trans (bF.mono (by have:=hb1.size;have:=HB0.out;omega));have hlF:=hl1.below (bF.mono (by have:=hb1.size;have:=HB0.out;omega));clear HF HT S0 S1 S2 S3 t0 t1 o0 o1;go_wp2_with fail;go_ret;exact ⟨by rw [HR.out,name_at hkl HGK.out];rfl,by rw [← HB0.out];exact hbF⟩
            case true =>
              have HBF:=Lib.hid hbf;rw [hbf] at hcc;have HCC:=Lib.hid hcc;clear hbf hcc;refine wp_region_below (by kernel_rfl) (by kernel_rfl) ?_;intro T iT F hF hT
              have S0 : ∀ xf,(F xf).cell? ⟨gd,0,none⟩ = some (.int .i64 x):=fun xf=>((hF xf).cell (p:=⟨gd,0,none⟩) kx.lt).trans t0
              have S1 : ∀ xf,(F xf).cell? ⟨gd,1,none⟩ = some (.int .i64 y):=fun xf=>((hF xf).cell (p:=⟨gd,1,none⟩) kx.lt).trans t1
              have S2 : ∀ xf,(F xf).cell? ⟨b,0,none⟩ = some (.int .i64 x):=fun xf=>((hF xf).cell (p:=⟨b,0,none⟩) kd1.lt).trans o0
              have S3 : ∀ xf,(F xf).cell? ⟨b,1,none⟩ = some (.int .i64 q):=fun xf=>((hF xf).cell (p:=⟨b,1,none⟩) kd1.lt).trans o1
              have SP : ∀ xf,(F xf).cell? (ad.add (j * 2)) = some (.int .i64 x2):=fun xf=>((hF xf).cell p6).trans p0
              have SQ : ∀ xf,(F xf).cell? ⟨(ad.add (j * 2)).block,(ad.add (j * 2)).off + 1,none⟩ = some (.int .i64 y2):=fun xf=>((hF xf).cell (p:=⟨(ad.add (j * 2)).block,(ad.add (j * 2)).off + 1,none⟩) p6).trans p1
              have HF:=Lib.hid hF;have HT:=Lib.hid hT;clear hF hT
              repeat (first
                | go_big_quiet_step ((go_at_call 136;exact calls_below HF.out HT.out (HCC.out _))))
              refine wpQuiet_nil ?_;intro w' hw';obtain ⟨qf,rfl⟩:=hw';have bF:=HF.out qf;have kF:=k1.below bF k1.lt;have kdF:=kd1.below bF kd1.lt;have kxF:=kx.below bF kx.lt;have hbF:=hb1.trans (bF.mono (by have:=hb1.size;have:=HB0.out;omega));have hlF:=hl1.below (bF.mono (by have:=hb1.size;have:=HB0.out;omega));clear HF HT S0 S1 S2 S3 t0 t1 o0 o1
              generalize F qf = wf at *
              obtain ⟨tx0,tx1⟩ : wf.cell? ⟨gd,0,none⟩ = some (.int .i64 x)∧wf.cell? ⟨gd,1,none⟩ = some (.int .i64 y):=⟨kxF.cell 0,kxF.cell 1⟩;have hsz : wf.heap.size = wf.heap.size:=rfl;have ha0:=add0_any x y wf
              cases hm : mayB (x,y)
              case false =>
                have hgk : nameAt (x,q) l k = false:=by rw [HG.out,hm];rfl
                have HGK:=Lib.hid hgk;rw [hm] at ha0;clear hgk hm
                go_wp2_with first
                  | ((with_reducible refine wpList_ld rowS kF ZS.out ?_ ?_);rotate_left;(rfl))
                refine ha0.mono ?_;rintro e w2 ⟨sc,s9,s1,rfl,b2⟩;have hb2:=hbF.trans (b2.mono (by have:=hbF.size;have:=HB0.out;omega));have S9:=Lib.hid s9;have SO:=Lib.hid s1;clear s9 s1
                go_wp2_with ((with_reducible refine wpList_st rowS (Blk.new _ _ _) S9.out ?_ SO.out ?_ ?_ ?_);(rfl);rotate_left;(rfl);(rfl);intro w3 k3 g3 z3)
                have hb3:=(hb2.alloc (by have:=hb2.size;have:=HB0.out;omega) _).grown g3 (by have:=hb2.size;have:=HB0.out;simp;omega) (fun r hr=>by injection hr with hr;have:=hb2.size;have:=HB0.out;omega);go_wp2_with fail;go_ret;exact ⟨by rw [HR.out,name_at hkl HGK.out];rfl,by rw [← HB0.out];exact hb3⟩
              case true =>
                have hgk : nameAt (x,q) l k = true:=by rw [HG.out,hm];rw [HBF.out];rfl
                have HGK:=Lib.hid hgk;rw [hm] at ha0;clear hgk hm
                go_wp2_with first
                  | ((with_reducible refine wpList_ld rowS kF ZS.out ?_ ?_);rotate_left;(rfl))
                refine ha0.mono ?_;rintro e w2 ⟨sc,s9,s1,rfl,b2⟩;have hb2:=hbF.trans (b2.mono (by have:=hbF.size;have:=HB0.out;omega));have hl2:=hlF.below (b2.mono (by have:=hbF.size;have:=HB0.out;omega));have k2:=kF.below b2 kF.lt;have kd2:=kdF.below b2 kdF.lt;have S9:=Lib.hid s9;have SO:=Lib.hid s1;clear s9 s1
                go_wp2_with ((with_reducible refine wpList_st rowS (Blk.new _ _ _) S9.out ?_ SO.out ?_ ?_ ?_);(rfl);rotate_left;(rfl);(rfl);intro w3 k3 g3 z3)
                have hb3:=(hb2.alloc (by have:=hb2.size;have:=HB0.out;omega) _).grown g3 (by have:=hb2.size;have:=HB0.out;simp;omega) (fun r hr=>by injection hr with hr;have:=hb2.size;have:=HB0.out;omega);have bx : Below w2.heap.size w2 w3:=((Below.refl _ _).alloc (Nat.le_refl _) _).grown g3 (by simp) (fun r hr=>by injection hr with hr;omega);go_wp2_with fail
                go_roundw
                case rel=>exact ⟨k + 1,by omega,num_succ k (by have:=H96.out;omega),fun i hi=>by
                  by_cases e : i = k
                  · subst e;exact HGK.out
                  · exact HA.out i (by omega),k2.below bx k2.lt,kd2.below bx kd2.lt,hl2.below (bx.mono (by have:=hb2.size;have:=HB0.out;omega)),hb3⟩
                case measure=>exact meas_succ k m hlt (by have:=H96.out;omega)
      · skip
        have HNO:=Lib.hid (show decide ((x,y) = (n,q)) = false by rw [decide_eq_false_iff_not];intro h;exact hx (congrArg Prod.fst h))
        by_cases hk0 : k = 0
        · subst hk0
          refine wp_region_below (by kernel_rfl) (by kernel_rfl) ?_;intro T iT F hF hT
          have S0 : ∀ xf,(F xf).cell? ⟨gd,0,none⟩ = some (.int .i64 x):=fun xf=>((hF xf).cell (p:=⟨gd,0,none⟩) kx.lt).trans t0
          have S1 : ∀ xf,(F xf).cell? ⟨gd,1,none⟩ = some (.int .i64 y):=fun xf=>((hF xf).cell (p:=⟨gd,1,none⟩) kx.lt).trans t1
          have S2 : ∀ xf,(F xf).cell? ⟨b,0,none⟩ = some (.int .i64 n):=fun xf=>((hF xf).cell (p:=⟨b,0,none⟩) kd1.lt).trans o0
          have S3 : ∀ xf,(F xf).cell? ⟨b,1,none⟩ = some (.int .i64 q):=fun xf=>((hF xf).cell (p:=⟨b,1,none⟩) kd1.lt).trans o1
          have HF:=Lib.hid hF;have HT:=Lib.hid hT;clear hF hT
          repeat (first
            | go_big_quiet_step (fail))
          refine wpQuiet_nil ?_;intro w' hw';obtain ⟨qf,rfl⟩:=hw';have bF:=HF.out qf;have kF:=k1.below bF k1.lt;have kdF:=kd1.below bF kd1.lt;have kxF:=kx.below bF kx.lt;have hbF:=hb1.trans (bF.mono (by have:=hb1.size;have:=HB0.out;omega));have hlF:=hl1.below (bF.mono (by have:=hb1.size;have:=HB0.out;omega));clear HF HT S0 S1 S2 S3 t0 t1 o0 o1
          generalize F qf = wf at *
          obtain ⟨tx0,tx1⟩ : wf.cell? ⟨gd,0,none⟩ = some (.int .i64 x)∧wf.cell? ⟨gd,1,none⟩ = some (.int .i64 y):=⟨kxF.cell 0,kxF.cell 1⟩;have hsz : wf.heap.size = wf.heap.size:=rfl;have ha0:=add0_any x y wf
          cases hm : mayB (x,y)
          case false =>
            have hgk : nameAt (n,q) l 0 = false:=by rw [HG.out,hm];rfl
            have HGK:=Lib.hid hgk;rw [hm] at ha0;clear hgk hm
            go_wp2_with first
              | ((with_reducible refine wpList_ld rowS kF ZS.out ?_ ?_);rotate_left;(rfl))
            refine ha0.mono ?_;rintro e w2 ⟨sc,s9,s1,rfl,b2⟩;have hb2:=hbF.trans (b2.mono (by have:=hbF.size;have:=HB0.out;omega));have S9:=Lib.hid s9;have SO:=Lib.hid s1;clear s9 s1
            go_wp2_with ((with_reducible refine wpList_st rowS (Blk.new _ _ _) S9.out ?_ SO.out ?_ ?_ ?_);(rfl);rotate_left;(rfl);(rfl);intro w3 k3 g3 z3)
            have hb3:=(hb2.alloc (by have:=hb2.size;have:=HB0.out;omega) _).grown g3 (by have:=hb2.size;have:=HB0.out;simp;omega) (fun r hr=>by injection hr with hr;have:=hb2.size;have:=HB0.out;omega);go_wp2_with fail;go_ret;exact ⟨by rw [HR.out,name_at hkl HGK.out];rfl,by rw [← HB0.out];exact hb3⟩
          case true =>
            have hgk : nameAt (n,q) l 0 = true:=by rw [HG.out,hm];rw [HNO.out];rfl
            have HGK:=Lib.hid hgk;rw [hm] at ha0;clear hgk hm
            go_wp2_with first
              | ((with_reducible refine wpList_ld rowS kF ZS.out ?_ ?_);rotate_left;(rfl))
            refine ha0.mono ?_;rintro e w2 ⟨sc,s9,s1,rfl,b2⟩;have hb2:=hbF.trans (b2.mono (by have:=hbF.size;have:=HB0.out;omega));have hl2:=hlF.below (b2.mono (by have:=hbF.size;have:=HB0.out;omega));have k2:=kF.below b2 kF.lt;have kd2:=kdF.below b2 kdF.lt;have S9:=Lib.hid s9;have SO:=Lib.hid s1;clear s9 s1
            go_wp2_with ((with_reducible refine wpList_st rowS (Blk.new _ _ _) S9.out ?_ SO.out ?_ ?_ ?_);(rfl);rotate_left;(rfl);(rfl);intro w3 k3 g3 z3)
            have hb3:=(hb2.alloc (by have:=hb2.size;have:=HB0.out;omega) _).grown g3 (by have:=hb2.size;have:=HB0.out;simp;omega) (fun r hr=>by injection hr with hr;have:=hb2.size;have:=HB0.out;omega);have bx : Below w2.heap.size w2 w3:=((Below.refl _ _).alloc (Nat.le_refl _) _).grown g3 (by simp) (fun r hr=>by injection hr with hr;omega);go_wp2_with fail
            go_roundw
            case rel=>exact ⟨1,by omega,rfl,fun i hi=>by
              by_cases e : i = 0
              · subst e;exact HGK.out
              · exact HA.out i (by omega),k2.below bx k2.lt,kd2.below bx kd2.lt,hl2.below (bx.mono (by have:=hb2.size;have:=HB0.out;omega)),hb3⟩
            case measure=>exact (by simp only [intOf];omega)
        · obtain ⟨j,hmk⟩ : ∃ j,k = j + 1:=⟨k - 1,by omega⟩
          have hml : j < l.length:=by omega
          have hkp : 0 < k:=by omega
          have hwk : IntKind.i64.wrap ((k : Int) - 1) = (j : Int):=by rw [IntKind.wrap_i64];have:=H96.out;omega
          have hm0 : (0 : Int)≤(j : Int):=by omega
          have hmn : (j : Int) < (m : Int):=by omega
          obtain ⟨ad2,hae,hdt2⟩:=hl1.2 j _ (List.getElem?_eq_getElem hml)
          injection hae with hae
          subst hae
          have hpe : l.getD j (0,0) = l[j]:=by rw [List.getD_eq_getElem?_getD,List.getElem?_eq_getElem hml];rfl
          have hg3 : nameAt (n,q) l k = (mayB (x,y) && befB l[j] (x,y)):=by
            rw [HG.out,HNO.out,decide_eq_false hk0,show k - 1 = j by omega,hpe]
            cases mayB (x,y) <;> rfl
          clear hpe
          generalize l[j] = d at *
          obtain ⟨x2,y2⟩:=d;obtain ⟨p5,p0,p1⟩:=hdt2
          simp only at p0 p1
          have p6 : (ad.add (j * 2)).block < wn.heap.size:=Nat.lt_of_lt_of_le p5 (by have:=hb1.size;have:=HB0.out;omega);clear HG;have HG:=Lib.hid hg3;clear hg3 hmk
          have hcc : ∀ w',Calls Tryz.prog 136 #[.agg #[.int .i64 x2,.int .i64 y2],.agg #[.int .i64 x,.int .i64 y]] w' fun e w''=>e = .returned (.bool (befB (x2,y2) (x,y)))∧Below w'.heap.size w' w'':=fun w'=>ebefore_any x2 y2 x y w'
          cases hbf : befB (x2,y2) (x,y)
          case false =>
            have hgk : nameAt (n,q) l k = false:=by rw [HG.out,hbf];cases mayB (x,y) <;> rfl
            have HGK:=Lib.hid hgk;rw [hbf] at hcc;have HCC:=Lib.hid hcc;clear hgk hbf hcc;refine wp_region_below (by kernel_rfl) (by kernel_rfl) ?_;intro T iT F hF hT
            have S0 : ∀ xf,(F xf).cell? ⟨gd,0,none⟩ = some (.int .i64 x):=fun xf=>((hF xf).cell (p:=⟨gd,0,none⟩) kx.lt).trans t0
            have S1 : ∀ xf,(F xf).cell? ⟨gd,1,none⟩ = some (.int .i64 y):=fun xf=>((hF xf).cell (p:=⟨gd,1,none⟩) kx.lt).trans t1
            have S2 : ∀ xf,(F xf).cell? ⟨b,0,none⟩ = some (.int .i64 n):=fun xf=>((hF xf).cell (p:=⟨b,0,none⟩) kd1.lt).trans o0
            have S3 : ∀ xf,(F xf).cell? ⟨b,1,none⟩ = some (.int .i64 q):=fun xf=>((hF xf).cell (p:=⟨b,1,none⟩) kd1.lt).trans o1
            have SP : ∀ xf,(F xf).cell? (ad.add (j * 2)) = some (.int .i64 x2):=fun xf=>((hF xf).cell p6).trans p0
            have SQ : ∀ xf,(F xf).cell? ⟨(ad.add (j * 2)).block,(ad.add (j * 2)).off + 1,none⟩ = some (.int .i64 y2):=fun xf=>((hF xf).cell (p:=⟨(ad.add (j * 2)).block,(ad.add (j * 2)).off + 1,none⟩) p6).trans p1
            have HF:=Lib.hid hF;have HT:=Lib.hid hT;clear hF hT
            repeat (first
              | go_big_quiet_step ((go_at_call 136;exact calls_below HF.out HT.out (HCC.out _))))
            refine wpQuiet_nil ?_;intro w' hw';obtain ⟨qf,rfl⟩:=hw';have bF:=HF.out qf;have kF:=k1.below bF k1.lt;have kdF:=kd1.below bF kd1.lt;have kxF:=kx.below bF kx.lt;have hbF:=hb1.trans (bF.mono (by have:=hb1.size;have:=HB0.out;omega));have hlF:=hl1.below (bF.mono (by have:=hb1.size;have:=HB0.out;omega));clear HF HT S0 S1 S2 S3 t0 t1 o0 o1;go_wp2_with fail;go_ret;exact ⟨by rw [HR.out,name_at hkl HGK.out];rfl,by rw [← HB0.out];exact hbF⟩
          case true =>
            have HBF:=Lib.hid hbf;rw [hbf] at hcc;have HCC:=Lib.hid hcc;clear hbf hcc;refine wp_region_below (by kernel_rfl) (by kernel_rfl) ?_;intro T iT F hF hT
            have S0 : ∀ xf,(F xf).cell? ⟨gd,0,none⟩ = some (.int .i64 x):=fun xf=>((hF xf).cell (p:=⟨gd,0,none⟩) kx.lt).trans t0
            have S1 : ∀ xf,(F xf).cell? ⟨gd,1,none⟩ = some (.int .i64 y):=fun xf=>((hF xf).cell (p:=⟨gd,1,none⟩) kx.lt).trans t1
            have S2 : ∀ xf,(F xf).cell? ⟨b,0,none⟩ = some (.int .i64 n):=fun xf=>((hF xf).cell (p:=⟨b,0,none⟩) kd1.lt).trans o0
            have S3 : ∀ xf,(F xf).cell? ⟨b,1,none⟩ = some (.int .i64 q):=fun xf=>((hF xf).cell (p:=⟨b,1,none⟩) kd1.lt).trans o1
            have SP : ∀ xf,(F xf).cell? (ad.add (j * 2)) = some (.int .i64 x2):=fun xf=>((hF xf).cell p6).trans p0
            have SQ : ∀ xf,(F xf).cell? ⟨(ad.add (j * 2)).block,(ad.add (j * 2)).off + 1,none⟩ = some (.int .i64 y2):=fun xf=>((hF xf).cell (p:=⟨(ad.add (j * 2)).block,(ad.add (j * 2)).off + 1,none⟩) p6).trans p1
            have HF:=Lib.hid hF;have HT:=Lib.hid hT;clear hF hT
            repeat (first
              | go_big_quiet_step ((go_at_call 136;exact calls_below HF.out HT.out (HCC.out _))))
            refine wpQuiet_nil ?_;intro w' hw';obtain ⟨qf,rfl⟩:=hw';have bF:=HF.out qf;have kF:=k1.below bF k1.lt;have kdF:=kd1.below bF kd1.lt;have kxF:=kx.below bF kx.lt;have hbF:=hb1.trans (bF.mono (by have:=hb1.size;have:=HB0.out;omega));have hlF:=hl1.below (bF.mono (by have:=hb1.size;have:=HB0.out;omega));clear HF HT S0 S1 S2 S3 t0 t1 o0 o1
            generalize F qf = wf at *
            obtain ⟨tx0,tx1⟩ : wf.cell? ⟨gd,0,none⟩ = some (.int .i64 x)∧wf.cell? ⟨gd,1,none⟩ = some (.int .i64 y):=⟨kxF.cell 0,kxF.cell 1⟩;have hsz : wf.heap.size = wf.heap.size:=rfl;have ha0:=add0_any x y wf
            cases hm : mayB (x,y)
            case false =>
              have hgk : nameAt (n,q) l k = false:=by rw [HG.out,hm];rfl
              have HGK:=Lib.hid hgk;rw [hm] at ha0;clear hgk hm
              go_wp2_with first
                | ((with_reducible refine wpList_ld rowS kF ZS.out ?_ ?_);rotate_left;(rfl))
              refine ha0.mono ?_;rintro e w2 ⟨sc,s9,s1,rfl,b2⟩;have hb2:=hbF.trans (b2.mono (by have:=hbF.size;have:=HB0.out;omega));have S9:=Lib.hid s9;have SO:=Lib.hid s1;clear s9 s1
              go_wp2_with ((with_reducible refine wpList_st rowS (Blk.new _ _ _) S9.out ?_ SO.out ?_ ?_ ?_);(rfl);rotate_left;(rfl);(rfl);intro w3 k3 g3 z3)
              have hb3:=(hb2.alloc (by have:=hb2.size;have:=HB0.out;omega) _).grown g3 (by have:=hb2.size;have:=HB0.out;simp;omega) (fun r hr=>by injection hr with hr;have:=hb2.size;have:=HB0.out;omega);go_wp2_with fail;go_ret;exact ⟨by rw [HR.out,name_at hkl HGK.out];rfl,by rw [← HB0.out];exact hb3⟩
            case true =>
              have hgk : nameAt (n,q) l k = true:=by rw [HG.out,hm];rw [HBF.out];rfl
              have HGK:=Lib.hid hgk;rw [hm] at ha0;clear hgk hm
              go_wp2_with first
                | ((with_reducible refine wpList_ld rowS kF ZS.out ?_ ?_);rotate_left;(rfl))
              refine ha0.mono ?_;rintro e w2 ⟨sc,s9,s1,rfl,b2⟩;have hb2:=hbF.trans (b2.mono (by have:=hbF.size;have:=HB0.out;omega));have hl2:=hlF.below (b2.mono (by have:=hbF.size;have:=HB0.out;omega));have k2:=kF.below b2 kF.lt;have kd2:=kdF.below b2 kdF.lt;have S9:=Lib.hid s9;have SO:=Lib.hid s1;clear s9 s1
              go_wp2_with ((with_reducible refine wpList_st rowS (Blk.new _ _ _) S9.out ?_ SO.out ?_ ?_ ?_);(rfl);rotate_left;(rfl);(rfl);intro w3 k3 g3 z3)
              have hb3:=(hb2.alloc (by have:=hb2.size;have:=HB0.out;omega) _).grown g3 (by have:=hb2.size;have:=HB0.out;simp;omega) (fun r hr=>by injection hr with hr;have:=hb2.size;have:=HB0.out;omega);have bx : Below w2.heap.size w2 w3:=((Below.refl _ _).alloc (Nat.le_refl _) _).grown g3 (by simp) (fun r hr=>by injection hr with hr;omega);go_wp2_with fail
              go_roundw
              case rel=>exact ⟨k + 1,by omega,num_succ k (by have:=H96.out;omega),fun i hi=>by
                by_cases e : i = k
                · subst e;exact HGK.out
                · exact HA.out i (by omega),k2.below bx k2.lt,kd2.below bx kd2.lt,hl2.below (bx.mono (by have:=hb2.size;have:=HB0.out;omega)),hb3⟩
              case measure=>exact meas_succ k m hlt (by have:=H96.out;omega)
    · have hR : R = true:=by
        rw [HR.out,named_iff]
        exact fun i hi=>HA.out i (by have:=HM.out;omega)
      subst hR;go_wp2_with fail;go_ret;exact ⟨rfl,by rw [← HB0.out];exact hbel⟩
end Go.Proofs.YtfpenfgmpbdakaaGreat

namespace Go.Proofs.YtfpenfgmpbdakaaGreat
set_option linter.unusedVariables false
set_option linter.unusedSimpArgs false
set_option maxRecDepth 100000
open Go.RowKit
open Dot Evt
theorem ecells {w : World} {b : Nat} {T : Nat} {v0 v1 v2 v3 v4 v5 v6 v7 v8 v9 v10 v11 v12 v13 : Value} (k : Blk w b T #[v0,v1,v2,v3,v4,v5,v6,v7,v8,v9,v10,v11,v12,v13]) :
    w.cell? ⟨b,0,none⟩ = some v0∧w.cell? ⟨b,1,none⟩ = some v1∧w.cell? ⟨b,2,none⟩ = some v2∧w.cell? ⟨b,3,none⟩ = some v3∧w.cell? ⟨b,4,none⟩ = some v4∧w.cell? ⟨b,5,none⟩ = some v5∧w.cell? ⟨b,6,none⟩ = some v6∧w.cell? ⟨b,7,none⟩ = some v7∧w.cell? ⟨b,8,none⟩ = some v8∧w.cell? ⟨b,9,none⟩ = some v9∧w.cell? ⟨b,10,none⟩ = some v10∧w.cell? ⟨b,11,none⟩ = some v11∧w.cell? ⟨b,12,none⟩ = some v12∧w.cell? ⟨b,13,none⟩ = some v13 :=
  ⟨k.cell 0,k.cell 1,k.cell 2,k.cell 3,k.cell 4,k.cell 5,k.cell 6,k.cell 7,k.cell 8,k.cell 9,k.cell 10,k.cell 11,k.cell 12,k.cell 13⟩
set_option maxRecDepth 100000 in
set_option maxHeartbeats 1000000 in
theorem eright_any (x : Ev) (hp : x.p.length = 7) (A : Option Addr) (m c : Nat) (w : World) (hl : RdD w w.heap.size A m x.l) :
    Calls Tryz.prog 114 #[.agg (ec x (.slice A m c))] w fun e w'=>e = .returned (.bool (rightE x))∧Below w.heap.size w w':=by
  obtain ⟨R,hR⟩ : ∃ R,R = rightE x:=⟨_,rfl⟩;rw [← hR];obtain ⟨⟨n,q⟩,t,k,wk,v,p,l⟩:=x;have hpol:=rightpol_any p;obtain ⟨K,hK⟩ : ∃ K,K = kindB ⟨(n,q),t,k,wk,v,p,l⟩:=⟨_,rfl⟩
  have hR2 : R = (mayB (n,q) && inB t 1 top && inB wk 0 7 && decide (l.length≤96) && namedB (n,q) l && K):=by rw [hR,hK];rfl
  clear hR
  simp only at hl hp
  have HM:=Lib.hid hl.1;have hbb : Below w.heap.size w (w.alloc (.cells (ec ⟨(n,q),t,k,wk,v,p,l⟩ (.slice A m c)) 47)):=(Below.refl _ _).alloc (Nat.le_refl _) _;have kb : Blk (w.alloc (.cells (ec ⟨(n,q),t,k,wk,v,p,l⟩ (.slice A m c)) 47)) w.heap.size 47 (ec ⟨(n,q),t,k,wk,v,p,l⟩ (.slice A m c)):=Blk.new _ _ _
  unfold ec at hbb kb ⊢
  unfold pc at hpol
  simp only at hbb kb ⊢
  have hpz : p = p0↔(p.getD 0 0 = 0∧p.getD 1 0 = 0∧p.getD 2 0 = 0∧p.getD 3 0 = 0∧p.getD 4 0 = 0∧p.getD 5 0 = 0∧p.getD 6 0 = 0):=by
    match p,hp with
    | [a,b,c,d,e,f,g],_=>simp [p0]
  have hKp : K = if k = 1 then decide (p = p0) && inB v 0 top && decide (l = []) else if k = 2 then polB p && decide (v = 0) else if k = 3 then decide (p = p0) && decide (v = 0) else false:=by rw [hK];rfl
  clear hK hp
  generalize hpp : decide (p = p0) = PZ at hKp
  have hpz2 : PZ = decide (p.getD 0 0 = 0∧p.getD 1 0 = 0∧p.getD 2 0 = 0∧p.getD 3 0 = 0∧p.getD 4 0 = 0∧p.getD 5 0 = 0∧p.getD 6 0 = 0):=by
    rw [← hpp];exact decide_eq_decide.2 hpz
  clear hpp hpz
  generalize polB p = PB at hKp hpol
  generalize p.getD 0 0 = p0,p.getD 1 0 = p1,p.getD 2 0 = p2,p.getD 3 0 = p3,p.getD 4 0 = p4,p.getD 5 0 = p5,p.getD 6 0 = p6 at *
  have HR:=Lib.hid hR2;have HK:=Lib.hid hKp;have HZ:=Lib.hid hpz2;have HP:=Lib.hid hpol;have HL:=Lib.hid hl;clear hR2 hKp hpz2 hpol hl
  go_enter Tryz.func114,Tryz.ntmps114
  go_upto_region 1 with fail
  refine nameW ?_;intro wv hwv;obtain ⟨b,hb⟩ : ∃ b,b = w.heap.size:=⟨_,rfl⟩;rw [← hb];rw [← hwv,← hb] at kb hbb;have hlv:=HL.out.below (B:=w.heap.size) (by rw [← hb];exact hbb);rw [← hb] at hlv;obtain ⟨c0,c1,_⟩:=ecells kb;have ha:=add0_any n q wv;have hbw:=hbb.size;have HBE:=Lib.hid hb;clear hwv hb HL;go_wp2_with fail
  --TAIL
  rcases hm : mayB (n,q) with _ | _
  · rw [hm] at ha
    refine ha.mono ?_;rintro e w2 ⟨sc,s9,s1,rfl,b2⟩;have hb2:=hbb.trans (b2.mono (by have:=kb.lt;omega));have kb2:=kb.below b2 kb.lt;have hl2:=hlv.below (b2.mono (by have:=kb.lt;omega));have S9:=Lib.hid s9;have SO:=Lib.hid s1;clear s9 s1 ha kb hlv c0 c1
    go_wp2_with ((with_reducible refine wpList_st rowS (Blk.new _ _ _) S9.out ?_ SO.out ?_ ?_ ?_);(rfl);rotate_left;(rfl);(rfl);intro w3 k3 g3 z3)
    have bx : Below w2.heap.size w2 w3:=((Below.refl _ _).alloc (Nat.le_refl _) _).grown g3 (by simp) (fun r hr=>by injection hr with hr;omega);have hb3:=hb2.trans (bx.mono (by have:=kb2.lt;omega));have kb3:=kb2.below bx kb2.lt;have hl3:=hl2.below (bx.mono (by have:=kb2.lt;omega));go_wp2_with fail;go_ret;refine ⟨?_,by rw [← HBE.out];exact hb3⟩;rw [HR.out,hm]
    rfl
  rw [hm] at ha;have HMY:=Lib.hid hm;clear hm;refine ha.mono ?_;rintro e w2 ⟨sc,s9,s1,rfl,b2⟩;have hb2:=hbb.trans (b2.mono (by have:=kb.lt;omega));have kb2:=kb.below b2 kb.lt;have hl2:=hlv.below (b2.mono (by have:=kb.lt;omega));have S9:=Lib.hid s9;have SO:=Lib.hid s1;clear s9 s1 ha kb hlv c0 c1
  go_wp2_with (
    (with_reducible refine wpList_st rowS (Blk.new _ _ _) S9.out ?_ SO.out ?_ ?_ ?_)
    (rfl)
    rotate_left
    (rfl)
    (rfl)
    intro w3 k3 g3 z3;have bx : Below w2.heap.size w2 w3:=((Below.refl _ _).alloc (Nat.le_refl _) _).grown g3 (by simp) (fun r hr=>by injection hr with hr;omega);have hb3:=hb2.trans (bx.mono (by have:=kb2.lt;omega));have kb3:=kb2.below bx kb2.lt;have hl3:=hl2.below (bx.mono (by have:=kb2.lt;omega));have hs3:=kb3.lt;obtain ⟨c0,c1,c2,c3,c4,c5,c6,c7,c8,c9,c10,c11,c12,c13⟩:=ecells kb3;have KB:=Lib.hid kb3
    clear k3 g3 z3 kb2 hl2 bx S9 SO kb3)
  refine (within_any _ _ _ _).mono ?_;rintro e w4 ⟨rfl,rfl⟩
  rcases ht : inB t 1 1099511627776 with _ | _
  · go_wp2_with fail
    go_ret;refine ⟨?_,by rw [← HBE.out];exact hb3⟩;rw [HR.out,HMY.out,show inB t 1 top = false from ht]
    rfl
  go_wp2_with fail;refine (within_any _ _ _ _).mono ?_;rintro e w4 ⟨rfl,rfl⟩
  rcases hwk : inB wk 0 7 with _ | _
  · go_wp2_with fail
    go_ret;refine ⟨?_,by rw [← HBE.out];exact hb3⟩;rw [HR.out,HMY.out,show inB t 1 top = true from ht,hwk]
    rfl
  by_cases hlen : 96 < m
  · have hlen' : (96 : Int) < (m : Int):=by omega
    go_wp2_with fail;go_ret;refine ⟨?_,by rw [← HBE.out];exact hb3⟩;rw [HR.out,HMY.out,show inB t 1 top = true from ht,hwk,decide_eq_false (by have:=HM.out;omega)]
    rfl
  have hlen' : decide ((96 : Int) < (m : Int)) = false:=decide_eq_false (by omega);go_wp2_with fail;refine (named_any n q A m c l w3 (hl3.more (by omega)) (by omega)).mono ?_;rintro e w4 ⟨rfl,b4⟩;have kb4:=KB.out.below b4 KB.out.lt;have hb4:=hb3.trans (b4.mono (by omega));clear KB c0 c1 c2 c3 c4 c5 c6 c7 c8 c9 c10 c11 c12 c13 hl3;obtain ⟨c0,c1,c2,c3,c4,c5,c6,c7,c8,c9,c10,c11,c12,c13⟩:=ecells kb4
  rcases hnm : namedB (n,q) l with _ | _
  · go_wp2_with fail
    go_ret;refine ⟨?_,by rw [← HBE.out];exact hb4⟩;rw [HR.out,HMY.out,show inB t 1 top = true from ht,hwk,decide_eq_true (by have:=HM.out;omega),hnm]
    rfl
  have hRK : R = K:=by
    rw [HR.out,HMY.out,show inB t 1 top = true from ht,hwk,decide_eq_true (by have:=HM.out;omega),hnm]
    rfl
  have HS4:=Lib.hid kb4.lt;clear HR HMY ht hwk hnm kb4 b4 hb3;have HB4:=Lib.hid hb4;have hs4 : b < w4.heap.size:=HS4.out;clear hb4
  by_cases hp0 : p0 = 0
  rotate_left
  · have hz : PZ = false:=by rw [HZ.out,decide_eq_false_iff_not];omega
    go_upto_region 7 with fail
    clear hp0
    by_cases k1 : k = 1
    · have hKv:=HK.out
      rw [if_pos k1] at hKv;clear HK;have HK:=Lib.hid hKv;clear hKv;subst k1;go_wp2_with fail;go_ret;refine ⟨?_,by rw [← HBE.out];exact HB4.out⟩;rw [hRK,HK.out,hz]
      rfl
    by_cases k2 : k = 2
    · have hKv:=HK.out
      rw [if_neg k1,if_pos k2] at hKv;clear HK;have HK:=Lib.hid hKv;clear hKv;subst k2;clear k1;go_wp2_with fail;refine (HP.out _).mono ?_;rintro e w5 ⟨rfl,b5⟩;have hb5:=HB4.out.trans (b5.mono (by have:=HB4.out.size;omega))
      rcases PB with _ | _
      · have c5' : w5.cell? ⟨b,5,none⟩ = some (.int .i64 v):=by rw [b5.cell (by omega)];exact c5
        go_wp2_with fail;go_ret;refine ⟨?_,by rw [← HBE.out];exact hb5⟩;rw [hRK,HK.out]
        rfl
      have c5' : w5.cell? ⟨b,5,none⟩ = some (.int .i64 v):=by rw [b5.cell (by omega)];exact c5
      by_cases hv : v = 0
      · have hKv:=HK.out
        rw [decide_eq_true hv] at hKv;clear HK;have HK:=Lib.hid hKv;clear hKv;subst hv;go_wp2_with fail;go_ret;refine ⟨?_,by rw [← HBE.out];exact hb5⟩;rw [hRK,HK.out]
        rfl
      have hv2 : (v == (0 : Int)) = false:=by rw [beq_eq_false_iff_ne];exact hv
      go_wp2_with fail;go_ret;refine ⟨?_,by rw [← HBE.out];exact hb5⟩;rw [hRK,HK.out,decide_eq_false hv]
      rfl
    by_cases k3 : k = 3
    · have hKv:=HK.out
      rw [if_neg k1,if_neg k2,if_pos k3] at hKv;clear HK;have HK:=Lib.hid hKv;clear hKv;subst k3;clear k1 k2;go_wp2_with fail;go_ret;refine ⟨?_,by rw [← HBE.out];exact HB4.out⟩;rw [hRK,HK.out,hz]
      rfl
    go_wp2_with fail;go_ret;refine ⟨?_,by rw [← HBE.out];exact HB4.out⟩;rw [hRK,HK.out,if_neg k1,if_neg k2,if_neg k3]
    rfl
  subst hp0
  by_cases hp1 : p1 = 0
  rotate_left
  · have hz : PZ = false:=by rw [HZ.out,decide_eq_false_iff_not];omega
    go_upto_region 7 with fail
    clear hp1
    by_cases k1 : k = 1
    · have hKv:=HK.out
      rw [if_pos k1] at hKv;clear HK;have HK:=Lib.hid hKv;clear hKv;subst k1;go_wp2_with fail;go_ret;refine ⟨?_,by rw [← HBE.out];exact HB4.out⟩;rw [hRK,HK.out,hz]
      rfl
    by_cases k2 : k = 2
    · have hKv:=HK.out
      rw [if_neg k1,if_pos k2] at hKv;clear HK;have HK:=Lib.hid hKv;clear hKv;subst k2;clear k1;go_wp2_with fail;refine (HP.out _).mono ?_;rintro e w5 ⟨rfl,b5⟩;have hb5:=HB4.out.trans (b5.mono (by have:=HB4.out.size;omega))
      rcases PB with _ | _
      · have c5' : w5.cell? ⟨b,5,none⟩ = some (.int .i64 v):=by rw [b5.cell (by omega)];exact c5
        go_wp2_with fail;go_ret;refine ⟨?_,by rw [← HBE.out];exact hb5⟩;rw [hRK,HK.out]
        rfl
      have c5' : w5.cell? ⟨b,5,none⟩ = some (.int .i64 v):=by rw [b5.cell (by omega)];exact c5
      by_cases hv : v = 0
      · have hKv:=HK.out
        rw [decide_eq_true hv] at hKv;clear HK;have HK:=Lib.hid hKv;clear hKv;subst hv;go_wp2_with fail;go_ret;refine ⟨?_,by rw [← HBE.out];exact hb5⟩;rw [hRK,HK.out]
        rfl
      have hv2 : (v == (0 : Int)) = false:=by rw [beq_eq_false_iff_ne];exact hv
      go_wp2_with fail;go_ret;refine ⟨?_,by rw [← HBE.out];exact hb5⟩;rw [hRK,HK.out,decide_eq_false hv]
      rfl
    by_cases k3 : k = 3
    · have hKv:=HK.out
      rw [if_neg k1,if_neg k2,if_pos k3] at hKv;clear HK;have HK:=Lib.hid hKv;clear hKv;subst k3;clear k1 k2;go_wp2_with fail;go_ret;refine ⟨?_,by rw [← HBE.out];exact HB4.out⟩;rw [hRK,HK.out,hz]
      rfl
    go_wp2_with fail;go_ret;refine ⟨?_,by rw [← HBE.out];exact HB4.out⟩;rw [hRK,HK.out,if_neg k1,if_neg k2,if_neg k3]
    rfl
  subst hp1
  by_cases hp2 : p2 = 0
  rotate_left
  · have hz : PZ = false:=by rw [HZ.out,decide_eq_false_iff_not];omega
    go_upto_region 7 with fail
    clear hp2
    by_cases k1 : k = 1
    · have hKv:=HK.out
      rw [if_pos k1] at hKv;clear HK;have HK:=Lib.hid hKv;clear hKv;subst k1;go_wp2_with fail;go_ret;refine ⟨?_,by rw [← HBE.out];exact HB4.out⟩;rw [hRK,HK.out,hz]
      rfl
    by_cases k2 : k = 2
    · have hKv:=HK.out
      rw [if_neg k1,if_pos k2] at hKv;clear HK;have HK:=Lib.hid hKv;clear hKv;subst k2;clear k1;go_wp2_with fail;refine (HP.out _).mono ?_;rintro e w5 ⟨rfl,b5⟩;have hb5:=HB4.out.trans (b5.mono (by have:=HB4.out.size;omega))
      rcases PB with _ | _
      · have c5' : w5.cell? ⟨b,5,none⟩ = some (.int .i64 v):=by rw [b5.cell (by omega)];exact c5
        go_wp2_with fail;go_ret;refine ⟨?_,by rw [← HBE.out];exact hb5⟩;rw [hRK,HK.out]
        rfl
      have c5' : w5.cell? ⟨b,5,none⟩ = some (.int .i64 v):=by rw [b5.cell (by omega)];exact c5
      by_cases hv : v = 0
      · have hKv:=HK.out
        rw [decide_eq_true hv] at hKv;clear HK;have HK:=Lib.hid hKv;clear hKv;subst hv;go_wp2_with fail;go_ret;refine ⟨?_,by rw [← HBE.out];exact hb5⟩;rw [hRK,HK.out]
        rfl
      have hv2 : (v == (0 : Int)) = false:=by rw [beq_eq_false_iff_ne];exact hv
      go_wp2_with fail;go_ret;refine ⟨?_,by rw [← HBE.out];exact hb5⟩;rw [hRK,HK.out,decide_eq_false hv]
      rfl
    by_cases k3 : k = 3
    · have hKv:=HK.out
      rw [if_neg k1,if_neg k2,if_pos k3] at hKv;clear HK;have HK:=Lib.hid hKv;clear hKv;subst k3;clear k1 k2;go_wp2_with fail;go_ret;refine ⟨?_,by rw [← HBE.out];exact HB4.out⟩;rw [hRK,HK.out,hz]
      rfl
    go_wp2_with fail;go_ret;refine ⟨?_,by rw [← HBE.out];exact HB4.out⟩;rw [hRK,HK.out,if_neg k1,if_neg k2,if_neg k3]
    rfl
  subst hp2
  by_cases hp3 : p3 = 0
  rotate_left
  · have hz : PZ = false:=by rw [HZ.out,decide_eq_false_iff_not];omega
    go_upto_region 7 with fail
    clear hp3
    by_cases k1 : k = 1
    · have hKv:=HK.out
      rw [if_pos k1] at hKv;clear HK;have HK:=Lib.hid hKv;clear hKv;subst k1;go_wp2_with fail;go_ret;refine ⟨?_,by rw [← HBE.out];exact HB4.out⟩;rw [hRK,HK.out,hz]
      rfl
    by_cases k2 : k = 2
    · have hKv:=HK.out
      rw [if_neg k1,if_pos k2] at hKv;clear HK;have HK:=Lib.hid hKv;clear hKv;subst k2;clear k1;go_wp2_with fail;refine (HP.out _).mono ?_;rintro e w5 ⟨rfl,b5⟩;have hb5:=HB4.out.trans (b5.mono (by have:=HB4.out.size;omega))
      rcases PB with _ | _
      · have c5' : w5.cell? ⟨b,5,none⟩ = some (.int .i64 v):=by rw [b5.cell (by omega)];exact c5
        go_wp2_with fail;go_ret;refine ⟨?_,by rw [← HBE.out];exact hb5⟩;rw [hRK,HK.out]
        rfl
      have c5' : w5.cell? ⟨b,5,none⟩ = some (.int .i64 v):=by rw [b5.cell (by omega)];exact c5
      by_cases hv : v = 0
      · have hKv:=HK.out
        rw [decide_eq_true hv] at hKv;clear HK;have HK:=Lib.hid hKv;clear hKv;subst hv;go_wp2_with fail;go_ret;refine ⟨?_,by rw [← HBE.out];exact hb5⟩;rw [hRK,HK.out]
        rfl
      have hv2 : (v == (0 : Int)) = false:=by rw [beq_eq_false_iff_ne];exact hv
      go_wp2_with fail;go_ret;refine ⟨?_,by rw [← HBE.out];exact hb5⟩;rw [hRK,HK.out,decide_eq_false hv]
      rfl
    by_cases k3 : k = 3
    · have hKv:=HK.out
      rw [if_neg k1,if_neg k2,if_pos k3] at hKv;clear HK;have HK:=Lib.hid hKv;clear hKv;subst k3;clear k1 k2;go_wp2_with fail;go_ret;refine ⟨?_,by rw [← HBE.out];exact HB4.out⟩;rw [hRK,HK.out,hz]
      rfl
    go_wp2_with fail;go_ret;refine ⟨?_,by rw [← HBE.out];exact HB4.out⟩;rw [hRK,HK.out,if_neg k1,if_neg k2,if_neg k3]
    rfl
  subst hp3
  by_cases hp4 : p4 = 0
  rotate_left
  · have hz : PZ = false:=by rw [HZ.out,decide_eq_false_iff_not];omega
    go_upto_region 7 with fail
    clear hp4
    by_cases k1 : k = 1
    · have hKv:=HK.out
      rw [if_pos k1] at hKv;clear HK;have HK:=Lib.hid hKv;clear hKv;subst k1;go_wp2_with fail;go_ret;refine ⟨?_,by rw [← HBE.out];exact HB4.out⟩;rw [hRK,HK.out,hz]
      rfl
    by_cases k2 : k = 2
    · have hKv:=HK.out
      rw [if_neg k1,if_pos k2] at hKv;clear HK;have HK:=Lib.hid hKv;clear hKv;subst k2;clear k1;go_wp2_with fail;refine (HP.out _).mono ?_;rintro e w5 ⟨rfl,b5⟩;have hb5:=HB4.out.trans (b5.mono (by have:=HB4.out.size;omega))
      rcases PB with _ | _
      · have c5' : w5.cell? ⟨b,5,none⟩ = some (.int .i64 v):=by rw [b5.cell (by omega)];exact c5
        go_wp2_with fail;go_ret;refine ⟨?_,by rw [← HBE.out];exact hb5⟩;rw [hRK,HK.out]
        rfl
      have c5' : w5.cell? ⟨b,5,none⟩ = some (.int .i64 v):=by rw [b5.cell (by omega)];exact c5
      by_cases hv : v = 0
      · have hKv:=HK.out
        rw [decide_eq_true hv] at hKv;clear HK;have HK:=Lib.hid hKv;clear hKv;subst hv;go_wp2_with fail;go_ret;refine ⟨?_,by rw [← HBE.out];exact hb5⟩;rw [hRK,HK.out]
        rfl
      have hv2 : (v == (0 : Int)) = false:=by rw [beq_eq_false_iff_ne];exact hv
      go_wp2_with fail;go_ret;refine ⟨?_,by rw [← HBE.out];exact hb5⟩;rw [hRK,HK.out,decide_eq_false hv]
      rfl
    by_cases k3 : k = 3
    · have hKv:=HK.out
      rw [if_neg k1,if_neg k2,if_pos k3] at hKv;clear HK;have HK:=Lib.hid hKv;clear hKv;subst k3;clear k1 k2;go_wp2_with fail;go_ret;refine ⟨?_,by rw [← HBE.out];exact HB4.out⟩;rw [hRK,HK.out,hz]
      rfl
    go_wp2_with fail;go_ret;refine ⟨?_,by rw [← HBE.out];exact HB4.out⟩;rw [hRK,HK.out,if_neg k1,if_neg k2,if_neg k3]
    rfl
  subst hp4
  by_cases hp5 : p5 = 0
  rotate_left
  · have hz : PZ = false:=by rw [HZ.out,decide_eq_false_iff_not];omega
    go_upto_region 7 with fail
    clear hp5
    by_cases k1 : k = 1
    · have hKv:=HK.out
      rw [if_pos k1] at hKv;clear HK;have HK:=Lib.hid hKv;clear hKv;subst k1;go_wp2_with fail;go_ret;refine ⟨?_,by rw [← HBE.out];exact HB4.out⟩;rw [hRK,HK.out,hz]
      rfl
    by_cases k2 : k = 2
    · have hKv:=HK.out
      rw [if_neg k1,if_pos k2] at hKv;clear HK;have HK:=Lib.hid hKv;clear hKv;subst k2;clear k1;go_wp2_with fail;refine (HP.out _).mono ?_;rintro e w5 ⟨rfl,b5⟩;have hb5:=HB4.out.trans (b5.mono (by have:=HB4.out.size;omega))
      rcases PB with _ | _
      · have c5' : w5.cell? ⟨b,5,none⟩ = some (.int .i64 v):=by rw [b5.cell (by omega)];exact c5
        go_wp2_with fail;go_ret;refine ⟨?_,by rw [← HBE.out];exact hb5⟩;rw [hRK,HK.out]
        rfl
      have c5' : w5.cell? ⟨b,5,none⟩ = some (.int .i64 v):=by rw [b5.cell (by omega)];exact c5
      by_cases hv : v = 0
      · have hKv:=HK.out
        rw [decide_eq_true hv] at hKv;clear HK;have HK:=Lib.hid hKv;clear hKv;subst hv;go_wp2_with fail;go_ret;refine ⟨?_,by rw [← HBE.out];exact hb5⟩;rw [hRK,HK.out]
        rfl
      have hv2 : (v == (0 : Int)) = false:=by rw [beq_eq_false_iff_ne];exact hv
      go_wp2_with fail;go_ret;refine ⟨?_,by rw [← HBE.out];exact hb5⟩;rw [hRK,HK.out,decide_eq_false hv]
      rfl
    by_cases k3 : k = 3
    · have hKv:=HK.out
      rw [if_neg k1,if_neg k2,if_pos k3] at hKv;clear HK;have HK:=Lib.hid hKv;clear hKv;subst k3;clear k1 k2;go_wp2_with fail;go_ret;refine ⟨?_,by rw [← HBE.out];exact HB4.out⟩;rw [hRK,HK.out,hz]
      rfl
    go_wp2_with fail;go_ret;refine ⟨?_,by rw [← HBE.out];exact HB4.out⟩;rw [hRK,HK.out,if_neg k1,if_neg k2,if_neg k3]
    rfl
  subst hp5
  by_cases hp6 : p6 = 0
  rotate_left
  · have hz : PZ = false:=by rw [HZ.out,decide_eq_false_iff_not];omega
    go_upto_region 7 with fail
    clear hp6
    by_cases k1 : k = 1
    · have hKv:=HK.out
      rw [if_pos k1] at hKv;clear HK;have HK:=Lib.hid hKv;clear hKv;subst k1;go_wp2_with fail;go_ret;refine ⟨?_,by rw [← HBE.out];exact HB4.out⟩;rw [hRK,HK.out,hz]
      rfl
    by_cases k2 : k = 2
    · have hKv:=HK.out
      rw [if_neg k1,if_pos k2] at hKv;clear HK;have HK:=Lib.hid hKv;clear hKv;subst k2;clear k1;go_wp2_with fail;refine (HP.out _).mono ?_;rintro e w5 ⟨rfl,b5⟩;have hb5:=HB4.out.trans (b5.mono (by have:=HB4.out.size;omega))
      rcases PB with _ | _
      · have c5' : w5.cell? ⟨b,5,none⟩ = some (.int .i64 v):=by rw [b5.cell (by omega)];exact c5
        go_wp2_with fail;go_ret;refine ⟨?_,by rw [← HBE.out];exact hb5⟩;rw [hRK,HK.out]
        rfl
      have c5' : w5.cell? ⟨b,5,none⟩ = some (.int .i64 v):=by rw [b5.cell (by omega)];exact c5
      by_cases hv : v = 0
      · have hKv:=HK.out
        rw [decide_eq_true hv] at hKv;clear HK;have HK:=Lib.hid hKv;clear hKv;subst hv;go_wp2_with fail;go_ret;refine ⟨?_,by rw [← HBE.out];exact hb5⟩;rw [hRK,HK.out]
        rfl
      have hv2 : (v == (0 : Int)) = false:=by rw [beq_eq_false_iff_ne];exact hv
      go_wp2_with fail;go_ret;refine ⟨?_,by rw [← HBE.out];exact hb5⟩;rw [hRK,HK.out,decide_eq_false hv]
      rfl
    by_cases k3 : k = 3
    · have hKv:=HK.out
      rw [if_neg k1,if_neg k2,if_pos k3] at hKv;clear HK;have HK:=Lib.hid hKv;clear hKv;subst k3;clear k1 k2;go_wp2_with fail;go_ret;refine ⟨?_,by rw [← HBE.out];exact HB4.out⟩;rw [hRK,HK.out,hz]
      rfl
    go_wp2_with fail;go_ret;refine ⟨?_,by rw [← HBE.out];exact HB4.out⟩;rw [hRK,HK.out,if_neg k1,if_neg k2,if_neg k3]
    rfl
  subst hp6
  have hz : PZ = true:=by rw [HZ.out];simp
  go_upto_region 7 with fail
  by_cases k1 : k = 1
  · have hKv:=HK.out
    rw [if_pos k1] at hKv;clear HK;have HK:=Lib.hid hKv;clear hKv;subst k1;go_wp2_with fail;refine (within_any _ _ _ _).mono ?_;rintro e w5 ⟨rfl,rfl⟩
    rcases hv : inB v 0 1099511627776 with _ | _
    · skip
      go_wp2_with fail;go_ret;refine ⟨?_,by rw [← HBE.out];exact HB4.out⟩;rw [hRK,HK.out,hz,show inB v 0 top = false from hv]
      rfl
    by_cases hm0 : m = 0
    · subst hm0
      have hl0 : l = []:=List.length_eq_zero_iff.1 HM.out.symm;go_wp2_with fail;go_ret;refine ⟨?_,by rw [← HBE.out];exact HB4.out⟩;rw [hRK,HK.out,hz,show inB v 0 top = true from hv,decide_eq_true hl0]
      rfl
    have hl0 : ¬ l = []:=fun h=>hm0 (by rw [HM.out,h];rfl)
    have hm1 : ((m : Int) == (0 : Int)) = false:=by rw [beq_eq_false_iff_ne];omega
    go_wp2_with fail;go_ret;refine ⟨?_,by rw [← HBE.out];exact HB4.out⟩;rw [hRK,HK.out,hz,show inB v 0 top = true from hv,decide_eq_false hl0]
    rfl
  by_cases k2 : k = 2
  · have hKv:=HK.out
    rw [if_neg k1,if_pos k2] at hKv;clear HK;have HK:=Lib.hid hKv;clear hKv;subst k2;clear k1;go_wp2_with fail;refine (HP.out _).mono ?_;rintro e w5 ⟨rfl,b5⟩;have hb5:=HB4.out.trans (b5.mono (by have:=HB4.out.size;omega))
    rcases PB with _ | _
    · have c5' : w5.cell? ⟨b,5,none⟩ = some (.int .i64 v):=by rw [b5.cell (by omega)];exact c5
      go_wp2_with fail;go_ret;refine ⟨?_,by rw [← HBE.out];exact hb5⟩;rw [hRK,HK.out]
      rfl
    have c5' : w5.cell? ⟨b,5,none⟩ = some (.int .i64 v):=by rw [b5.cell (by omega)];exact c5
    by_cases hv : v = 0
    · have hKv:=HK.out
      rw [decide_eq_true hv] at hKv;clear HK;have HK:=Lib.hid hKv;clear hKv;subst hv;go_wp2_with fail;go_ret;refine ⟨?_,by rw [← HBE.out];exact hb5⟩;rw [hRK,HK.out]
      rfl
    have hv2 : (v == (0 : Int)) = false:=by rw [beq_eq_false_iff_ne];exact hv
    go_wp2_with fail;go_ret;refine ⟨?_,by rw [← HBE.out];exact hb5⟩;rw [hRK,HK.out,decide_eq_false hv]
    rfl
  by_cases k3 : k = 3
  · have hKv:=HK.out
    rw [if_neg k1,if_neg k2,if_pos k3] at hKv;clear HK;have HK:=Lib.hid hKv;clear hKv;subst k3;clear k1 k2
    by_cases hv : v = 0
    · have hKv:=HK.out
      rw [decide_eq_true hv] at hKv;clear HK;have HK:=Lib.hid hKv;clear hKv;subst hv;go_wp2_with fail;go_ret;refine ⟨?_,by rw [← HBE.out];exact HB4.out⟩;rw [hRK,HK.out,hz]
      rfl
    have hv2 : (v == (0 : Int)) = false:=by rw [beq_eq_false_iff_ne];exact hv
    go_wp2_with fail;go_ret;refine ⟨?_,by rw [← HBE.out];exact HB4.out⟩;rw [hRK,HK.out,hz,decide_eq_false hv]
    rfl
  go_wp2_with fail;go_ret;refine ⟨?_,by rw [← HBE.out];exact HB4.out⟩;rw [hRK,HK.out,if_neg k1,if_neg k2,if_neg k3]
  rfl
end Go.Proofs.YtfpenfgmpbdakaaGreat

namespace Go.Proofs.YtfpenfgmpbdakaaGreat
set_option linter.unusedVariables false
set_option linter.unusedSimpArgs false
set_option maxRecDepth 100000
open Go.RowKit
open Dot Evt
section
variable {P : Program}
theorem run_loadVar_at (w : World) (a : Addr) (ty : TypeId) (cs : List Value) (d : TypeDesc) (hc : ∀ (j : Nat) v,cs[j]? = some v→w.cell? (a.add j) = some v)
    (hu : P.underlying ty = some d) (hd : d.isRow = true) (hi : (P.info? ty).map (·.size) = some cs.length) :
    (loadVar ty a).run P w = .ok (.agg cs.toArray) w:=by
  have hl : (loadCells a cs.length).run P w = .ok cs.toArray w:=run_loadCells_list (P:=P) w a cs hc
  cases hq : P.info? ty with
  | none=>simp [hq] at hi
  | some i =>
    have hs : i.size = cs.length:=by simpa [hq] using hi
    have hagg : (isAgg ty).run P w = .ok true w:=by
      unfold isAgg
      rw [Sem.run_bind,run_underlying hu w]
      cases d <;> simp_all
    simp [loadVar,Sem.run_bind,hagg,sizeOf,typeInfo,hq,hs,hl]
theorem wpList_lda {ops : Array Oper} {rest : List Oper} {a : Act} {w : World} {Q : Exit→Act→World→Prop} {d : Option Tmp} {ty T : TypeId} {pos : String} {aft : Array Edge} {x : Operand} {ad : Addr} {n : Nat} {cs : Array Value} (hR : RowT P T n)
    (hc : ∀ (j : Nat) v,cs[j]? = some v→w.cell? (ad.add j) = some v) (hn : cs.size = n)
    (h : wpList P ops Q rest (a.put d (.agg cs)) w) (hx : a.eval x = .pointer (some ad)) : wpList P ops Q (⟨d,.load T x,ty,pos,aft,none⟩ :: rest) a w:=by
  obtain ⟨e,hu,hd,hi⟩:=hR;rw [← hn,← Array.length_toList] at hi
  have hcl : ∀ (j : Nat) v,cs.toList[j]? = some v→w.cell? (ad.add j) = some v:=fun j v hj=>hc j v (by simpa using hj)
  refine wpList_plain rfl fun _ hK=>?_
  unfold Oper.wp execOp
  simp only [hx,Instr.loadAt,Instr.sureAddr,Sem.run_bind,Sem.run_pure,Result.andThen_ok,run_loadVar_at w ad T cs.toList e hcl hu hd hi,Array.toArray_toList]
  exact hK _ _ h
end
structure EvV where
  e : Ev
  A : Option Addr
  m : Nat
  c : Nat
def EvV.cs (x : EvV) : Array Value:=ec x.e (.slice x.A x.m x.c)
theorem EvV.size (x : EvV) : x.cs.size = 14:=rfl
theorem EvV.one (x : EvV) : x.cs.all (·.oneCell') = true:=ec_one _ _ _ _
def EvOk (w : World) (B : Nat) (x : EvV) : Prop:=x.e.p.length = 7∧RdD w B x.A x.m x.e.l∧x.m≤10000000000000
def RowEv (w : World) (B : Nat) (A : Option Addr) (n : Nat) (xs : List EvV) : Prop :=
  n = xs.length∧∀ i x,xs[i]? = some x→EvOk w B x∧∃ ad,A = some ad∧ad.block < B∧∀ (j : Nat) v,x.cs[j]? = some v→w.cell? ((ad.add (i * 14)).add j) = some v
section
variable {w w' : World} {B B' : Nat} {A : Option Addr} {n : Nat} {xs : List EvV} {x : EvV}
theorem EvOk.below (h : EvOk w B x) (hb : Below B w w') : EvOk w' B x:=⟨h.1,h.2.1.below hb,h.2.2⟩
theorem EvOk.more (h : EvOk w B x) (hB : B≤B') : EvOk w B' x:=⟨h.1,h.2.1.more hB,h.2.2⟩
theorem RowEv.below (h : RowEv w B A n xs) (hb : Below B w w') : RowEv w' B A n xs:=⟨h.1,fun i x hi=>by
  obtain ⟨h1,ad,e,h2,h3⟩:=h.2 i x hi
  exact ⟨h1.below hb,ad,e,h2,fun j v hv=>(hb.cell (by rw [block_add,block_add];exact h2)).trans (h3 j v hv)⟩⟩
theorem RowEv.more (h : RowEv w B A n xs) (hB : B≤B') : RowEv w B' A n xs:=⟨h.1,fun i x hi=>by
  obtain ⟨h1,ad,e,h2,h3⟩:=h.2 i x hi
  exact ⟨h1.more hB,ad,e,by omega,h3⟩⟩
theorem RowEv.nil (w : World) (B : Nat) (A : Option Addr) : RowEv w B A 0 []:=⟨rfl,fun i d hi=>by simp at hi⟩
end
theorem wrap_one (m : Nat) (h : m≤10000000000000) : wrap64 (1 + (m : Int)) = 1 + (m : Int):=IntWalk.wrap64_in _ ⟨by omega,by omega⟩
theorem wrap_two (S m : Nat) (hs : S≤3000) (h : m≤10000000000000) : wrap64 ((S : Int) + (1 + (m : Int))) = (S : Int) + (1 + (m : Int)):=IntWalk.wrap64_in _ ⟨by omega,by omega⟩
theorem cast_two (S m : Nat) : Value.int .i64 ((S : Int) + (1 + (m : Int))) = .int .i64 ((S + (1 + m) : Nat) : Int):=by
  rw [Int.natCast_add,Int.natCast_add]
  rfl
def evSum (xs : List EvV) : Nat:=(xs.map fun x=>1 + x.m).sum
theorem evSum_take (xs : List EvV) {k : Nat} (h : k < xs.length) : evSum (xs.take (k + 1)) = evSum (xs.take k) + (1 + xs[k].m):=by
  unfold evSum
  rw [take_snoc xs h,List.map_append,List.sum_append]
  simp
set_option maxRecDepth 100000 in
set_option maxHeartbeats 2000000 in
theorem egreat_any (A : Option Addr) (n c : Nat) (xs : List EvV) (B : Nat) (w : World) (hn : n≤4611686018427387904) (hR : RowEv w B A n xs) (hB : B≤w.heap.size) :
    Calls Tryz.prog 33 #[.slice A n c] w fun e w'=>(∃ G,e = .returned (.bool G)∧(G = false→evSum xs≤3000))∧Below w.heap.size w w':=by
  have HN:=Lib.hid hR.1;have HNB:=Lib.hid hn
  have hRk:=fun (w' : World) (hb : Below w.heap.size w w')=>hR.below (hb.mono hB)
  have HRK:=Lib.hid hRk;clear hRk hn hR
  go_enter Tryz.func33,Tryz.ntmps33
  go_wp2_with fail
  go_loopw [3,8] (fun s i wr=>∃ k : Nat,k≤n∧i = .int .i64 k∧s = .int .i64 (evSum (xs.take k) : Nat)∧evSum (xs.take k)≤3000∧Below w.heap.size w wr) (fun _ i _=>n - (intOf i).toNat)
  case atStart=>exact ⟨0,by omega,rfl,rfl,by simp [evSum],Below.refl _ _⟩
  case round =>
    obtain ⟨k,hk,rfl,rfl,hs,gb⟩:=hrel
    by_cases hlt : k < n
    · have hkl : k < xs.length:=by rw [← HN.out];exact hlt
      obtain ⟨hok,ad,hA,hab,hcell⟩:=(HRK.out wr gb).2 k _ (List.getElem?_eq_getElem hkl);have hst:=evSum_take xs hkl
      generalize xs[k] = x at *
      subst hA;have hml : x.m≤10000000000000:=hok.2.2;obtain ⟨S,hS⟩ : ∃ S,S = evSum (xs.take k):=⟨_,rfl⟩;rw [← hS] at hs hst ⊢;have HST:=Lib.hid hst;have hw1:=wrap_one x.m hml;have hw2:=wrap_two S x.m hs hml;obtain ⟨cs,hcs⟩ : ∃ cs,cs = x.cs:=⟨_,rfl⟩;rw [← hcs] at hcell;have HSZ:=Lib.hid (show cs.size = 14 by rw [hcs];rfl);have H1C:=Lib.hid (show cs.all (·.oneCell') = true by rw [hcs];exact x.one);have X13:=Lib.hid (show cs[13]? = some (.slice x.A x.m x.c) by rw [hcs];rfl);have HC:=Lib.hid hcell
      have hk0 : (0 : Int)≤(k : Int):=by omega
      have hkm : (k : Int) < (n : Int):=by omega
      clear hst hml hcs hcell hok hS
      go_upto_region 4 with fail
      go_upto_region 5 with first
        | ((with_reducible refine wpList_lda rowE HC.out HSZ.out ?_ ?_);rotate_left;(rfl))
        | ((with_reducible refine wpList_st rowE (Blk.new _ _ _) HSZ.out ?_ H1C.out ?_ ?_ ?_);(rfl);rotate_left;(rfl);(rfl);intro w6 k6 g6 z6)
      have bA : Below wr.heap.size wr w6:=(((Below.refl _ _).alloc (Nat.le_refl _) _).grown g6 (by simp) (fun q hq=>by injection hq with hq;omega));have gb6:=gb.trans (bA.mono gb.size);obtain ⟨gr,hgr2⟩ : ∃ gr,gr = wr.heap.size:=⟨_,rfl⟩;rw [← hgr2] at k6 ⊢;have t13 : w6.cell? ⟨gr,13,none⟩ = some (.slice x.A x.m x.c):=(k6.cell 13).trans X13.out;clear hgr2 g6 z6 bA gb k6
      by_cases hbig : 3000 < S + (1 + x.m)
      · have hd : decide ((3000 : Int) < (S : Int) + (1 + (x.m : Int))) = true:=decide_eq_true (by omega)
        clear hbig;go_wp2_with fail;go_ret;exact ⟨⟨true,rfl,fun h=>by cases h⟩,gb6⟩
      · have hd : decide ((3000 : Int) < (S : Int) + (1 + (x.m : Int))) = false:=decide_eq_false (by omega)
        have HBG:=Lib.hid hbig;clear hbig;go_wp2_with fail
        go_roundw
        case rel=>exact ⟨k + 1,by omega,num_succ k (by have:=HNB.out;omega),by rw [HST.out,hw2];exact cast_two S x.m,by rw [HST.out];have:=HBG.out;omega,gb6⟩
        case measure=>exact meas_succ k n hlt (by have:=HNB.out;omega)
    · have hkd : decide ((k : Int) < (n : Int)) = false:=decide_eq_false (by omega)
      have hsx : evSum xs≤3000:=by rwa [List.take_of_length_le (by rw [← HN.out];omega)] at hs
      have HSX:=Lib.hid hsx;clear hsx hs;go_wp2_with fail;go_ret;exact ⟨⟨false,rfl,fun _=>HSX.out⟩,gb⟩
end Go.Proofs.YtfpenfgmpbdakaaGreat

namespace Go.Proofs.YtfpenfgmpbdakaaGreat
set_option linter.unusedVariables false
set_option linter.unusedSimpArgs false
set_option maxRecDepth 100000
open Go.RowKit
open Dot Evt
theorem grown_refl0 (w : World) (row : Option Nat) : w.grownBy w row:=⟨rfl,rfl,rfl,Nat.le_refl _,fun _ _ _=>rfl⟩
abbrev eflt (x : Int) : Value:=.iface 166 (.agg #[.int .i64 x])
theorem eframe15 (a f : Value) : (#[a] ++ (Array.replicate 14 undef).setIfInBounds 4 f : Array Value) = #[a,undef,undef,undef,undef,f,undef,undef,undef,undef,undef,undef,undef,undef,undef]:=by kernel_rfl
theorem eassert_flt (x : Int) (w : World) : (Instr.typeAssert (eflt x) 20 166 true).run Tryz.prog w = .ok (.tuple #[.agg #[.int .i64 x],.bool true]) w:=by kernel_rfl
theorem ecaught_panic (g : Nat) (x : Int) (older : List PanicEntry) (v : Value) (w : World) (h0 : w.cell? ⟨g,0,none⟩ = some v) (hf : w.frozen? ⟨g,0,none⟩ = false) :
    CallsD Tryz.prog 100 #[.pointer (some ⟨g,0,none⟩)] (.panicking ({ v:=eflt x,recovered:=false } :: older)) w fun e u' w' =>
      e = .returned (.tuple #[])∧u' = .panicking ({ v:=eflt x,recovered:=true } :: older)∧w' = (w.alloc (.cells #[.int .i64 x] 166)).setCell ⟨g,0,none⟩ (.int .i64 x):=by
  have ta:=eassert_flt x;have lt0:=World.block_lt_of_cell? w _ h0
  refine callsD_of_wpS Tryz.func100 rfl fun c₀ cs hu=>?_
  apply wpS_seq
  apply wpS_region
  simp [wpOpsS,go_sem,recoverD,hu,Tryz.ntmps100,Exit.thenS]
  refine wpS_of_wp ?_;rw [eframe15];go_wp2_with fail
  simp [bodyPostS,results,Tryz.results100]
theorem ecaught_none (g : Nat) (w : World) :
    CallsD Tryz.prog 100 #[.pointer (some ⟨g,0,none⟩)] .returning w fun e u' w'=>e = .returned (.tuple #[])∧u' = .returning∧w' = w:=by
  refine callsD_of_wpS Tryz.func100 rfl fun c₀ cs hu=>?_
  apply wpS_seq
  apply wpS_region
  simp [wpOpsS,go_sem,recoverD,hu,Tryz.ntmps100,Exit.thenS]
  refine wpS_of_wp ?_;rw [eframe15];go_wp2_with fail
  cases c₀
  simp_all [bodyPostS,results,Tryz.results100]
theorem wfail_any (g : Nat) (x : Int) (w : World) :
    Calls Tryz.prog 116 #[.pointer (some ⟨g,0,none⟩),.int .i64 x] w fun e w'=>e = .panicked [{ v:=eflt x,recovered:=false }]∧w = w':=by
  go_enter Tryz.func116,Tryz.ntmps116
  go_wp2_with fail;exact ⟨rfl,rfl,rfl⟩
def WrS (w : World) (g : Nat) (bs : List UInt8) : Prop:=∃ A n c,Blk w g 150 #[.slice A n c]∧OwnB w (g + 1) A n c bs
theorem WrS.lt {w : World} {g : Nat} {bs : List UInt8} (h : WrS w g bs) : g < w.heap.size:=by obtain ⟨A,n,c,h,_⟩:=h;exact h.lt
theorem WrS.alloc {w : World} {g : Nat} {bs : List UInt8} (h : WrS w g bs) (o : Obj) : WrS (w.alloc o) g bs:=by
  obtain ⟨A,n,c,h,h2⟩:=h;exact ⟨A,n,c,h.alloc o,h2.alloc o⟩
theorem WrS.below {w w' : World} {g : Nat} {bs : List UInt8} (h : WrS w g bs) (hb : Below w.heap.size w w') : WrS w' g bs:=by
  obtain ⟨A,n,c,h,h2⟩:=h;exact ⟨A,n,c,h.below hb h.lt,h2.below hb (Nat.le_refl _)⟩
theorem wnum_any (g : Nat) (p : Addr) (bs : List UInt8) (x : Nat) (w : World) (h : WrS w g bs) (hp : w.cell? p = some (.int .i64 x)) (hx : x≤1099511627776) (hl : bs.length≤140737488355000) :
    Calls Tryz.prog 162 #[.pointer (some ⟨g,0,none⟩),.pointer (some p)] w fun e w'=>e = .returned (.tuple #[])∧WrS w' g (bs ++ Vint.enc x)∧w.grownBy w' (some g):=by
  obtain ⟨A,n,c,hb,ho⟩:=h;have c0 : w.cell? ⟨g,0,none⟩ = some (.slice A n c):=hb.cell 0;have hpl : p.block < w.heap.size:=World.block_lt_of_cell? w _ hp;have HO:=Lib.hid ho;have HB:=Lib.hid hb;have HL:=Lib.hid (show n≤140737488355000 by rw [ho.1];exact hl);have hgl:=hb.lt;have hcal:=put_ok A n c bs x w.heap.size w.drew ho.rd (Nat.le_refl _) HL.out hx;have HC:=Lib.hid hcal;clear hb ho hl hcal
  go_enter Tryz.func162,Tryz.ntmps162
  go_wp2_with fail
  go_region_with (go_at_call 77;refine HC.out.mono ?_;rintro e w1 ⟨A1,n1,c1,rfl,ho1,b1⟩;have kb1 : Blk w1 g 150 #[.slice A n c]:=HB.out.drew.below b1 HB.out.lt;have c1' : w1.cell? ⟨g,0,none⟩ = some (.slice A n c):=kb1.cell 0;have f1:=kb1.free 0)
  all_goals (
    go_wp2_with fail
    go_end0
    refine ⟨rfl,⟨A1,n1,c1,kb1.set_ 0 _,?_⟩,?_⟩
    · refine (ho1.mono (by show g + 1≤w.heap.size;omega)).setFar ?_ _
      rcases A1 with _ | a
      · simp
      · have:=(ho1.lt a.block rfl).1
        have h2 : w.drew.heap.size = w.heap.size:=rfl
        simp
        omega
    · have hg:=only_below (grown_refl0 w.drew (some g)) b1
      have hg2 : w.grownBy w1 (some g):=⟨hg.os,hg.tape,hg.output,hg.size,hg.block⟩
      exact only_set hg2 _)
end Go.Proofs.YtfpenfgmpbdakaaGreat

namespace Go.Proofs.YtfpenfgmpbdakaaGreat
set_option linter.unusedVariables false
set_option linter.unusedSimpArgs false
set_option maxRecDepth 100000
open Go.RowKit
open Dot Evt
abbrev wnumV (g : Nat) : Value:=.func (.method "murmur/event.number") #[.iface 148 (.pointer (some ⟨g,0,none⟩))] #[]
def encN (l : List Nat) : List UInt8:=l.flatMap Vint.enc
theorem encN_cons (x : Nat) (l : List Nat) : encN (x :: l) = Vint.enc x ++ encN l:=by simp [encN]
theorem encN_app (k l : List Nat) : encN (k ++ l) = encN k ++ encN l:=by simp [encN]
theorem encF_len (f : Nat) : ∀ x,(Vint.encF f x).length≤f + 1:=by
  induction f with
  | zero=>intro x;simp [Vint.encF]
  | succ f ih =>
    intro x
    unfold Vint.encF
    split
    · simp
    · simp only [List.length_cons]
      have:=ih (x / 128)
      omega
theorem enc_len6 (x : Nat) : (Vint.enc x).length≤6:=encF_len 5 x
set_option maxRecDepth 100000 in
set_option maxHeartbeats 1000000 in
theorem polw_any (b g : Nat) (bs : List UInt8) (v0 v1 v2 v3 v4 v5 v13 : Value) (x0 x1 x2 x3 x4 x5 x6 : Nat) (w : World) (h : WrS w g bs) (hb : Blk w b 47 #[v0,v1,v2,v3,v4,v5,.int .i64 x0,.int .i64 x1,.int .i64 x2,.int .i64 x3,.int .i64 x4,.int .i64 x5,.int .i64 x6,v13]) (hne : b ≠ g)
    (h0 : x0≤1099511627776) (h1 : x1≤1099511627776) (h2 : x2≤1099511627776) (h3 : x3≤1099511627776) (h4 : x4≤1099511627776) (h5 : x5≤1099511627776) (h6 : x6≤1099511627776) (hl : bs.length≤140737488354000) :
    Calls Tryz.prog 122 #[.pointer (some ⟨b,6,none⟩),wnumV g] w fun e w'=>e = .returned (.tuple #[])∧WrS w' g (bs ++ encN [x0,x1,x2,x3,x4,x5,x6])∧w.grownBy w' (some g):=by
  have H0:=Lib.hid h0;have H1:=Lib.hid h1;have H2:=Lib.hid h2;have H3:=Lib.hid h3;have H4:=Lib.hid h4;have H5:=Lib.hid h5;have H6:=Lib.hid h6;have HL:=Lib.hid hl;have HNE:=Lib.hid (show (some g : Option Nat) ≠ some b by simp;omega);have hbl:=hb.lt
  have hm : ∀ w,(method 246 148 (.pointer (some ⟨g,0,none⟩)) "murmur/event.number").run Tryz.prog w = .ok (162,.pointer (some ⟨g,0,none⟩)) w:=fun w=>by kernel_rfl
  clear h0 h1 h2 h3 h4 h5 h6 hl hne
  have hix0 : ∀ w,(Instr.index 188 (.agg #[.pointer (some ⟨b,6,none⟩),.pointer (some ⟨b,7,none⟩),.pointer (some ⟨b,8,none⟩),.pointer (some ⟨b,9,none⟩),.pointer (some ⟨b,10,none⟩),.pointer (some ⟨b,11,none⟩),.pointer (some ⟨b,12,none⟩)]) (.int .i64 0)).run Tryz.prog w = .ok (.pointer (some ⟨b,6,none⟩)) w:=fun w=>by kernel_rfl
  have hix1 : ∀ w,(Instr.index 188 (.agg #[.pointer (some ⟨b,6,none⟩),.pointer (some ⟨b,7,none⟩),.pointer (some ⟨b,8,none⟩),.pointer (some ⟨b,9,none⟩),.pointer (some ⟨b,10,none⟩),.pointer (some ⟨b,11,none⟩),.pointer (some ⟨b,12,none⟩)]) (.int .i64 1)).run Tryz.prog w = .ok (.pointer (some ⟨b,7,none⟩)) w:=fun w=>by kernel_rfl
  have hix2 : ∀ w,(Instr.index 188 (.agg #[.pointer (some ⟨b,6,none⟩),.pointer (some ⟨b,7,none⟩),.pointer (some ⟨b,8,none⟩),.pointer (some ⟨b,9,none⟩),.pointer (some ⟨b,10,none⟩),.pointer (some ⟨b,11,none⟩),.pointer (some ⟨b,12,none⟩)]) (.int .i64 2)).run Tryz.prog w = .ok (.pointer (some ⟨b,8,none⟩)) w:=fun w=>by kernel_rfl
  have hix3 : ∀ w,(Instr.index 188 (.agg #[.pointer (some ⟨b,6,none⟩),.pointer (some ⟨b,7,none⟩),.pointer (some ⟨b,8,none⟩),.pointer (some ⟨b,9,none⟩),.pointer (some ⟨b,10,none⟩),.pointer (some ⟨b,11,none⟩),.pointer (some ⟨b,12,none⟩)]) (.int .i64 3)).run Tryz.prog w = .ok (.pointer (some ⟨b,9,none⟩)) w:=fun w=>by kernel_rfl
  have hix4 : ∀ w,(Instr.index 188 (.agg #[.pointer (some ⟨b,6,none⟩),.pointer (some ⟨b,7,none⟩),.pointer (some ⟨b,8,none⟩),.pointer (some ⟨b,9,none⟩),.pointer (some ⟨b,10,none⟩),.pointer (some ⟨b,11,none⟩),.pointer (some ⟨b,12,none⟩)]) (.int .i64 4)).run Tryz.prog w = .ok (.pointer (some ⟨b,10,none⟩)) w:=fun w=>by kernel_rfl
  have hix5 : ∀ w,(Instr.index 188 (.agg #[.pointer (some ⟨b,6,none⟩),.pointer (some ⟨b,7,none⟩),.pointer (some ⟨b,8,none⟩),.pointer (some ⟨b,9,none⟩),.pointer (some ⟨b,10,none⟩),.pointer (some ⟨b,11,none⟩),.pointer (some ⟨b,12,none⟩)]) (.int .i64 5)).run Tryz.prog w = .ok (.pointer (some ⟨b,11,none⟩)) w:=fun w=>by kernel_rfl
  have hix6 : ∀ w,(Instr.index 188 (.agg #[.pointer (some ⟨b,6,none⟩),.pointer (some ⟨b,7,none⟩),.pointer (some ⟨b,8,none⟩),.pointer (some ⟨b,9,none⟩),.pointer (some ⟨b,10,none⟩),.pointer (some ⟨b,11,none⟩),.pointer (some ⟨b,12,none⟩)]) (.int .i64 6)).run Tryz.prog w = .ok (.pointer (some ⟨b,12,none⟩)) w:=fun w=>by kernel_rfl
  go_enter Tryz.func122,Tryz.ntmps122
  go_wp2_with fail
  go_region
  go_wp2_with fail;have hw0 : WrS w.drew g bs:=h;have hb0 : Blk w.drew b 47 #[v0,v1,v2,v3,v4,v5,.int .i64 x0,.int .i64 x1,.int .i64 x2,.int .i64 x3,.int .i64 x4,.int .i64 x5,.int .i64 x6,v13]:=hb;have g0 : w.grownBy w.drew (some g):=⟨rfl,rfl,rfl,Nat.le_refl _,fun _ _ _=>rfl⟩;clear h hb;refine wp_loop_rounds 8 ?_;rw [rounds_succ];go_wp2_with fail;refine (wnum_any g ⟨b,6,none⟩ (bs) x0 _ hw0 (hb0.cell 6) H0.out ?_).mono ?_
  · have:=HL.out
    (try simp only [List.length_append]);omega
  rintro e w1 ⟨rfl,hw1,gg⟩;have hb1:=hb0.grown gg HNE.out;have g1:=g0.trans gg;clear hw0 hb0 g0 gg;go_wp2_with fail;rw [rounds_succ];go_wp2_with fail;refine (wnum_any g ⟨b,7,none⟩ (bs ++ Vint.enc x0) x1 _ hw1 (hb1.cell 7) H1.out ?_).mono ?_
  · have:=HL.out
    have:=enc_len6 x0;(try simp only [List.length_append]);omega
  rintro e w2 ⟨rfl,hw2,gg⟩;have hb2:=hb1.grown gg HNE.out;have g2:=g1.trans gg;clear hw1 hb1 g1 gg;go_wp2_with fail;rw [rounds_succ];go_wp2_with fail;refine (wnum_any g ⟨b,8,none⟩ (bs ++ Vint.enc x0 ++ Vint.enc x1) x2 _ hw2 (hb2.cell 8) H2.out ?_).mono ?_
  · have:=HL.out
    have:=enc_len6 x0;have:=enc_len6 x1;(try simp only [List.length_append]);omega
  rintro e w3 ⟨rfl,hw3,gg⟩;have hb3:=hb2.grown gg HNE.out;have g3:=g2.trans gg;clear hw2 hb2 g2 gg;go_wp2_with fail;rw [rounds_succ];go_wp2_with fail;refine (wnum_any g ⟨b,9,none⟩ (bs ++ Vint.enc x0 ++ Vint.enc x1 ++ Vint.enc x2) x3 _ hw3 (hb3.cell 9) H3.out ?_).mono ?_
  · have:=HL.out
    have:=enc_len6 x0;have:=enc_len6 x1;have:=enc_len6 x2;(try simp only [List.length_append]);omega
  rintro e w4 ⟨rfl,hw4,gg⟩;have hb4:=hb3.grown gg HNE.out;have g4:=g3.trans gg;clear hw3 hb3 g3 gg;go_wp2_with fail;rw [rounds_succ];go_wp2_with fail;refine (wnum_any g ⟨b,10,none⟩ (bs ++ Vint.enc x0 ++ Vint.enc x1 ++ Vint.enc x2 ++ Vint.enc x3) x4 _ hw4 (hb4.cell 10) H4.out ?_).mono ?_
  · have:=HL.out
    have:=enc_len6 x0;have:=enc_len6 x1;have:=enc_len6 x2;have:=enc_len6 x3;(try simp only [List.length_append]);omega
  rintro e w5 ⟨rfl,hw5,gg⟩;have hb5:=hb4.grown gg HNE.out;have g5:=g4.trans gg;clear hw4 hb4 g4 gg;go_wp2_with fail;rw [rounds_succ];go_wp2_with fail;refine (wnum_any g ⟨b,11,none⟩ (bs ++ Vint.enc x0 ++ Vint.enc x1 ++ Vint.enc x2 ++ Vint.enc x3 ++ Vint.enc x4) x5 _ hw5 (hb5.cell 11) H5.out ?_).mono ?_
  · have:=HL.out
    have:=enc_len6 x0;have:=enc_len6 x1;have:=enc_len6 x2;have:=enc_len6 x3;have:=enc_len6 x4;(try simp only [List.length_append]);omega
  rintro e w6 ⟨rfl,hw6,gg⟩;have hb6:=hb5.grown gg HNE.out;have g6:=g5.trans gg;clear hw5 hb5 g5 gg;go_wp2_with fail;rw [rounds_succ];go_wp2_with fail;refine (wnum_any g ⟨b,12,none⟩ (bs ++ Vint.enc x0 ++ Vint.enc x1 ++ Vint.enc x2 ++ Vint.enc x3 ++ Vint.enc x4 ++ Vint.enc x5) x6 _ hw6 (hb6.cell 12) H6.out ?_).mono ?_
  · have:=HL.out
    have:=enc_len6 x0;have:=enc_len6 x1;have:=enc_len6 x2;have:=enc_len6 x3;have:=enc_len6 x4;have:=enc_len6 x5;(try simp only [List.length_append]);omega
  rintro e w7 ⟨rfl,hw7,gg⟩;have hb7:=hb6.grown gg HNE.out;have g7:=g6.trans gg;clear hw6 hb6 g6 gg;go_wp2_with fail;rw [rounds_succ];go_wp2_with fail
  go_end0
  refine ⟨rfl,?_,g7⟩
  have e : bs ++ encN [x0,x1,x2,x3,x4,x5,x6] = bs ++ Vint.enc x0 ++ Vint.enc x1 ++ Vint.enc x2 ++ Vint.enc x3 ++ Vint.enc x4 ++ Vint.enc x5 ++ Vint.enc x6:=by simp [encN]
  rw [e];exact hw7
end Go.Proofs.YtfpenfgmpbdakaaGreat

namespace Go.Proofs.YtfpenfgmpbdakaaGreat
set_option linter.unusedVariables false
set_option linter.unusedSimpArgs false
set_option maxRecDepth 100000
open Go.RowKit
open Dot Evt
def dotN (l : List Dt) : List Nat:=l.flatMap fun d=>[d.1.toNat,d.2.toNat]
theorem dotN_snoc (l : List Dt) (d : Dt) : dotN (l ++ [d]) = dotN l ++ [d.1.toNat,d.2.toNat]:=by simp [dotN]
theorem encN_len (l : List Nat) : (encN l).length≤6 * l.length:=by
  induction l with
  | nil=>simp [encN]
  | cons a l ih =>
    rw [encN_cons,List.length_append,List.length_cons]
    have:=enc_len6 a
    omega
theorem dotN_len (l : List Dt) : (dotN l).length = 2 * l.length:=by
  induction l with
  | nil=>rfl
  | cons a l ih=>simp [dotN] at ih ⊢;omega
set_option maxRecDepth 100000 in
set_option maxHeartbeats 2000000 in
theorem thrw_any (b g : Nat) (bs : List UInt8) (n q t k wk v p0 p1 p2 p3 p4 p5 p6 : Nat) (A : Option Addr) (m c : Nat) (l : List Dt) (w : World) (h : WrS w g bs)
    (hb : Blk w b 47 #[.int .i64 n,.int .i64 q,.int .i64 t,.int .i64 k,.int .i64 wk,.int .i64 v,.int .i64 p0,.int .i64 p1,.int .i64 p2,.int .i64 p3,.int .i64 p4,.int .i64 p5,.int .i64 p6,.slice A m c]) (hne : b ≠ g)
    (h0 : n≤1099511627776) (h1 : q≤1099511627776) (h2 : t≤1099511627776) (h3 : 1≤k∧k≤3) (h4 : wk≤1099511627776) (h5 : v≤1099511627776)
    (hp0 : p0≤1099511627776) (hp1 : p1≤1099511627776) (hp2 : p2≤1099511627776) (hp3 : p3≤1099511627776) (hp4 : p4≤1099511627776) (hp5 : p5≤1099511627776) (hp6 : p6≤1099511627776)
    (hr : RdD w g A m l) (hm96 : m≤96) (hd : ∀ d ∈ l,(0≤d.1∧d.1≤1099511627776)∧0≤d.2∧d.2≤1099511627776) (hl : bs.length≤140737488350000) :
    Calls Tryz.prog 112 #[.pointer (some ⟨b,0,none⟩),.iface 148 (.pointer (some ⟨g,0,none⟩))] w fun e w'=>e = .returned (.tuple #[]) ∧
      WrS w' g (bs ++ encN ([n,q,t,k,wk] ++ (if k = 1 then [v] else (if k = 2 then [p0,p1,p2,p3,p4,p5,p6] else []) ++ [m] ++ dotN l)))∧w.grownBy w' (some g):=by
  obtain ⟨L,hL⟩ : ∃ L,L = ([n,q,t,k,wk] ++ (if k = 1 then [v] else (if k = 2 then [p0,p1,p2,p3,p4,p5,p6] else []) ++ [m] ++ dotN l)):=⟨_,rfl⟩;rw [← hL];have HLE:=Lib.hid hL;clear hL;have H0:=Lib.hid h0;have H1:=Lib.hid h1;have H2:=Lib.hid h2;have H3:=Lib.hid h3;have H4:=Lib.hid h4;have H5:=Lib.hid h5;have HP0:=Lib.hid hp0;have HP1:=Lib.hid hp1;have HP2:=Lib.hid hp2;have HP3:=Lib.hid hp3;have HP4:=Lib.hid hp4;have HP5:=Lib.hid hp5;have HP6:=Lib.hid hp6;have HL:=Lib.hid hl;have HD:=Lib.hid hd;have H96:=Lib.hid hm96;have HM:=Lib.hid hr.1;have HRD:=Lib.hid hr;have HBG:=Lib.hid hne;have HNE:=Lib.hid (show (some g : Option Nat) ≠ some b by simp;omega);have hbl:=hb.lt;have HGL:=Lib.hid h.lt
  have hm : ∀ w,(method 246 148 (.pointer (some ⟨g,0,none⟩)) "murmur/event.number").run Tryz.prog w = .ok (162,.pointer (some ⟨g,0,none⟩)) w:=fun w=>by kernel_rfl
  have hmf : ∀ (fn : Fn) (first cap : Array Value) (w : World),(Instr.makeFunc fn first cap).run Tryz.prog w = .ok (.func fn first cap) w:=fun _ _ _ _=>rfl
  clear h0 h1 h2 h3 h4 h5 hp0 hp1 hp2 hp3 hp4 hp5 hp6 hl hne hd hm96 hr
  have hix0 : ∀ w,(Instr.index 174 (.agg #[.pointer (some ⟨b,0,none⟩),.pointer (some ⟨b,1,none⟩),.pointer (some ⟨b,2,none⟩),.pointer (some ⟨b,3,none⟩)]) (.int .i64 0)).run Tryz.prog w = .ok (.pointer (some ⟨b,0,none⟩)) w:=fun w=>by kernel_rfl
  have hix1 : ∀ w,(Instr.index 174 (.agg #[.pointer (some ⟨b,0,none⟩),.pointer (some ⟨b,1,none⟩),.pointer (some ⟨b,2,none⟩),.pointer (some ⟨b,3,none⟩)]) (.int .i64 1)).run Tryz.prog w = .ok (.pointer (some ⟨b,1,none⟩)) w:=fun w=>by kernel_rfl
  have hix2 : ∀ w,(Instr.index 174 (.agg #[.pointer (some ⟨b,0,none⟩),.pointer (some ⟨b,1,none⟩),.pointer (some ⟨b,2,none⟩),.pointer (some ⟨b,3,none⟩)]) (.int .i64 2)).run Tryz.prog w = .ok (.pointer (some ⟨b,2,none⟩)) w:=fun w=>by kernel_rfl
  have hix3 : ∀ w,(Instr.index 174 (.agg #[.pointer (some ⟨b,0,none⟩),.pointer (some ⟨b,1,none⟩),.pointer (some ⟨b,2,none⟩),.pointer (some ⟨b,3,none⟩)]) (.int .i64 3)).run Tryz.prog w = .ok (.pointer (some ⟨b,3,none⟩)) w:=fun w=>by kernel_rfl
  go_enter Tryz.func112,Tryz.ntmps112
  go_wp2_with fail
  go_region
  go_wp2_with fail;have hw0 : WrS w.drew g bs:=h;have hb0 : Blk w.drew b 47 #[.int .i64 n,.int .i64 q,.int .i64 t,.int .i64 k,.int .i64 wk,.int .i64 v,.int .i64 p0,.int .i64 p1,.int .i64 p2,.int .i64 p3,.int .i64 p4,.int .i64 p5,.int .i64 p6,.slice A m c]:=hb;have g0 : w.grownBy w.drew (some g):=⟨rfl,rfl,rfl,Nat.le_refl _,fun _ _ _=>rfl⟩;clear h hb;refine wp_loop_rounds 5 ?_;rw [rounds_succ];go_wp2_with fail;refine (wnum_any g ⟨b,0,none⟩ (bs) n _ hw0 (hb0.cell 0) H0.out ?_).mono ?_
  · have:=HL.out
    (try simp only [List.length_append]);omega
  rintro e w1 ⟨rfl,hw1,gg⟩;have hb1:=hb0.grown gg HNE.out;have g1:=g0.trans gg;clear hw0 hb0 g0 gg;go_wp2_with fail;rw [rounds_succ];go_wp2_with fail;refine (wnum_any g ⟨b,1,none⟩ (bs ++ Vint.enc n) q _ hw1 (hb1.cell 1) H1.out ?_).mono ?_
  · have:=HL.out
    have:=enc_len6 n;(try simp only [List.length_append]);omega
  rintro e w2 ⟨rfl,hw2,gg⟩;have hb2:=hb1.grown gg HNE.out;have g2:=g1.trans gg;clear hw1 hb1 g1 gg;go_wp2_with fail;rw [rounds_succ];go_wp2_with fail;refine (wnum_any g ⟨b,2,none⟩ (bs ++ Vint.enc n ++ Vint.enc q) t _ hw2 (hb2.cell 2) H2.out ?_).mono ?_
  · have:=HL.out
    have:=enc_len6 n;have:=enc_len6 q;(try simp only [List.length_append]);omega
  rintro e w3 ⟨rfl,hw3,gg⟩;have hb3:=hb2.grown gg HNE.out;have g3:=g2.trans gg;clear hw2 hb2 g2 gg;go_wp2_with fail;rw [rounds_succ];go_wp2_with fail;refine (wnum_any g ⟨b,3,none⟩ (bs ++ Vint.enc n ++ Vint.enc q ++ Vint.enc t) k _ hw3 (hb3.cell 3) (by have:=H3.out;omega) ?_).mono ?_
  · have:=HL.out
    have:=enc_len6 n;have:=enc_len6 q;have:=enc_len6 t;(try simp only [List.length_append]);omega
  rintro e w4 ⟨rfl,hw4,gg⟩;have hb4:=hb3.grown gg HNE.out;have g4:=g3.trans gg;clear hw3 hb3 g3 gg;go_wp2_with fail;rw [rounds_succ];have ck : w4.cell? ⟨b,3,none⟩ = some (.int .i64 k):=hb4.cell 3;go_wp2_with fail;refine (within_any _ _ _ _).mono ?_;rintro e w4' ⟨rfl,rfl⟩;rw [show inB (k : Int) 1 3 = true from (inB_iff _ _ _).2 (by have:=H3.out;omega)];go_wp2_with fail;refine (wnum_any g ⟨b,4,none⟩ (bs ++ Vint.enc n ++ Vint.enc q ++ Vint.enc t ++ Vint.enc k) wk _ hw4 (hb4.cell 4) H4.out ?_).mono ?_
  · have:=HL.out
    have:=enc_len6 n;have:=enc_len6 q;have:=enc_len6 t;have:=enc_len6 k;(try simp only [List.length_append]);omega
  rintro e w5 ⟨rfl,hw5,gg⟩;have hb5:=hb4.grown gg HNE.out;have g5:=g4.trans gg;clear hw4 hb4 g4 gg;have ck : w5.cell? ⟨b,3,none⟩ = some (.int .i64 k):=hb5.cell 3
  by_cases hk1 : k = 1
  · have hq1 : ((k : Int) == 1) = true:=by rw [beq_iff_eq];omega
    go_wp2_with fail;refine (wnum_any g ⟨b,5,none⟩ (bs ++ Vint.enc n ++ Vint.enc q ++ Vint.enc t ++ Vint.enc k ++ Vint.enc wk) v _ hw5 (hb5.cell 5) H5.out ?_).mono ?_
    · have:=HL.out
      have:=enc_len6 n;have:=enc_len6 q;have:=enc_len6 t;have:=enc_len6 k;have:=enc_len6 wk;(try simp only [List.length_append]);omega
    rintro e w6 ⟨rfl,hw6,gg⟩;have hb6:=hb5.grown gg HNE.out;have g6:=g5.trans gg;clear hw5 hb5 g5 gg;go_wp2_with fail
    (try simp only [Exit.inBlock,Exit.then])
    refine bodyPost_ret (results_none rfl _ _ _) rfl ?_;refine ⟨rfl,?_,g6⟩;rw [HLE.out,if_pos hk1]
    have e : bs ++ encN ([n,q,t,k,wk] ++ [v]) = bs ++ Vint.enc n ++ Vint.enc q ++ Vint.enc t ++ Vint.enc k ++ Vint.enc wk ++ Vint.enc v:=by simp [encN]
    rw [e];exact hw6
  have hq1 : ((k : Int) == 1) = false:=by rw [beq_eq_false_iff_ne];omega
  by_cases hk2 : k = 2
  · have hq2 : ((k : Int) == 2) = true:=by rw [beq_iff_eq];omega
    go_wp2_with fail;refine (polw_any b g _ _ _ _ _ _ _ _ p0 p1 p2 p3 p4 p5 p6 _ hw5 hb5 HBG.out HP0.out HP1.out HP2.out HP3.out HP4.out HP5.out HP6.out ?_).mono ?_
    · have:=HL.out
      have:=enc_len6 n;have:=enc_len6 q;have:=enc_len6 t;have:=enc_len6 k;have:=enc_len6 wk;(try simp only [List.length_append]);omega
    rintro e w6 ⟨rfl,hw6,gg⟩;have hb6:=hb5.grown gg HNE.out;have g6:=g5.trans gg;clear hw5 hb5 g5 gg;obtain ⟨us,has⟩ : ∃ us,us = bs ++ Vint.enc n ++ Vint.enc q ++ Vint.enc t ++ Vint.enc k ++ Vint.enc wk ++ encN [p0,p1,p2,p3,p4,p5,p6]:=⟨_,rfl⟩;rw [← has] at hw6;have HAS:=Lib.hid (show us = bs ++ encN ([n,q,t,k,wk] ++ [p0,p1,p2,p3,p4,p5,p6]) by rw [has];simp [encN])
    have HLA:=Lib.hid (show us.length≤140737488352000 by
      rw [HAS.out,List.length_append]
      have:=encN_len ([n,q,t,k,wk] ++ [p0,p1,p2,p3,p4,p5,p6])
      have:=HL.out
      simp at *
      omega)
    clear has;have cs : w6.cell? ⟨b,13,none⟩ = some (.slice A m c):=hb6.cell 13
    go_upto_region 15 with fail
    refine nameW ?_;intro wa hwa;obtain ⟨r,hr⟩ : ∃ r,r = w6.heap.size:=⟨_,rfl⟩;rw [← hr]
    have ka : Blk wa r 3 #[.int .i64 m]:=by rw [hwa,hr];exact Blk.new _ _ _
    have hwA : WrS wa g us:=by rw [hwa];exact hw6.alloc _
    have hbA : Blk wa b 47 #[.int .i64 n,.int .i64 q,.int .i64 t,.int .i64 k,.int .i64 wk,.int .i64 v,.int .i64 p0,.int .i64 p1,.int .i64 p2,.int .i64 p3,.int .i64 p4,.int .i64 p5,.int .i64 p6,.slice A m c]:=by rw [hwa];exact hb6.alloc _
    have gA : w.grownBy wa (some g):=by rw [hwa];exact only_alloc g6 _
    have hgr : g ≠ r:=by have:=hw6.lt;omega
    have HNR:=Lib.hid (show (some g : Option Nat) ≠ some r by simp;omega);clear hwa hr hw6 hb6 g6 cs hgr ck;go_wp2_with fail;refine (wnum_any g ⟨r,0,none⟩ us m _ hwA (ka.cell 0) (by have:=H96.out;omega) (by have:=HLA.out;omega)).mono ?_;rintro e wc ⟨rfl,hwC,gg⟩;have kc:=ka.grown gg HNR.out;have hbC:=hbA.grown gg HNE.out;have gC:=gA.trans gg;have cr : wc.cell? ⟨r,0,none⟩ = some (.int .i64 m):=kc.cell 0;have cs : wc.cell? ⟨b,13,none⟩ = some (.slice A m c):=hbC.cell 13;have hmd : decide ((96 : Int) < (m : Int)) = false:=decide_eq_false (by have:=H96.out;omega);clear hwA hbA gA gg ka;go_wp2_with fail
    go_region
    go_wp2_with fail
    go_loopw [93] (fun i wr=>∃ j : Nat,j≤m∧i = .int .i64 j∧WrS wr g (us ++ Vint.enc m ++ encN (dotN (l.take j)))∧Blk wr b 47 #[.int .i64 n,.int .i64 q,.int .i64 t,.int .i64 k,.int .i64 wk,.int .i64 v,.int .i64 p0,.int .i64 p1,.int .i64 p2,.int .i64 p3,.int .i64 p4,.int .i64 p5,.int .i64 p6,.slice A m c]∧w.grownBy wr (some g)) (fun i _=>m - (intOf i).toNat)
    case atStart =>
      have hwD : WrS wc.drew g (us ++ Vint.enc m):=hwC;exact ⟨0,by omega,rfl,by simpa [dotN,encN] using hwD,hbC,only_drew gC⟩
    case round =>
      clear hwC hbC gC kc cr cs;obtain ⟨j,hj,rfl,hwJ,hbJ,gJ⟩:=hrel;have cs : wr.cell? ⟨b,13,none⟩ = some (.slice A m c):=hbJ.cell 13
      by_cases hlt : j < m
      · have hjl : j < l.length:=by rw [← HM.out];exact hlt
        obtain ⟨ad,hA,hdt⟩:=HRD.out.2 j _ (List.getElem?_eq_getElem hjl);subst hA;have hdd:=HD.out _ (List.getElem_mem hjl);have hsn : l.take (j + 1) = l.take j ++ [l[j]]:=take_snoc l hjl
        generalize l[j] = d at *
        obtain ⟨x,y⟩:=d;obtain ⟨q5,q0,q1⟩:=hdt.below (only_Below gJ (Nat.le_refl _) (by have:=HGL.out;omega))
        simp only at q0 q1 hdd
        obtain ⟨⟨hx0,hx1⟩,hy0,hy1⟩:=hdd;obtain ⟨x,rfl⟩:=Int.eq_ofNat_of_zero_le hx0;obtain ⟨y,rfl⟩:=Int.eq_ofNat_of_zero_le hy0;have HSN:=Lib.hid hsn;have HX:=Lib.hid hx1;have HY:=Lib.hid hy1
        have hj0 : (0 : Int)≤(j : Int):=by omega
        have hjm : (j : Int) < (m : Int):=by omega
        clear hsn hx0 hx1 hy0 hy1 hdt
        have hlj : (us ++ Vint.enc m ++ encN (dotN (l.take j))).length≤140737488354000:=by
          have h1:=HLA.out;have h2:=enc_len6 m;have h3:=encN_len (dotN (l.take j));rw [dotN_len,List.length_take] at h3;have h4:=H96.out
          simp only [List.length_append]
          omega
        have HLJ:=Lib.hid hlj;clear hlj;go_wp2_with fail;refine (wnum_any g (ad.add (j * 2)) _ x _ hwJ q0 (by have:=HX.out;omega) (by have:=HLJ.out;omega)).mono ?_;rintro e wx ⟨rfl,hwX,gg⟩;have hbX:=hbJ.grown gg HNE.out;have gX:=gJ.trans gg;have q1' : wx.cell? ⟨(ad.add (j * 2)).block,(ad.add (j * 2)).off + 1,none⟩ = some (.int .i64 y):=((only_Below gg (Nat.le_refl g) (by have:=hwJ.lt;omega)).cell (p:=⟨(ad.add (j * 2)).block,(ad.add (j * 2)).off + 1,none⟩) q5).trans q1;have cs : wx.cell? ⟨b,13,none⟩ = some (.slice (some ad) m c):=hbX.cell 13;clear hwJ hbJ gJ gg q0 q1;go_wp2_with fail;refine (wnum_any g ⟨(ad.add (j * 2)).block,(ad.add (j * 2)).off + 1,none⟩ _ y _ hwX q1' (by have:=HY.out;omega) (by have:=HLJ.out;have:=enc_len6 x;simp only [List.length_append] at *;omega)).mono ?_;rintro e wy ⟨rfl,hwY,gg⟩;have hbY:=hbX.grown gg HNE.out;have gY:=gX.trans gg;clear hwX hbX gX gg q1';go_wp2_with fail
        go_roundw
        case rel=>exact ⟨j + 1,by omega,num_succ j (by have:=H96.out;omega),by rw [HSN.out,dotN_snoc,encN_app];simpa [encN] using hwY,hbY,gY⟩
        case measure=>exact meas_succ j m hlt (by have:=H96.out;omega)
      · have hje : l.take j = l:=List.take_of_length_le (by rw [← HM.out];omega)
        have HJE:=Lib.hid hje;clear hje;go_wp2_with fail
        go_end0
        refine ⟨rfl,?_,gJ⟩;rw [HJE.out] at hwJ;rw [HLE.out,if_neg hk1,if_pos hk2]
        have e : bs ++ encN ([n,q,t,k,wk] ++ ([p0,p1,p2,p3,p4,p5,p6] ++ [m] ++ dotN l)) = us ++ Vint.enc m ++ encN (dotN l):=by rw [HAS.out];simp [encN]
        rw [e];exact hwJ
  have hq2 : ((k : Int) == 2) = false:=by rw [beq_eq_false_iff_ne];omega
  have w6e : w5 = w5:=rfl;obtain ⟨us,has⟩ : ∃ us,us = bs ++ Vint.enc n ++ Vint.enc q ++ Vint.enc t ++ Vint.enc k ++ Vint.enc wk:=⟨_,rfl⟩;rw [← has] at hw5;have HAS:=Lib.hid (show us = bs ++ encN ([n,q,t,k,wk] ++ []) by rw [has];simp [encN])
  have HLA:=Lib.hid (show us.length≤140737488352000 by
    rw [HAS.out,List.length_append]
    have:=encN_len ([n,q,t,k,wk] ++ [])
    have:=HL.out
    simp at *
    omega)
  clear has w6e;have cs : w5.cell? ⟨b,13,none⟩ = some (.slice A m c):=hb5.cell 13
  go_upto_region 15 with fail
  refine nameW ?_;intro wa hwa;obtain ⟨r,hr⟩ : ∃ r,r = w5.heap.size:=⟨_,rfl⟩;rw [← hr]
  have ka : Blk wa r 3 #[.int .i64 m]:=by rw [hwa,hr];exact Blk.new _ _ _
  have hwA : WrS wa g us:=by rw [hwa];exact hw5.alloc _
  have hbA : Blk wa b 47 #[.int .i64 n,.int .i64 q,.int .i64 t,.int .i64 k,.int .i64 wk,.int .i64 v,.int .i64 p0,.int .i64 p1,.int .i64 p2,.int .i64 p3,.int .i64 p4,.int .i64 p5,.int .i64 p6,.slice A m c]:=by rw [hwa];exact hb5.alloc _
  have gA : w.grownBy wa (some g):=by rw [hwa];exact only_alloc g5 _
  have hgr : g ≠ r:=by have:=hw5.lt;omega
  have HNR:=Lib.hid (show (some g : Option Nat) ≠ some r by simp;omega);clear hwa hr hw5 hb5 g5 cs hgr ck;go_wp2_with fail;refine (wnum_any g ⟨r,0,none⟩ us m _ hwA (ka.cell 0) (by have:=H96.out;omega) (by have:=HLA.out;omega)).mono ?_;rintro e wc ⟨rfl,hwC,gg⟩;have kc:=ka.grown gg HNR.out;have hbC:=hbA.grown gg HNE.out;have gC:=gA.trans gg;have cr : wc.cell? ⟨r,0,none⟩ = some (.int .i64 m):=kc.cell 0;have cs : wc.cell? ⟨b,13,none⟩ = some (.slice A m c):=hbC.cell 13;have hmd : decide ((96 : Int) < (m : Int)) = false:=decide_eq_false (by have:=H96.out;omega);clear hwA hbA gA gg ka;go_wp2_with fail
  go_region
  go_wp2_with fail
  go_loopw [93] (fun i wr=>∃ j : Nat,j≤m∧i = .int .i64 j∧WrS wr g (us ++ Vint.enc m ++ encN (dotN (l.take j)))∧Blk wr b 47 #[.int .i64 n,.int .i64 q,.int .i64 t,.int .i64 k,.int .i64 wk,.int .i64 v,.int .i64 p0,.int .i64 p1,.int .i64 p2,.int .i64 p3,.int .i64 p4,.int .i64 p5,.int .i64 p6,.slice A m c]∧w.grownBy wr (some g)) (fun i _=>m - (intOf i).toNat)
  case atStart =>
    have hwD : WrS wc.drew g (us ++ Vint.enc m):=hwC;exact ⟨0,by omega,rfl,by simpa [dotN,encN] using hwD,hbC,only_drew gC⟩
  case round =>
    clear hwC hbC gC kc cr cs;obtain ⟨j,hj,rfl,hwJ,hbJ,gJ⟩:=hrel;have cs : wr.cell? ⟨b,13,none⟩ = some (.slice A m c):=hbJ.cell 13
    by_cases hlt : j < m
    · have hjl : j < l.length:=by rw [← HM.out];exact hlt
      obtain ⟨ad,hA,hdt⟩:=HRD.out.2 j _ (List.getElem?_eq_getElem hjl);subst hA;have hdd:=HD.out _ (List.getElem_mem hjl);have hsn : l.take (j + 1) = l.take j ++ [l[j]]:=take_snoc l hjl
      generalize l[j] = d at *
      obtain ⟨x,y⟩:=d;obtain ⟨q5,q0,q1⟩:=hdt.below (only_Below gJ (Nat.le_refl _) (by have:=HGL.out;omega))
      simp only at q0 q1 hdd
      obtain ⟨⟨hx0,hx1⟩,hy0,hy1⟩:=hdd;obtain ⟨x,rfl⟩:=Int.eq_ofNat_of_zero_le hx0;obtain ⟨y,rfl⟩:=Int.eq_ofNat_of_zero_le hy0;have HSN:=Lib.hid hsn;have HX:=Lib.hid hx1;have HY:=Lib.hid hy1
      have hj0 : (0 : Int)≤(j : Int):=by omega
      have hjm : (j : Int) < (m : Int):=by omega
      clear hsn hx0 hx1 hy0 hy1 hdt
      have hlj : (us ++ Vint.enc m ++ encN (dotN (l.take j))).length≤140737488354000:=by
        have h1:=HLA.out;have h2:=enc_len6 m;have h3:=encN_len (dotN (l.take j));rw [dotN_len,List.length_take] at h3;have h4:=H96.out
        simp only [List.length_append]
        omega
      have HLJ:=Lib.hid hlj;clear hlj;go_wp2_with fail;refine (wnum_any g (ad.add (j * 2)) _ x _ hwJ q0 (by have:=HX.out;omega) (by have:=HLJ.out;omega)).mono ?_;rintro e wx ⟨rfl,hwX,gg⟩;have hbX:=hbJ.grown gg HNE.out;have gX:=gJ.trans gg;have q1' : wx.cell? ⟨(ad.add (j * 2)).block,(ad.add (j * 2)).off + 1,none⟩ = some (.int .i64 y):=((only_Below gg (Nat.le_refl g) (by have:=hwJ.lt;omega)).cell (p:=⟨(ad.add (j * 2)).block,(ad.add (j * 2)).off + 1,none⟩) q5).trans q1;have cs : wx.cell? ⟨b,13,none⟩ = some (.slice (some ad) m c):=hbX.cell 13;clear hwJ hbJ gJ gg q0 q1;go_wp2_with fail;refine (wnum_any g ⟨(ad.add (j * 2)).block,(ad.add (j * 2)).off + 1,none⟩ _ y _ hwX q1' (by have:=HY.out;omega) (by have:=HLJ.out;have:=enc_len6 x;simp only [List.length_append] at *;omega)).mono ?_;rintro e wy ⟨rfl,hwY,gg⟩;have hbY:=hbX.grown gg HNE.out;have gY:=gX.trans gg;clear hwX hbX gX gg q1';go_wp2_with fail
      go_roundw
      case rel=>exact ⟨j + 1,by omega,num_succ j (by have:=H96.out;omega),by rw [HSN.out,dotN_snoc,encN_app];simpa [encN] using hwY,hbY,gY⟩
      case measure=>exact meas_succ j m hlt (by have:=H96.out;omega)
    · have hje : l.take j = l:=List.take_of_length_le (by rw [← HM.out];omega)
      have HJE:=Lib.hid hje;clear hje;go_wp2_with fail
      go_end0
      refine ⟨rfl,?_,gJ⟩;rw [HJE.out] at hwJ;rw [HLE.out,if_neg hk1,if_neg hk2]
      have e : bs ++ encN ([n,q,t,k,wk] ++ ([] ++ [m] ++ dotN l)) = us ++ Vint.enc m ++ encN (dotN l):=by rw [HAS.out];simp [encN]
      rw [e];exact hwJ
end Go.Proofs.YtfpenfgmpbdakaaGreat

namespace Go.Proofs.YtfpenfgmpbdakaaGreat
set_option linter.unusedVariables false
set_option linter.unusedSimpArgs false
set_option maxRecDepth 100000
open Go.RowKit
open Dot Evt
def encE (x : Ev) : List UInt8:=encN ((numsE x).map Int.toNat)
theorem right_facts {x : Ev} (hp : x.p.length = 7) (h : rightE x = true) :
    ((0≤x.d.1∧x.d.1≤1099511627776)∧(0≤x.d.2∧x.d.2≤1099511627776)∧(0≤x.t∧x.t≤1099511627776)∧(1≤x.k∧x.k≤3)∧(0≤x.w∧x.w≤1099511627776)∧(0≤x.v∧x.v≤1099511627776)) ∧
    ((0≤x.p.getD 0 0∧x.p.getD 0 0≤1099511627776)∧(0≤x.p.getD 1 0∧x.p.getD 1 0≤1099511627776)∧(0≤x.p.getD 2 0∧x.p.getD 2 0≤1099511627776)∧(0≤x.p.getD 3 0∧x.p.getD 3 0≤1099511627776)∧(0≤x.p.getD 4 0∧x.p.getD 4 0≤1099511627776)∧(0≤x.p.getD 5 0∧x.p.getD 5 0≤1099511627776)∧(0≤x.p.getD 6 0∧x.p.getD 6 0≤1099511627776)) ∧
    x.l.length≤96∧∀ d ∈ x.l,(0≤d.1∧d.1≤1099511627776)∧0≤d.2∧d.2≤1099511627776:=by
  unfold rightE at h
  simp only [Bool.and_eq_true,decide_eq_true_eq,inB_iff] at h
  obtain ⟨⟨⟨⟨⟨h1,h2⟩,h3⟩,h4⟩,h5⟩,h6⟩:=h;have g1:=(may_iff _).1 h1;have hn:=(named_iff _ _).1 h5;have ht : top = 1099511627776:=rfl
  have hk : (1≤x.k∧x.k≤3)∧(0≤x.v∧x.v≤1099511627776)∧(x.p = p0∨polB x.p = true):=by
    unfold kindB at h6
    by_cases k1 : x.k = 1
    · rw [if_pos k1] at h6
      simp only [Bool.and_eq_true,inB_iff,decide_eq_true_eq] at h6
      exact ⟨by omega,by omega,.inl h6.1.1⟩
    · rw [if_neg k1] at h6
      by_cases k2 : x.k = 2
      · rw [if_pos k2] at h6
        simp only [Bool.and_eq_true,decide_eq_true_eq] at h6
        exact ⟨by omega,by omega,.inr h6.1⟩
      · rw [if_neg k2] at h6
        by_cases k3 : x.k = 3
        · rw [if_pos k3] at h6
          simp only [Bool.and_eq_true,decide_eq_true_eq] at h6
          exact ⟨by omega,by omega,.inl h6.1⟩
        · rw [if_neg k3] at h6;cases h6
  refine ⟨⟨by omega,by omega,by omega,hk.1,by omega,hk.2.1⟩,?_,h4,?_⟩
  · rcases hk.2.2 with e | e
    · rw [e];simp [p0]
    · have:=polB_iff.1 e
      omega
  · intro d hd
    obtain ⟨i,hi,rfl⟩:=List.getElem_of_mem hd;have g:=hn i hi
    unfold nameAt at g
    rw [List.getD_eq_getElem?_getD,List.getElem?_eq_getElem hi] at g
    simp only [Option.getD_some,Bool.and_eq_true] at g
    have g5:=(may_iff _).1 g.1.1
    omega
theorem dotNums_nat (l : List Dt) : (dotNums l).map Int.toNat = dotN l:=by
  induction l with
  | nil=>rfl
  | cons a l ih=>simp [dotNums,dotN] at ih ⊢;exact ih
theorem wput_no (x : Ev) (hp : x.p.length = 7) (A : Option Addr) (m c g : Nat) (w : World) (hl : RdD w w.heap.size A m x.l) (hx : rightE x = false) :
    Calls Tryz.prog 101 #[.pointer (some ⟨g,0,none⟩),.agg (ec x (.slice A m c))] w fun e w'=>e = .panicked [{ v:=eflt 2,recovered:=false }]∧Below w.heap.size w w':=by
  have hb0 : Below w.heap.size w (w.alloc (.cells (ec x (.slice A m c)) 47)):=(Below.refl _ _).alloc (Nat.le_refl _) _;have hr:=eright_any x hp A m c (w.alloc (.cells (ec x (.slice A m c)) 47)) (hl.below hb0).size;rw [hx] at hr;obtain ⟨⟨n,q⟩,t,k,wk,v,p,l⟩:=x
  unfold ec at hb0 hr ⊢
  simp only at hb0 hr ⊢
  clear hx hl hp
  generalize p.getD 0 0 = p0,p.getD 1 0 = p1,p.getD 2 0 = p2,p.getD 3 0 = p3,p.getD 4 0 = p4,p.getD 5 0 = p5,p.getD 6 0 = p6 at *
  have HR:=Lib.hid hr;clear hr
  go_enter Tryz.func101,Tryz.ntmps101
  go_wp2_with fail;refine HR.out.mono ?_;rintro e w1 ⟨rfl,b1⟩;go_wp2_with fail;refine (wfail_any g 2 w1).mono ?_;rintro e w2 ⟨rfl,rfl⟩;go_wp2_with fail;exact ⟨rfl,rfl,hb0.trans (b1.mono hb0.size)⟩
theorem wput_yes (x : Ev) (hp : x.p.length = 7) (A : Option Addr) (m c g : Nat) (bs : List UInt8) (w : World) (h : WrS w g bs) (hl : RdD w g A m x.l) (hx : rightE x = true) (hbs : bs.length≤140737488350000) :
    Calls Tryz.prog 101 #[.pointer (some ⟨g,0,none⟩),.agg (ec x (.slice A m c))] w fun e w'=>e = .returned (.tuple #[])∧WrS w' g (bs ++ encE x)∧w.grownBy w' (some g):=by
  have hb0 : Below w.heap.size w (w.alloc (.cells (ec x (.slice A m c)) 47)):=(Below.refl _ _).alloc (Nat.le_refl _) _;have kb : Blk (w.alloc (.cells (ec x (.slice A m c)) 47)) w.heap.size 47 (ec x (.slice A m c)):=Blk.new _ _ _;have hr:=eright_any x hp A m c (w.alloc (.cells (ec x (.slice A m c)) 47)) (hl.below (hb0.mono (by have:=h.lt;omega))).size;rw [hx] at hr;obtain ⟨⟨⟨a0,a1⟩,⟨a2,a3⟩,⟨a4,a5⟩,⟨a6,a7⟩,⟨a8,a9⟩,⟨a10,a11⟩⟩,⟨⟨d0,e0⟩,⟨d1,e1⟩,⟨d2,e2⟩,⟨d3,e3⟩,⟨d4,e4⟩,⟨d5,e5⟩,⟨d6,e6⟩⟩,h96,hdd⟩:=right_facts hp hx;obtain ⟨⟨n,q⟩,t,k,wk,v,p,l⟩:=x
  simp only at a0 a1 a2 a3 a4 a5 a6 a7 a8 a9 a10 a11 d0 d1 d2 d3 d4 d5 d6 e0 e1 e2 e3 e4 e5 e6 h96 hdd hl hp
  obtain ⟨n,rfl⟩:=Int.eq_ofNat_of_zero_le a0;obtain ⟨q,rfl⟩:=Int.eq_ofNat_of_zero_le a2;obtain ⟨t,rfl⟩:=Int.eq_ofNat_of_zero_le a4;obtain ⟨k,rfl⟩:=Int.eq_ofNat_of_zero_le (show 0≤k by omega);obtain ⟨wk,rfl⟩:=Int.eq_ofNat_of_zero_le a8;obtain ⟨v,rfl⟩:=Int.eq_ofNat_of_zero_le a10
  have hE : encE ⟨((n : Int),(q : Int)),t,k,wk,v,p,l⟩ = encN ([n,q,t,k,wk] ++ (if k = 1 then [v] else (if k = 2 then [(p.getD 0 0).toNat,(p.getD 1 0).toNat,(p.getD 2 0).toNat,(p.getD 3 0).toNat,(p.getD 4 0).toNat,(p.getD 5 0).toNat,(p.getD 6 0).toNat] else []) ++ [m] ++ dotN l)):=by
    unfold encE numsE
    have hm : m = l.length:=hl.1
    match p,hp with
    | [p0,p1,p2,p3,p4,p5,p6],_ =>
      simp only [List.map_append,dotNums_nat]
      by_cases k1 : k = 1
      · subst k1;simp
      · by_cases k2 : k = 2
        · subst k2;simp [dotNums_nat,hm]
        · have : ¬ (k : Int) = 1:=by omega
          have : ¬ (k : Int) = 2:=by omega
          simp [*,dotNums_nat]
  rw [hE];clear hE hx
  unfold ec at hb0 kb hr ⊢
  simp only at hb0 kb hr ⊢
  generalize p.getD 0 0 = p0,p.getD 1 0 = p1,p.getD 2 0 = p2,p.getD 3 0 = p3,p.getD 4 0 = p4,p.getD 5 0 = p5,p.getD 6 0 = p6 at *
  obtain ⟨p0,rfl⟩:=Int.eq_ofNat_of_zero_le d0;obtain ⟨p1,rfl⟩:=Int.eq_ofNat_of_zero_le d1;obtain ⟨p2,rfl⟩:=Int.eq_ofNat_of_zero_le d2;obtain ⟨p3,rfl⟩:=Int.eq_ofNat_of_zero_le d3;obtain ⟨p4,rfl⟩:=Int.eq_ofNat_of_zero_le d4;obtain ⟨p5,rfl⟩:=Int.eq_ofNat_of_zero_le d5;obtain ⟨p6,rfl⟩:=Int.eq_ofNat_of_zero_le d6
  simp only [Int.toNat_natCast]
  have HR:=Lib.hid hr;obtain ⟨Z,hZ⟩ : ∃ Z,Z = encN ([n,q,t,k,wk] ++ (if k = 1 then [v] else (if k = 2 then [p0,p1,p2,p3,p4,p5,p6] else []) ++ [m] ++ dotN l)):=⟨_,rfl⟩;rw [← hZ];have HZ:=Lib.hid hZ;clear hZ;have hgl:=h.lt
  have HT:=Lib.hid fun (w1 : World) (h : WrS w1 g bs) (hb : Blk w1 w.heap.size 47 _) (hr : RdD w1 g A m l)=>thrw_any w.heap.size g bs n q t k wk v p0 p1 p2 p3 p4 p5 p6 A m c l w1 h hb (by have:=hgl;omega) (by omega) (by omega) (by omega) (by omega) (by omega) (by omega) (by omega) (by omega) (by omega) (by omega) (by omega) (by omega) (by omega) hr (by have:=hl.1;omega) hdd hbs
  have HW:=Lib.hid h;have HL:=Lib.hid hl;have HGL:=Lib.hid hgl;have HKB:=Lib.hid kb;clear hr h hl hgl kb hp h96 hdd hbs a0 a1 a2 a3 a4 a5 a6 a7 a8 a9 a10 a11 d0 d1 d2 d3 d4 d5 d6 e0 e1 e2 e3 e4 e5 e6
  go_enter Tryz.func101,Tryz.ntmps101
  go_wp2_with fail;refine HR.out.mono ?_;rintro e w1 ⟨rfl,b1⟩;have hb1:=hb0.trans (b1.mono hb0.size);have kb1:=HKB.out.below b1 HKB.out.lt;have hw1 : WrS w1 g bs:=HW.out.below hb1;have hl1:=HL.out.below (hb1.mono (by have:=HGL.out;omega));clear HR HKB HW HL b1 hb0;go_wp2_with fail;refine (HT.out _ hw1 kb1 hl1).mono ?_;rintro e w2 ⟨rfl,hw2,gg⟩;go_wp2_with fail
  go_end0
  exact ⟨rfl,by rw [HZ.out];exact hw2,(only_below (grown_refl0 w _) hb1).trans gg⟩
end Go.Proofs.YtfpenfgmpbdakaaGreat

namespace Go.Proofs.YtfpenfgmpbdakaaGreat
set_option linter.unusedVariables false
set_option linter.unusedSimpArgs false
set_option maxRecDepth 100000
open Go.RowKit
open Dot Evt
def putE (x : Ev) : List UInt8 × Nat:=if rightE x = true then (encE x,0) else ([],2)
set_option maxRecDepth 100000 in
theorem eput_any (x : Ev) (hp : x.p.length = 7) (A : Option Addr) (m c : Nat) (w : World) (hl : RdD w w.heap.size A m x.l) :
    Calls Tryz.prog 80 #[.agg (ec x (.slice A m c))] w (GiveBE w (putE x).1 (putE x).2):=by
  obtain ⟨cs,hcs⟩ : ∃ cs,cs = ec x (.slice A m c):=⟨_,rfl⟩;have HCS:=Lib.hid hcs
  have hno:=fun (g : Nat) (w1 : World) (h : RdD w1 w1.heap.size A m x.l) (hx : rightE x = false)=>wput_no x hp A m c g w1 h hx
  have hyes:=fun (g : Nat) (w1 : World) (hw : WrS w1 g []) (h : RdD w1 g A m x.l) (hx : rightE x = true)=>wput_yes x hp A m c g [] w1 hw h hx (by simp)
  rw [← hcs] at hno hyes ⊢;clear hcs;have HL0:=Lib.hid hl;have HNO:=Lib.hid hno;have HYES:=Lib.hid hyes
  have hcz : cs.size = 14:=by rw [HCS.out];rfl
  have HCZ:=Lib.hid hcz;clear hl hno hyes hp hcz
  go_enter_defers Tryz.func80,Tryz.ntmps80
  go_upto_region 3 with fail
  refine nameW ?_;intro W hW;obtain ⟨B,hB⟩ : ∃ B,B = w.heap.size:=⟨_,rfl⟩;rw [← hB]
  have kb : Blk W B 47 cs:=by rw [hW,hB];exact ((Blk.new w _ _).alloc _).alloc _
  have kf : Blk W (B + 1) 27 #[.int .i64 0]:=by
    have:=Blk.new (w.alloc (.cells cs 47)) 27 #[.int .i64 0]
    rw [show (w.alloc (.cells cs 47)).heap.size = w.heap.size + 1 by simp] at this;rw [hW,hB];exact this.alloc _
  have kw : WrS W (B + 1 + 1) []:=by
    have:=Blk.new ((w.alloc (.cells cs 47)).alloc (.cells #[.int .i64 0] 27)) 150 #[.slice none 0 0]
    rw [show ((w.alloc (.cells cs 47)).alloc (.cells #[.int .i64 0] 27)).heap.size = w.heap.size + 1 + 1 by simp] at this;rw [hW,hB];exact ⟨none,0,0,this,OwnB.nil _ _⟩
  have hbb : Below B w W:=by rw [hW,hB];exact (((Below.refl _ _).alloc (Nat.le_refl _) _).alloc (by simp) _).alloc (by simp;omega) _
  have hl1 : RdD W B A m x.l:=by rw [hB];exact HL0.out.below (by rw [← hB];exact hbb)
  have HB:=Lib.hid hB;clear hW hB HL0
  cases hx : rightE x
  case false =>
    go_wp2_with first
      | ((with_reducible refine wpList_ld rowE kb HCZ.out ?_ ?_);rotate_left;(rfl))
    refine (HNO.out _ W hl1.size hx).mono ?_;rintro e w1 ⟨rfl,b1⟩;have k1:=kf.below b1 kf.lt;go_wp2_with fail;refine leaves_cons (f:=100) (args:=#[.pointer (some ⟨B + 1,0,none⟩)]) (by simp) (by simp [go_sem]) ?_;refine (ecaught_panic _ _ _ _ _ (k1.cell 0) (k1.free 0)).mono ?_;rintro e u' w2 ⟨rfl,rfl,rfl⟩;have k2:=(k1.alloc (.cells #[.int .i64 2] 166)).set_ 0 (.int .i64 2);have c2:=k2.cell 0;have hb3 : Below B w ((w1.alloc (.cells #[.int .i64 2] 166)).setCell ⟨B + 1,0,none⟩ (.int .i64 2)):=((hbb.trans (b1.mono (by have:=kb.lt;omega))).alloc (by have:=hbb.size;have:=b1.size;have:=HB.out;omega) _).setCell (by show B≤B + 1;omega) _
    have he : putE x = ([],2):=by unfold putE;rw [hx];rfl
    refine ⟨.tuple #[.slice none 0 0,.int .i64 2],by simp [results,Tryz.results80,go_sem,c2],none,0,0,by rw [he];rfl,?_,by rw [← HB.out];exact hb3⟩;rw [he];exact OwnB.nil _ _
  case true =>
    go_wp2_with first
      | ((with_reducible refine wpList_ld rowE kb HCZ.out ?_ ?_);rotate_left;(rfl))
    refine (HYES.out _ W kw (hl1.more (by omega)) hx).mono ?_;rintro e w1 ⟨rfl,hw1,gg⟩;obtain ⟨A1,n1,c1,kw1,ho1⟩:=hw1;have q1 : w1.cell? ⟨B + 1 + 1,0,none⟩ = some (.slice A1 n1 c1):=kw1.cell 0;have kf1:=kf.grown gg (by simp);have f1 : w1.cell? ⟨B + 1,0,none⟩ = some (.int .i64 0):=kf1.cell 0;have f2:=kf1.free 0;go_wp2_with fail;refine leaves_cons (f:=100) (args:=#[.pointer (some ⟨B + 1,0,none⟩)]) (by simp) (by simp [go_sem]) ?_;refine (ecaught_none _ _).mono ?_;rintro e u' w2 ⟨rfl,rfl,rfl⟩;have k2:=kf1.set_ 0 (.int .i64 0);have c2:=k2.cell 0
    have he : putE x = (encE x,0):=by unfold putE;rw [hx];rfl
    have hb3 : Below B w (w1.setCell ⟨B + 1,0,none⟩ (.int .i64 0)):=(hbb.trans (only_Below gg (by omega) (by have:=kb.lt;omega))).setCell (by show B≤B + 1;omega) _;refine ⟨.tuple #[.slice A1 n1 c1,.int .i64 0],by simp [results,Tryz.results80,go_sem,c2],A1,n1,c1,by rw [he];rfl,?_,by rw [← HB.out];exact hb3⟩;rw [he];refine (ho1.setFar ?_ _).mono (by have:=HB.out;omega)
    rcases A1 with _ | a
    · simp
    · have:=(ho1.lt a.block rfl).1
      simp
      omega
end Go.Proofs.YtfpenfgmpbdakaaGreat

namespace Go.Proofs.YtfpenfgmpbdakaaGreat
set_option linter.unusedVariables false
set_option linter.unusedSimpArgs false
set_option maxRecDepth 100000
open Go.RowKit
open Dot Evt
def exZ : Ev:=⟨(0,0),0,0,0,0,Evt.p0,[]⟩
abbrev cE : Array Value:=#[.int .i64 1,.int .i64 2,.int .i64 3,.int .i64 1,.int .i64 4,.int .i64 5,.int .i64 0,.int .i64 0,.int .i64 0,.int .i64 0,.int .i64 0,.int .i64 0,.int .i64 0,.slice none 0 0]
abbrev cT (t : Int) : Array Value:=#[.int .i64 0,.int .i64 0,.int .i64 t,.int .i64 0,.int .i64 0,.int .i64 0,.int .i64 0,.int .i64 0,.int .i64 0,.int .i64 0,.int .i64 0,.int .i64 0,.int .i64 0,.slice none 0 0]
end Go.Proofs.YtfpenfgmpbdakaaGreat

namespace Go.Proofs.YtfpenfgmpbdakaaGreat
set_option linter.unusedVariables false
set_option linter.unusedSimpArgs false
set_option maxRecDepth 100000
open Go.RowKit
open Dot Evt
theorem own_emptyD {w : World} {g base : Nat} (h : Blk w g 42 #[]) (hb : base≤g) : OwnD w base (some ⟨g,0,none⟩) 0 0 [] :=
  ⟨rfl,rfl,.inr ⟨g,0,#[],rfl,hb,h,Nat.le_refl _,Nat.zero_le _,rfl,rfl⟩⟩
theorem infoEv : (Tryz.prog.info? 47).map (fun i=>(i.zero,i.size,i.bytes)) = some (some (.agg (cT 0)),14,128):=by kernel_rfl
def ecsL (xs : List EvV) : List Value:=xs.flatMap fun x=>x.cs.toList
theorem ecsL_len (xs : List EvV) : (ecsL xs).length = xs.length * 14:=by
  induction xs with
  | nil=>rfl
  | cons x l ih=>show (x.cs.toList ++ ecsL l).length = _;rw [List.length_append,ih,Array.length_toList,x.size];simp;omega
theorem ecsL_app (l m : List EvV) : ecsL (l ++ m) = ecsL l ++ ecsL m:=by unfold ecsL;rw [List.flatMap_append]
theorem ecsL_one (l : List EvV) : ∀ u ∈ ecsL l,u.oneCell' = true:=by
  intro u hu
  unfold ecsL at hu
  rw [List.mem_flatMap] at hu;obtain ⟨d,_,hd⟩:=hu
  have:=Array.all_eq_true_iff_forall_mem.1 d.one u (by simpa using hd)
  exact this
theorem ecsL_at (l : List EvV) : ∀ (i : Nat) (x : EvV),l[i]? = some x→∀ (j : Nat) v,x.cs[j]? = some v→(ecsL l)[i * 14 + j]? = some v:=by
  induction l with
  | nil=>intro i d h;simp at h
  | cons y l ih =>
    intro i x h j v hv;have e : ecsL (y :: l) = y.cs.toList ++ ecsL l:=rfl
    have hj : j < 14:=by
      have:=(Array.getElem?_eq_some_iff.1 hv).1
      rwa [x.size] at this
    rw [e]
    cases i with
    | zero =>
      simp at h
      subst h;rw [Nat.zero_mul,Nat.zero_add,List.getElem?_append_left (by rw [Array.length_toList,y.size];exact hj),Array.getElem?_toList];exact hv
    | succ i =>
      rw [List.getElem?_append_right (by rw [Array.length_toList,y.size];omega),Array.length_toList,y.size,show (i + 1) * 14 + j - 14 = i * 14 + j by omega];exact ih i x (by simpa using h) j v hv
def OwnEv (w : World) (base : Nat) (A : Option Addr) (n c : Nat) (xs : List EvV) : Prop:=n = xs.length∧w.ownsRow base 47 14 (.slice A n c) n (ecsL xs)
section
variable {w w' : World} {base B n c : Nat} {A : Option Addr} {xs : List EvV}
theorem OwnEv.nil (w : World) (base : Nat) : OwnEv w base none 0 0 []:=⟨rfl,World.ownsRow_nil w base _ 14⟩
theorem OwnEv.alloc (h : OwnEv w base A n c xs) (o : Obj) : OwnEv (w.alloc o) base A n c xs:=⟨h.1,h.2.alloc o⟩
theorem OwnEv.drew (h : OwnEv w base A n c xs) : OwnEv w.drew base A n c xs:=h
theorem OwnEv.mono {base' : Nat} (h : OwnEv w base A n c xs) (hb : base'≤base) : OwnEv w base' A n c xs:=⟨h.1,ownsRow_base h.2 hb⟩
theorem OwnEv.raw (h : OwnEv w base A n c xs) : Rd w w.heap.size A (ecsL xs):=fun j u hu=>by
  rcases h.2.2 with ⟨hv,h0⟩ | ⟨g,cap,cur,hv,hb,hh,hn,hm,hs,hc⟩
  · have:=h.2.1;rw [h0] at this;simp at this;rw [this] at hu;simp at hu
  · injection hv with hA
    subst hA;exact ⟨_,rfl,(h.2.lt g rfl).2,h.2.cells (g:=g) rfl j u hu⟩
theorem OwnEv.lt (h : OwnEv w base A n c xs) : ∀ g,A.map (·.block) = some g→base≤g∧g < w.heap.size:=fun g hg=>h.2.lt g (by
  rcases A with _ | a
  · simp at hg
  · simpa [Value.ownBlock] using hg)
theorem OwnEv.below (h : OwnEv w base A n c xs) (hb : Below B w w') (hB : w.heap.size≤B) : OwnEv w' base A n c xs:=⟨h.1,ownsRow_keep h.2 fun k hk=>hb.block k (by have:=ownsRow_lt h.2 hk;omega)⟩
theorem OwnEv.row (h : OwnEv w base A n c xs) (hx : ∀ x ∈ xs,EvOk w w.heap.size x) : RowEv w w.heap.size A n xs:=⟨h.1,fun i x hi=>by
  have hm:=List.mem_of_getElem? hi;have h0 : (ecsL xs)[i * 14 + 0]? = some (.int .i64 x.e.d.1):=ecsL_at xs i x hi 0 _ rfl;obtain ⟨ad,hA,hb,_⟩:=h.raw _ _ h0;refine ⟨hx x hm,ad,hA,hb,fun j v hv=>?_⟩;obtain ⟨ad',hA',_,hc⟩:=h.raw _ _ (ecsL_at xs i x hi j v hv)
  obtain rfl : ad = ad':=by rw [hA] at hA';injection hA'
  rw [add_add]
  exact hc⟩
end
theorem own2_ne {w : World} {b1 b2 : Nat} {t1 t2 : TypeId} {s1 s2 : Nat} {A1 A2 : Option Addr} {n1 c1 n2 c2 : Nat} {x1 x2 : List Value} (h1 : w.ownsRow b1 t1 s1 (.slice A1 n1 c1) n1 x1) (h2 : w.ownsRow b2 t2 s2 (.slice A2 n2 c2) n2 x2) (hne : t1 ≠ t2) : A1.map (·.block) = none∨A1.map (·.block) ≠ A2.map (·.block):=by
  rcases h : A1.map (·.block) with _ | k
  · exact .inl h
  · refine .inr fun e=>?_
    obtain ⟨cur,hc⟩:=ownsRow_type h1 h;obtain ⟨cur',hc'⟩:=ownsRow_type h2 (e.symm.trans h);rw [hc] at hc'
    injection hc' with hc'
    injection hc' with _ ht
    exact hne ht
def EvOwn (w : World) (base : Nat) (x : EvV) : Prop:=x.e.p.length = 7∧OwnD w base x.A x.m x.c x.e.l∧x.m≤10000000000000
theorem EvOwn.ok {w : World} {base : Nat} {x : EvV} (h : EvOwn w base x) : EvOk w w.heap.size x:=⟨h.1,h.2.1.rd,h.2.2⟩
theorem wpList_appE {w : World} {ops : Array Oper} {rest : List Oper} {o : Oper} {a : Act} {Q : Exit→Act→World→Prop} (hgd : o.guard = none) (s x : Operand)
    (ho : o.op = .call { callee:=.builtin .append,args:=#[s,x],argTypes:=#[48,48] })
    {base : Nat} {A : Option Addr} {n c : Nat} {bs : List EvV} (hs : a.eval s = .slice A n c) (hown : OwnEv w base A n c bs)
    {B : Nat} {D : Option Addr} {m d : Nat} {news : List EvV} (hx : a.eval x = .slice D m d) (hr : Rd w B D (ecsL news)) (hm : m = news.length)
    (hbytes : n + m≤1000000000000) (hbase : base≤w.heap.size)
    (h : ∀ A' c' w',OwnEv w' base A' (n + m) c' (bs ++ news)→w.grownBy w' (A.map (·.block))→Moved A' (A.map (·.block)) w.heap.size→Below base w w' →
      wpList Tryz.prog ops Q rest (a.put o.dst (.slice A' (n + m) c')) w') : wpList Tryz.prog ops Q (o :: rest) a w:=by
  obtain ⟨i0,hi,hz0,hz1,hz2⟩:=info_parts infoEv
  have hob : (Value.slice A n c).ownBlock = A.map (·.block):=by cases A <;> rfl
  refine wpList_app w hgd s x 48 ho base 47 i0 (.agg (cT 0)) 14 128 Tryz.underlying48 hi hz0 hz1 hz2 rfl (by decide) _ _ _ hs hown.2 B D m d (ecsL news) hx hr (by rw [ecsL_len,hm]) (ecsL_one _) (by unfold maxLen;omega) (by omega) hbase ?_;intro A' c' w' h1 h2 h3;rw [hob] at h2 h3;exact h A' c' w' ⟨by rw [List.length_append,hown.1,hm],by rw [ecsL_app];exact h1⟩ h2 h3 ((Below.refl _ _).grown h2 hbase (fun g hg=>(hown.lt g hg).1))
theorem buildE1 (x : EvV) (w : World) : (Instr.buildSlice 48 1 #[(0,.agg x.cs)]).run Tryz.prog w = .ok (.slice (some ⟨w.heap.size,0,none⟩) 1 1) (w.alloc (.cells x.cs 47)):=by
  obtain ⟨⟨⟨n,q⟩,t,k,wk,v,p,l⟩,A,m,c⟩:=x
  unfold EvV.cs ec
  simp only
  generalize p.getD 0 0 = p0,p.getD 1 0 = p1,p.getD 2 0 = p2,p.getD 3 0 = p3,p.getD 4 0 = p4,p.getD 5 0 = p5,p.getD 6 0 = p6
  kernel_rfl
def CopiesEnd (w : World) (n : Nat) (xs : List EvV) (e : Ending) (w' : World) : Prop:=∃ A' c' ys,e = .returned (.slice A' n c')∧OwnEv w' w.heap.size A' n c' ys∧(∀ y ∈ ys,EvOwn w' w.heap.size y)∧ys.map (·.e) = xs.map (·.e)∧Below w.heap.size w w'
end Go.Proofs.YtfpenfgmpbdakaaGreat

namespace Go.Proofs.YtfpenfgmpbdakaaGreat
set_option linter.unusedVariables false
set_option linter.unusedSimpArgs false
set_option maxRecDepth 100000
open Go.RowKit
open Dot Evt
theorem cloneDt_any (A : Option Addr) (n c : Nat) (l : List Dt) (B : Nat) (w : World) (hb : RdD w B A n l) (hB : B≤w.heap.size) (hl : n≤1000000000000) :
    Calls Tryz.prog 83 #[.slice A n c] w fun e w'=>∃ A' c',e = .returned (.slice A' n c')∧OwnD w' w.heap.size A' n c' l∧Below w.heap.size w w':=by
  have q:=fun (w : World) (a : Option Addr) (n c n' c' : Nat)=>Lib.run_eql_slice_nil (P:=Tryz.prog) w 45 _ a n c n' c' Tryz.underlying45
  rcases A with _ | a
  · have h0 : l = []:=by
      rcases l with _ | ⟨x,r⟩
      · rfl
      · obtain ⟨_,h,_⟩:=hb.2 0 _ rfl
        cases h
    subst h0;obtain rfl:=hb.1
    go_enter Tryz.func83,Tryz.ntmps83
    go_wp2_with fail;go_ret;exact ⟨_,_,rfl,OwnD.nil _ _,Below.refl _ _⟩
  · obtain ⟨m0,hm0⟩ : ∃ m0,m0 = n:=⟨_,rfl⟩
    have hm:=hb.1;clear hm0
    go_enter Tryz.func83,Tryz.ntmps83
    go_wp2_with (at_builtin;refine wpList_appD rfl (.tmp 5) (.tmp 6) rfl rfl (own_emptyD (base:=w.heap.size) (Blk.new w 42 #[]) (Nat.le_refl _)) rfl ((hb.below ((Below.refl _ _).alloc hB _)).rd) hm (by omega) (by simp) ?_)
    intro A' c' w2 ho1 _ _ hbl1;subst hm;go_wp2_with fail;go_ret;exact ⟨_,_,rfl,ho1,((Below.refl _ _).alloc (Nat.le_refl _) _).trans hbl1⟩
set_option maxHeartbeats 2000000 in
theorem indexE_any (A : Option Addr) (n c : Nat) (xs : List EvV) (fid : FuncId) (cap : Array Value) (P : EvV→Bool) (w0 : World) (hr : RowEv w0 w0.heap.size A n xs) (hn : n≤10000000000000)
    (hk : ∀ args w,(callFunc fid args).run Tryz.prog w = .ok (.enter fid args) w)
    (hclo : ∀ x ∈ xs,∀ w,Below w0.heap.size w0 w→Calls Tryz.prog fid (#[.agg x.cs] ++ cap) w fun e w'=>e = .returned (.bool (P x))∧Below w.heap.size w w') :
    Calls Tryz.prog 102 #[.slice A n c,.func (.func fid) #[] cap] w0 fun e w'=>(∃ z : Int,e = .returned (.int .i64 z)∧decide (0≤z) = xs.any P)∧Below w0.heap.size w0 w':=by
  have HN:=Lib.hid hr.1
  have HRK:=Lib.hid fun (w' : World) (hb : Below w0.heap.size w0 w')=>hr.below hb
  have HC:=Lib.hid hclo;have HNB:=Lib.hid hn;obtain ⟨R,hR⟩ : ∃ R,R = xs.any P:=⟨_,rfl⟩;rw [← hR];have HR:=Lib.hid hR;clear hr hclo hR hn
  go_enter Tryz.func102,Tryz.ntmps102
  go_wp2_with fail
  go_loopw [5,8] (fun _ i wr=>∃ k : Nat,k≤n∧i = .int .i64 (k : Nat)∧(∀ j x,j < k→xs[j]? = some x→P x = false)∧Below w0.heap.size w0 wr) (fun _ i _=>n - (intOf i).toNat)
  case atStart=>exact ⟨0,by omega,rfl,fun j x hj=>by omega,Below.refl _ _⟩
  case round =>
  obtain ⟨k,hkn,rfl,hall,gb⟩:=hrel;have HA:=Lib.hid hall;clear hall
  by_cases hlt : k < n
  · have hkl : k < xs.length:=by rw [← HN.out];exact hlt
    have hkb : k < 10000000000000:=by have:=HNB.out;omega
    obtain ⟨hok,ad,hA,hab,hcs⟩:=(HRK.out wr gb).2 k _ (List.getElem?_eq_getElem hkl);have hc:=HC.out _ (List.getElem_mem hkl) wr gb;have e1 : xs[k]? = some xs[k]:=List.getElem?_eq_getElem hkl;have hmem : xs[k] ∈ xs:=List.getElem_mem hkl
    generalize xs[k] = x at *
    subst hA;obtain ⟨cs,hcx⟩ : ∃ cs,cs = x.cs:=⟨_,rfl⟩;rw [← hcx] at hcs hc;have HSZ:=Lib.hid (show cs.size = 14 by rw [hcx];rfl);have HCS:=Lib.hid hcs;obtain ⟨b,hb⟩ : ∃ b,b = P x:=⟨_,rfl⟩;rw [← hb] at hc;have HB:=Lib.hid hb;have HCL:=Lib.hid hc;have E1:=Lib.hid e1;have HM:=Lib.hid hmem
    have hk0 : (0 : Int)≤(k : Int):=by omega
    have hkm : (k : Int) < (n : Int):=by omega
    clear hcs hc hb hok hcx e1 hmem
    go_upto_region 4 with fail
    go_wp2_with ((with_reducible refine wpList_lda rowE HCS.out HSZ.out ?_ ?_);rotate_left;(rfl))
    refine HCL.out.mono ?_;rintro e w1 ⟨rfl,b1⟩;have gb:=gb.trans (b1.mono gb.size);clear b1 HCL
    cases b
    case true =>
      have hr : R = true:=by rw [HR.out];exact List.any_eq_true.2 ⟨x,HM.out,HB.out.symm⟩
      subst hr;go_wp2_with fail;go_ret;exact ⟨⟨_,rfl,decide_eq_true hk0⟩,gb⟩
    case false =>
      go_wp2_with fail
      go_roundw
      case rel=>exact ⟨k + 1,by omega,by go_num,fun j y hj hy=>by
        by_cases e : j = k
        · subst e
          rw [E1.out] at hy
          injection hy with hy
          rw [← hy];exact HB.out.symm
        · exact HA.out j y (by omega) hy,gb⟩
      case measure=>simp [intOf];omega
  · obtain rfl : k = n:=by omega
    have hr : R = false:=by
      rw [HR.out,List.any_eq_false];intro x hx;obtain ⟨j,hj,e⟩:=List.getElem_of_mem hx;rw [HA.out j x (by rw [HN.out];exact hj) (by rw [List.getElem?_eq_getElem hj,e])]
      decide
    subst hr
    have hkk : ¬ (k : Int) < (k : Int):=by omega
    go_wp2_with fail;go_ret;exact ⟨⟨-1,rfl,by decide⟩,gb⟩
theorem containsE_any (A : Option Addr) (n c : Nat) (xs : List EvV) (fid : FuncId) (cap : Array Value) (P : EvV→Bool) (w0 : World) (hr : RowEv w0 w0.heap.size A n xs) (hn : n≤10000000000000)
    (hk : ∀ args w,(callFunc fid args).run Tryz.prog w = .ok (.enter fid args) w)
    (hclo : ∀ x ∈ xs,∀ w,Below w0.heap.size w0 w→Calls Tryz.prog fid (#[.agg x.cs] ++ cap) w fun e w'=>e = .returned (.bool (P x))∧Below w.heap.size w w') :
    Calls Tryz.prog 81 #[.slice A n c,.func (.func fid) #[] cap] w0 fun e w'=>e = .returned (.bool (xs.any P))∧Below w0.heap.size w0 w':=by
  have HI:=Lib.hid (indexE_any A n c xs fid cap P w0 hr hn hk hclo)
  generalize xs.any P = R at *
  clear hr hclo hk hn
  go_enter Tryz.func81,Tryz.ntmps81
  go_wp2_with fail;refine HI.out.mono ?_;rintro e w1 ⟨⟨z,rfl,hz⟩,b1⟩;have HZ:=Lib.hid hz;clear hz;go_wp2_with fail;go_ret;exact ⟨by rw [← HZ.out];rfl,b1⟩
namespace Sto
theorem has1_any (x : EvV) (g : Nat) (n q : Int) (w : World) (kd : Blk w g 42 #[.int .i64 n,.int .i64 q]) :
    Calls Tryz.prog 82 #[.agg x.cs,.pointer (some ⟨g,0,none⟩)] w fun e w'=>e = .returned (.bool (decide (x.e.d = (n,q))))∧Below w.heap.size w w':=by
  obtain ⟨R,hR⟩ : ∃ R,R = decide (x.e.d = (n,q)):=⟨_,rfl⟩;rw [← hR];obtain ⟨cs,hcx⟩ : ∃ cs,cs = x.cs:=⟨_,rfl⟩;rw [← hcx];have X0:=Lib.hid (show cs[0]? = some (.int .i64 x.e.d.1) by rw [hcx];rfl);have X1:=Lib.hid (show cs[1]? = some (.int .i64 x.e.d.2) by rw [hcx];rfl)
  generalize x.e.d = d at *
  obtain ⟨n',q'⟩:=d;clear hcx
  by_cases e1 : n' = n
  · by_cases e2 : q' = q
    · have hr : R = true:=by rw [hR,e1,e2];exact decide_eq_true rfl
      subst hr e1 e2;clear hR
      go_enter Tryz.func82,Tryz.ntmps82
      go_upto_region 1 with fail
      refine nameW ?_;intro W hW
      have kb : Blk W w.heap.size 47 cs:=by rw [hW];exact Blk.new _ _ _
      have gb : Below w.heap.size w W:=by rw [hW];exact (Below.refl _ _).alloc (Nat.le_refl _) _
      have kd:=kd.below gb kd.lt;have c0:=(kb.cell 0).trans X0.out;have c1:=(kb.cell 1).trans X1.out;have d0 : W.cell? ⟨g,0,none⟩ = some (.int .i64 n'):=kd.cell 0;have d1 : W.cell? ⟨g,1,none⟩ = some (.int .i64 q'):=kd.cell 1;clear hW kb kd;go_wp2_with fail;go_ret;exact ⟨rfl,gb⟩
    · have hr : R = false:=by rw [hR];exact decide_eq_false (fun h=>e2 (congrArg Prod.snd h))
      subst hr e1;clear hR
      go_enter Tryz.func82,Tryz.ntmps82
      go_upto_region 1 with fail
      refine nameW ?_;intro W hW
      have kb : Blk W w.heap.size 47 cs:=by rw [hW];exact Blk.new _ _ _
      have gb : Below w.heap.size w W:=by rw [hW];exact (Below.refl _ _).alloc (Nat.le_refl _) _
      have kd:=kd.below gb kd.lt;have c0:=(kb.cell 0).trans X0.out;have c1:=(kb.cell 1).trans X1.out;have d0 : W.cell? ⟨g,0,none⟩ = some (.int .i64 n'):=kd.cell 0;have d1 : W.cell? ⟨g,1,none⟩ = some (.int .i64 q):=kd.cell 1;clear hW kb kd;go_wp2_with fail;go_ret;exact ⟨rfl,gb⟩
  · have hr : R = false:=by rw [hR];exact decide_eq_false (fun h=>e1 (congrArg Prod.fst h))
    subst hr;clear hR
    go_enter Tryz.func82,Tryz.ntmps82
    go_upto_region 1 with fail
    refine nameW ?_;intro W hW
    have kb : Blk W w.heap.size 47 cs:=by rw [hW];exact Blk.new _ _ _
    have gb : Below w.heap.size w W:=by rw [hW];exact (Below.refl _ _).alloc (Nat.le_refl _) _
    have kd:=kd.below gb kd.lt;have c0:=(kb.cell 0).trans X0.out;have c1:=(kb.cell 1).trans X1.out;have d0 : W.cell? ⟨g,0,none⟩ = some (.int .i64 n):=kd.cell 0;have d1 : W.cell? ⟨g,1,none⟩ = some (.int .i64 q):=kd.cell 1;clear hW kb kd;go_wp2_with fail;go_ret;exact ⟨rfl,gb⟩
def hasE (l : List Ev) (d : Dt) : Bool:=l.any fun e=>decide (e.d = d)
theorem shas_any (A : Option Addr) (n c : Nat) (xs : List EvV) (x y : Int) (w0 : World) (hr : RowEv w0 w0.heap.size A n xs) (hn : n≤10000000000000) :
    Calls Tryz.prog 53 #[.slice A n c,.agg #[.int .i64 x,.int .i64 y]] w0 fun e w'=>e = .returned (.bool (hasE (xs.map (·.e)) (x,y)))∧Below w0.heap.size w0 w':=by
  have hck : ∀ args w,(callFunc 82 args).run Tryz.prog w = .ok (.enter 82 args) w:=by
    intro args w
    simp [go_sem]
  have hx : hasE (xs.map (·.e)) (x,y) = xs.any fun z=>decide (z.e.d = (x,y)):=by unfold hasE;rw [List.any_map];rfl
  rw [hx]
  have HRK:=Lib.hid fun (w' : World) (hb : Below w0.heap.size w0 w')=>(hr.below hb).more hb.size
  have HCK:=Lib.hid hck
  obtain ⟨R,hR⟩ : ∃ R,R = xs.any fun z=>decide (z.e.d = (x,y)):=⟨_,rfl⟩
  rw [← hR];have HR:=Lib.hid hR;have HNB:=Lib.hid hn;clear hck hr hx hR hn
  go_enter Tryz.func53,Tryz.ntmps53
  go_upto_region 1 with fail
  refine nameW ?_;intro W hW;obtain ⟨g,hg⟩ : ∃ g,g = w0.heap.size:=⟨_,rfl⟩;rw [← hg]
  have kb : Blk W g 42 #[.int .i64 x,.int .i64 y]:=by rw [hW,hg];exact Blk.new _ _ _
  have gb : Below w0.heap.size w0 W:=by rw [hW];exact (Below.refl _ _).alloc (Nat.le_refl _) _
  clear hW hg;have HCN:=Lib.hid (containsE_any A n c xs 82 #[.pointer (some ⟨g,0,none⟩)] (fun z=>decide (z.e.d = (x,y))) W (HRK.out W gb) HNB.out HCK.out (fun z _ w hb=>has1_any z g x y w (kb.below hb kb.lt)));go_wp2_with fail;refine HCN.out.mono ?_;rintro e w1 ⟨rfl,b1⟩;have gb:=gb.trans (b1.mono gb.size);rw [← HR.out];go_wp2_with fail;go_ret;exact ⟨rfl,gb⟩
end Sto
end Go.Proofs.YtfpenfgmpbdakaaGreat

namespace Go.Proofs.YtfpenfgmpbdakaaGreat
set_option linter.unusedVariables false
set_option linter.unusedSimpArgs false
set_option maxRecDepth 100000
open Go.RowKit
open Dot Evt
theorem numsE_len (x : Ev) (hp : x.p.length = 7) : (numsE x).length≤13 + 2 * x.l.length:=by
  have hd : (dotNums x.l).length = 2 * x.l.length:=by rw [← dotN_len,← dotNums_nat,List.length_map]
  unfold numsE
  rw [List.length_append]
  split
  · simp only [List.length_cons,List.length_nil];omega
  · rw [List.length_append,List.length_append,hd]
    split
    · simp only [List.length_cons,List.length_nil,hp];omega
    · simp only [List.length_cons,List.length_nil];omega
theorem encE_len {x : Ev} (hp : x.p.length = 7) (hx : rightE x = true) : (encE x).length≤1230:=by
  have h:=encN_len ((numsE x).map Int.toNat);rw [List.length_map] at h;have h2:=numsE_len x hp;have h3:=(right_facts hp hx).2.2.1
  unfold encE
  omega
end Go.Proofs.YtfpenfgmpbdakaaGreat

namespace Go.Proofs.YtfpenfgmpbdakaaGreat
set_option linter.unusedVariables false
set_option linter.unusedSimpArgs false
set_option maxRecDepth 100000
open Go.RowKit
open Dot Evt
namespace Sto
set_option maxHeartbeats 1000000 in
theorem own_any (x : EvV) (w : World) (hx : EvOk w w.heap.size x) (hm : x.m≤100000) :
    Calls Tryz.prog 54 #[.agg x.cs] w fun e w'=>∃ z : EvV,e = .returned (.agg z.cs)∧z.e = x.e∧EvOwn w' w.heap.size z∧Below w.heap.size w w':=by
  obtain ⟨cs,hcs⟩ : ∃ cs,cs = x.cs:=⟨_,rfl⟩;have HSZ:=Lib.hid (show cs.size = 14 by rw [hcs];rfl);have X13:=Lib.hid (show cs[13]? = some (.slice x.A x.m x.c) by rw [hcs];rfl);have XS:=Lib.hid (fun (A' : Option Addr) (c' : Nat)=>(show cs.setIfInBounds 13 (.slice A' x.m c') = ec x.e (.slice A' x.m c') by rw [hcs];rfl));rw [← hcs];have HX:=Lib.hid hx;have HM:=Lib.hid hm;clear hx hm hcs
  go_enter Tryz.func54,Tryz.ntmps54
  go_upto_region 1 with fail
  refine nameW ?_;intro wv hwv;obtain ⟨b,hb⟩ : ∃ b,b = w.heap.size:=⟨_,rfl⟩;rw [← hb]
  have kb : Blk wv b 47 cs:=by rw [hwv,hb];exact (Blk.new w _ _).alloc _
  have kz : Blk wv (b + 1) 47 (cT 0):=by
    have h:=Blk.new (w.alloc (.cells cs 47)) 47 (cT 0);rw [show (w.alloc (.cells cs 47)).heap.size = w.heap.size + 1 by simp] at h;rw [hwv,hb];exact h
  have gb : Below w.heap.size w wv:=by rw [hwv];exact ((Below.refl _ _).alloc (Nat.le_refl _) _).alloc (by simp) _
  have t13 : wv.cell? ⟨b,13,none⟩ = some (.slice x.A x.m x.c):=(kb.cell 13).trans X13.out;have HCL:=Lib.hid (cloneDt_any x.A x.m x.c x.e.l w.heap.size wv (HX.out.2.1.below gb) gb.size (by have:=HM.out;omega))
  have hbw : w.heap.size≤b:=by omega
  clear hwv hb;go_wp2_with fail;refine HCL.out.mono ?_;rintro e w3 ⟨A',c',rfl,o3,b3⟩;have kb3:=kb.below b3 kb.lt;have kz3:=kz.below b3 kz.lt;have gb3:=gb.trans (b3.mono gb.size);have hbv:=kz.lt;have c3 : w3.cell? ⟨b,13,none⟩ = some (.slice x.A x.m x.c):=(kb3.cell 13).trans X13.out;have f3:=kb3.free 13;have hl3:=kb3.lt;have kb4:=kb3.set_ 13 (.slice A' x.m c');rw [XS.out] at kb4;have kz4:=kz3.far (p:=⟨b,13,none⟩) (by simp) (.slice A' x.m c');have o4:=o3.setFar (p:=⟨b,13,none⟩) (fun h=>by have h9 : wv.heap.size≤b:=(o3.lt _ h).1;omega) (.slice A' x.m c');have gb4 : Below w.heap.size w (w3.setCell ⟨b,13,none⟩ (.slice A' x.m c')):=gb3.setCell (p:=⟨b,13,none⟩) hbw _;obtain ⟨z,hz⟩ : ∃ z : EvV,z = ⟨x.e,A',x.m,c'⟩:=⟨_,rfl⟩
  have hzc : ec x.e (.slice A' x.m c') = z.cs:=by rw [hz];rfl
  rw [hzc] at kb4;have SZ:=Lib.hid z.size;have OZ:=Lib.hid z.one;have HZ0:=Lib.hid (show (cT 0).size = 14 from rfl);have HZ:=Lib.hid hz;clear kb3 kz3 gb3 kb kz gb hzc hz t13
  go_upto_region 2 with fail
  refine nameW ?_;intro w4 hw4;rw [← hw4] at kb4 kz4 o4 gb4;clear hw4 c3 f3 o3 hl3
  generalize hCZ : z.cs = CZ at *
  go_wp2_with first
    | ((with_reducible refine wpList_ld rowE kb4 SZ.out ?_ ?_);rotate_left;(rfl))
    | ((with_reducible refine wpList_st rowE kz4 SZ.out HZ0.out OZ.out ?_ ?_ ?_);rotate_left;(rfl);(rfl);intro w5 k5 g5 z5)
  have o5:=o4.grown g5 (.inr (own_ne o4.2 kz4 (by decide)));refine bodyPost_ret (v:=.agg CZ) (results_blk rfl rowE k5 SZ.out rfl) rfl ⟨z,by rw [hCZ],by rw [HZ.out],?_,gb4.grown g5 gb4.size (fun q hq=>by injection hq;omega)⟩;rw [HZ.out];exact ⟨HX.out.1,o5.mono (by omega),HX.out.2.2⟩
set_option maxRecDepth 100000 in
set_option maxHeartbeats 2000000 in
theorem owns_any (A : Option Addr) (n c : Nat) (xs : List EvV) (w : World) (hn : n≤100000) (hR : RowEv w w.heap.size A n xs) (hm : ∀ x ∈ xs,x.m≤100000) :
    Calls Tryz.prog 58 #[.slice A n c] w (CopiesEnd w n xs):=by
  have HN:=Lib.hid hR.1
  have HRK:=Lib.hid fun (w' : World) (hb : Below w.heap.size w w')=>hR.below hb
  have HNB:=Lib.hid hn;have HM:=Lib.hid hm;clear hR hn hm;obtain ⟨B,hB⟩ : ∃ B,B = w.heap.size:=⟨_,rfl⟩;have HB:=Lib.hid hB;rw [← hB] at HRK;clear hB
  go_enter Tryz.func58,Tryz.ntmps58
  go_wp2_with fail
  go_loopw [2,7] (fun s i wr=>∃ (k : Nat) (A' : Option Addr) (c' : Nat) (ys : List EvV),k≤n∧i = .int .i64 k∧s = .slice A' k c'∧OwnEv wr B A' k c' ys∧(∀ y ∈ ys,EvOwn wr B y)∧ys.map (·.e) = (xs.take k).map (·.e)∧Below B w wr) (fun _ i _=>n - (intOf i).toNat)
  case atStart=>exact ⟨0,none,0,[],by omega,rfl,rfl,OwnEv.nil _ _,fun y hy=>by simp at hy,rfl,by rw [HB.out];exact Below.refl _ _⟩
  case round =>
    obtain ⟨k,A',c',ys,hk,rfl,rfl,ho,hys,hmp,gb⟩:=hrel;have HYS:=Lib.hid hys;have HMP:=Lib.hid hmp;clear hys hmp
    by_cases hlt : k < n
    · have hkl : k < xs.length:=by rw [← HN.out];exact hlt
      have hgs : B≤wr.heap.size:=by have:=gb.size;have:=HB.out;omega
      obtain ⟨hok,ad,hA,hab,hcell⟩:=(HRK.out wr gb).2 k _ (List.getElem?_eq_getElem hkl);have hsn:=take_snoc xs hkl;have hmm:=HM.out _ (List.getElem_mem hkl)
      generalize xs[k] = x at *
      subst hA;obtain ⟨cs,hcs⟩ : ∃ cs,cs = x.cs:=⟨_,rfl⟩;rw [← hcs] at hcell;have HCS:=Lib.hid hcs;have HSZ:=Lib.hid (show cs.size = 14 by rw [hcs];rfl);have H1C:=Lib.hid (show cs.all (·.oneCell') = true by rw [hcs];exact x.one);have HC:=Lib.hid hcell;have HSN:=Lib.hid hsn;have HOK:=Lib.hid hok;have HMM:=Lib.hid hmm
      have hk0 : (0 : Int)≤(k : Int):=by omega
      have hkm : (k : Int) < (n : Int):=by omega
      clear hcell hok hsn hmm hcs
      go_upto_region 3 with fail
      go_upto_region 4 with first
        | ((with_reducible refine wpList_lda rowE HC.out HSZ.out ?_ ?_);rotate_left;(rfl))
        | ((with_reducible refine wpList_st rowE (Blk.new _ _ _) HSZ.out ?_ H1C.out ?_ ?_ ?_);(rfl);rotate_left;(rfl);(rfl);intro w6 k6 g6 z6)
      have bA : Below wr.heap.size wr w6:=(((Below.refl _ _).alloc (Nat.le_refl _) _).grown g6 (by simp) (fun q hq=>by injection hq with hq;omega));have gb6:=gb.trans (bA.mono hgs);have ho6:=ho.below bA (Nat.le_refl _)
      have hys6 : ∀ y ∈ ys,EvOwn w6 B y:=fun y hy=>by
        obtain ⟨q1,q2,q3⟩:=HYS.out y hy;exact ⟨q1,q2.below bA (Nat.le_refl _),q3⟩
      have hok6:=HOK.out.below (bA.mono hgs);obtain ⟨gr,hgr2⟩ : ∃ gr,gr = wr.heap.size:=⟨_,rfl⟩
      have hgr3 : B≤gr:=by omega
      rw [← hgr2] at k6 ⊢;have HYS6:=Lib.hid hys6
      have hs6 : B≤w6.heap.size:=by have:=gb6.size;have:=HB.out;omega
      have hcp:=own_any x w6 (hok6.more hs6) HMM.out;rw [← HCS.out] at hcp;have HCP:=Lib.hid hcp;clear hgr2 g6 z6 bA gb ho HYS hys6 hcp hok6
      go_wp2_with first
        | ((with_reducible refine wpList_ld rowE k6 HSZ.out ?_ ?_);rotate_left;(rfl))
      refine HCP.out.mono ?_;rintro e w7 ⟨z,rfl,hze,hz,b7⟩;have ho7:=ho6.below b7 (Nat.le_refl _)
      have hys7 : ∀ y ∈ ys,EvOwn w7 B y:=fun y hy=>by
        obtain ⟨q1,q2,q3⟩:=HYS6.out y hy;exact ⟨q1,q2.below b7 (Nat.le_refl _),q3⟩
      have gb7:=gb6.trans (b7.mono hs6);have hz : EvOwn w7 B z:=⟨hz.1,hz.2.1.mono hs6,hz.2.2⟩;have HZ:=Lib.hid hz;have HZE:=Lib.hid hze;have HBS:=Lib.hid (fun w=>buildE1 z w);have HYS7:=Lib.hid hys7
      have hs7 : B≤w7.heap.size:=by have:=gb7.size;have:=HB.out;omega
      obtain ⟨cz,hcz2⟩ : ∃ cz,cz = z.cs:=⟨_,rfl⟩;have HCZ:=Lib.hid hcz2;rw [← hcz2] at HBS ⊢;clear hz hze hcz2 hys7 HYS6 b7 ho6 gb6
      go_wp2_with first
        | ((refine wpList_bs (v:=.slice (some ⟨w7.heap.size,0,none⟩) 1 1) (w':=w7.alloc (.cells cz 47)) rfl 48 1 #[(0,.tmp 13)] rfl ?_ ?_);(simp only [List.map_toArray,List.map_cons,List.map_nil];exact HBS.out w7))
        | (at_builtin;refine wpList_appE rfl (.tmp 11) (.tmp 14) rfl rfl (ho7.alloc _) rfl (news:=[z]) (B:=w7.heap.size + 1) ?hd1 rfl ?hd2 ?hd3 ?_)
      case hd1 =>
        have h:=Rd.made w7 cz 47 (0,0);rw [show ecsL [z] = cz.toList by rw [HCZ.out];simp [ecsL]];exact h
      case hd2=>have:=HNB.out;omega
      case hd3=>simp;omega
      intro A3 c3 w8 o8 g8 m8 b8;have gb8:=gb7.trans (((Below.refl _ _).alloc hs7 (.cells cz 47)).trans b8)
      have hys8 : ∀ y ∈ ys ++ [z],EvOwn w8 B y:=fun y hy=>by
        have hy2 : EvOwn w7 B y:=by
          rcases List.mem_append.1 hy with h | h
          · exact HYS7.out y h
          · simp at h;rw [h];exact HZ.out
        exact ⟨hy2.1,(hy2.2.1.alloc (.cells cz 47)).grown g8 (own2_ne hy2.2.1.2 ho7.2 (by decide)),hy2.2.2⟩
      have HYS8:=Lib.hid hys8;clear hys8 g8 m8 b8 HYS7;go_wp2_with fail
      go_roundw
      case rel=>exact ⟨k + 1,A3,c3,ys ++ [z],by omega,num_succ k (by have:=HNB.out;omega),rfl,o8,HYS8.out,by rw [HSN.out,List.map_append,List.map_append,HMP.out];simp [HZE.out],gb8⟩
      case measure=>exact meas_succ k n hlt (by have:=HNB.out;omega)
    · have hkn : k = n:=by omega
      have hkd : decide ((k : Int) < (n : Int)) = false:=decide_eq_false (by omega);have hmp:=HMP.out;rw [List.take_of_length_le (by rw [← HN.out];omega)] at hmp;have HMP2:=Lib.hid hmp;clear hmp HMP;subst hkn;go_wp2_with fail;go_ret;exact ⟨A',c',ys,rfl,by rw [← HB.out];exact ho,by rw [← HB.out];exact HYS.out,HMP2.out,by rw [← HB.out];exact gb⟩
def told3 (x : Ev) : List UInt8:=3 :: (putE x).1
theorem told3_bad (x : EvV) (w : World) (hx : EvOk w w.heap.size x) (hr : rightE x.e = false) :
    Calls Tryz.prog 52 #[.agg x.cs] w fun e w'=>e = .panicked [{ v:=flt 2,recovered:=false }]∧Below w.heap.size w w':=by
  have HP:=Lib.hid fun (w' : World) (hb : Below w.heap.size w w')=>eput_any x.e hx.1 x.A x.m x.c w' ((hx.2.1.below hb).more hb.size)
  obtain ⟨cs,hcs⟩ : ∃ cs,cs = x.cs:=⟨_,rfl⟩
  have hcs2 : ec x.e (.slice x.A x.m x.c) = cs:=by rw [hcs];rfl
  have SZ:=Lib.hid (show cs.size = 14 by rw [hcs];rfl);rw [hcs2] at HP;rw [← hcs]
  have hp : putE x.e = ([],2):=by unfold putE;rw [hr];rfl
  rw [hp] at HP;clear hx hcs hcs2 hp hr
  go_enter Tryz.func52,Tryz.ntmps52
  go_upto_region 1 with fail
  refine nameW ?_;intro W hW
  have kb : Blk W w.heap.size 47 cs:=by rw [hW];exact Blk.new _ _ _
  have gb : Below w.heap.size w W:=by rw [hW];exact (Below.refl _ _).alloc (Nat.le_refl _) _
  clear hW
  go_wp2_with ((with_reducible refine wpList_ld rowE kb SZ.out ?_ ?_);rotate_left;(rfl))
  refine (HP.out W gb).mono ?_;rintro e w1 ⟨A,n1,c1,rfl,ho,b1⟩;have gb1:=gb.trans (b1.mono gb.size);go_wp2_with fail;refine (must_no (by first | with_reducible rfl | assumption | (simp;done) | (simp;omega)) _ _).mono ?_;rintro e w2 ⟨rfl,rfl⟩;go_wp2_with fail;exact ⟨rfl,rfl,gb1⟩
theorem told3_any (x : EvV) (w : World) (hx : EvOk w w.heap.size x) (hr : rightE x.e = true) :
    Calls Tryz.prog 52 #[.agg x.cs] w (GiveB w (told3 x.e)):=by
  have HP:=Lib.hid fun (w' : World) (hb : Below w.heap.size w w')=>eput_any x.e hx.1 x.A x.m x.c w' ((hx.2.1.below hb).more hb.size)
  obtain ⟨cs,hcs⟩ : ∃ cs,cs = x.cs:=⟨_,rfl⟩
  have hcs2 : ec x.e (.slice x.A x.m x.c) = cs:=by rw [hcs];rfl
  have SZ:=Lib.hid (show cs.size = 14 by rw [hcs];rfl);rw [hcs2] at HP;rw [← hcs]
  have hp : putE x.e = (encE x.e,0):=by unfold putE;rw [hr];rfl
  have hlen:=encE_len hx.1 hr
  have ht : told3 x.e = 3 :: encE x.e:=by unfold told3;rw [hp]
  rw [hp] at HP;rw [ht]
  generalize encE x.e = PB at *
  clear hx hcs hcs2 hp hr ht
  go_enter Tryz.func52,Tryz.ntmps52
  go_upto_region 1 with fail
  refine nameW ?_;intro W hW
  have kb : Blk W w.heap.size 47 cs:=by rw [hW];exact Blk.new _ _ _
  have gb : Below w.heap.size w W:=by rw [hW];exact (Below.refl _ _).alloc (Nat.le_refl _) _
  clear hW
  go_wp2_with ((with_reducible refine wpList_ld rowE kb SZ.out ?_ ?_);rotate_left;(rfl))
  refine (HP.out W gb).mono ?_;rintro e w1 ⟨A,n1,c1,rfl,ho,b1⟩;have gb1:=gb.trans (b1.mono gb.size);have HO:=Lib.hid ho
  have hn1 : n1≤100000000:=by rw [ho.1];omega
  clear ho b1 kb gb;go_wp2_with fail;refine (must_ok _ _).mono ?_;rintro e w2 ⟨rfl,rfl⟩;have hba : Below w1.heap.size w1 (w1.alloc (.cells #[.int .u8 3] 5)):=(Below.refl _ _).alloc (Nat.le_refl _) _
  go_wp2_with (at_builtin;refine wpList_appB rfl (.tmp 14) (.tmp 15) rfl rfl (OwnB.made w1 w1.heap.size [3] #[.int .u8 3] 1 rfl rfl (Nat.le_refl _) (by unfold maxLen;omega)) rfl (HO.out.rd.below hba) (by omega) (by simp) ?_)
  intro A' c' w3 o3 _ _ b3;rw [show 1 + n1 = n1 + 1 from Nat.add_comm _ _] at *;have HO3:=Lib.hid o3;have gb3:=gb1.trans ((hba.trans b3).mono gb1.size);clear o3 b3 hba;go_wp2_with fail;go_ret;exact ⟨A',n1 + 1,c',rfl,HO3.out.mono gb1.size,gb3⟩
theorem inc_any (b g used u i : Nat) (E : Value) (w : World) (h0 : Blk w b 88 (sc g used u i E)) :
    Calls Tryz.prog 31 #[.pointer (some ⟨b,0,none⟩)] w fun e w'=>e = .returned (.int .i64 (i : Nat))∧w = w':=by
  have c0:=h0.cell 3
  go_enter Tryz.func31,Tryz.ntmps31
  go_wp2_with fail;go_ret;exact ⟨rfl,rfl⟩
theorem events_any (b g used u i : Nat) (A : Option Addr) (n c : Nat) (xs : List EvV) (w : World) (h0 : Blk w b 88 (sc g used u i (.slice A n c))) (hn : n≤100000) (hR : RowEv w w.heap.size A n xs) (hm : ∀ x ∈ xs,x.m≤100000) :
    Calls Tryz.prog 30 #[.pointer (some ⟨b,0,none⟩)] w (CopiesEnd w n xs):=by
  have c0:=h0.cell 4;have c0 : w.cell? ⟨b,4,none⟩ = some (.slice A n c):=c0;have HO:=Lib.hid (owns_any A n c xs w hn hR hm);clear h0 hn hR hm
  go_enter Tryz.func30,Tryz.ntmps30
  go_wp2_with fail;refine HO.out.mono ?_;rintro e w1 ⟨A',c',ys,rfl,h1,h2,h3,h4⟩;go_wp2_with fail;go_ret;exact ⟨A',c',ys,rfl,h1,h2,h3,h4⟩
end Sto
end Go.Proofs.YtfpenfgmpbdakaaGreat

namespace Go.Proofs.YtfpenfgmpbdakaaGreat
set_option linter.unusedVariables false
set_option linter.unusedSimpArgs false
set_option maxRecDepth 100000
open Go.RowKit
theorem u8_ref (m : Nat) : IntKind.u8.wrap (128 + (m : Int) % 128) = ((UInt8.ofNat (m % 128 + 128)).toNat : Int):=by
  rw [IntKind.wrap_u8',Vint.toNat_ofNat];omega
set_option maxRecDepth 100000 in
theorem rput_ok (A : Option Addr) (n c : Nat) (bs : List UInt8) (x : Nat) (B : Nat) (w : World) (hb : RdB w B A n bs) (hB : B≤w.heap.size) (hl : n≤140737488355000) (hx : x≤1099511627776) :
    Calls Tryz.prog 79 #[.slice A n c,.int .i64 x] w (GiveBE w (bs ++ Vint.enc x) 0):=by
  have hd : decide ((x : Int) < 0) = false:=decide_eq_false (by omega);have hd1 : decide (1099511627776 < (x : Int)) = false:=decide_eq_false (by omega)
  go_enter Tryz.func79,Tryz.ntmps79
  go_wp2_with (at_builtin;refine wpList_appB rfl (.tmp 13) (.tmp 14) rfl rfl (OwnB.made w w.heap.size [] #[] 0 rfl rfl (Nat.le_refl _) (Nat.zero_le _)) rfl (hb.alloc hB _) (by omega) (by simp) ?_)
  intro A1 c1 w1 ho _ _ hbl0;have hbl : Below w.heap.size w w1:=((Below.refl _ _).alloc (Nat.le_refl _) _).trans hbl0;clear hd hd1 hbl0;have hn1:=ho.1
  have hl1 : bs.length≤140737488355000:=by rw [← hb.1];exact hl
  have HN1:=Lib.hid hn1;clear hn1;go_wp2_with fail
  go_loopw [1,6] (fun i v wr=>∃ (m f : Nat) (pre : List UInt8) (A' : Option Addr) (n' c' : Nat),i = .int .i64 m∧v = .slice A' n' c'∧m < 128 ^ (f + 1)∧f≤5∧m≤1099511627776∧pre.length + f≤5∧pre ++ Vint.encF f m = Vint.enc x ∧
      OwnB wr w.heap.size A' n' c' (bs ++ pre)∧Below w.heap.size w wr) (fun i _ _=>(intOf i).toNat)
  case atStart => exact ⟨x, 5, [], A1, _, c1, rfl, rfl, by have : (128 : Nat) ^ 6 = 4398046511104 := by decide
                                                           show x < 128 ^ 6;omega,by omega,hx,by simp,rfl,by simpa using ho,hbl⟩
  case round =>
    obtain ⟨m,f,pre,A',n',c',rfl,rfl,hm,hf5,hmt,hpf,hpre,hown,hbel⟩:=hrel;have hlen:=hown.1;rw [List.length_append] at hlen
    have hln : n'≤140737488355005:=by omega
    have HL:=Lib.hid hlen;have HP:=Lib.hid hpre;clear hlen hpre
    by_cases hge : 128≤m
    · have hf : 1≤f:=by
        rcases Nat.eq_zero_or_pos f with h0 | h0
        · subst h0;simp at hm;omega
        · exact h0
      obtain ⟨f,rfl⟩ : ∃ f',f = f' + 1:=⟨f - 1,by omega⟩;have a1:=u8_ref m
      go_wp2_with (at_builtin;refine wpList_appB rfl (.tmp 18) (.tmp 23) rfl rfl (hown.alloc _) rfl (RdB.made _ [UInt8.ofNat (m % 128 + 128)] _ _ _ ?hx1) ?hx0 ?hx2 ?_)
      case hx0=>show n' + 1≤_;omega
      case hx2=>have:=hbel.size;simp;omega
      intro A2 c2 w3 ho2 _ _ hbl2;have hbel3 : Below w.heap.size w w3:=(hbel.alloc hbel.size _).trans hbl2;go_wp2_with fail
      go_roundw
      case rel =>
        refine ⟨m / 128,f,pre ++ [UInt8.ofNat (m % 128 + 128)],_,_,_,rfl,rfl,?_,by omega,by omega,by simp;omega,?_,by simpa using ho2,hbel3⟩
        · rw [Nat.pow_succ] at hm;omega
        · rw [← HP.out]
          conv=>rhs;unfold Vint.encF
          rw [if_neg (by omega)];simp
      case measure=>simp [intOf];omega
    · have a1:=u8_byte m
      go_wp2_with (at_builtin;refine wpList_appB rfl (.tmp 27) (.tmp 30) rfl rfl (hown.alloc _) rfl (RdB.made _ [UInt8.ofNat m] _ _ _ ?hy1) ?hy0 ?hy2 ?_)
      case hy0=>show n' + 1≤_;omega
      case hy2=>have:=hbel.size;simp;omega
      intro A2 c2 w3 ho2 _ _ hbl2;have hbel3 : Below w.heap.size w w3:=(hbel.alloc hbel.size _).trans hbl2;go_wp2_with fail;go_ret2;refine ⟨_,_,_,rfl,?_,hbel3⟩
      have e : Vint.encF f m = [UInt8.ofNat m]:=by
        cases f with
        | zero=>rfl
        | succ f=>unfold Vint.encF;rw [if_pos (by omega)]
      rw [← HP.out,e]
      simpa using ho2
end Go.Proofs.YtfpenfgmpbdakaaGreat

namespace Go.Proofs.YtfpenfgmpbdakaaGreat
set_option linter.unusedVariables false
set_option linter.unusedSimpArgs false
set_option maxRecDepth 100000
open Go.RowKit
open Disk
namespace Sto.Stp
open _root_.Go.Proofs.YtfpenfgmpbdakaaGreat.Log (writeM rewriteM mendM LogEnd MendEnd lwrite_any lrewrite_any lmend_any lread_any ReadL)
open _root_.Go.Proofs.YtfpenfgmpbdakaaGreat.Frame (frm frms frms_nil frms_cons frms_snoc frms_append frm_length frm_pos Parts AllF)
structure Db where
  lasts : List UInt8
  ws : List W
def Db.v (d : Db) : List UInt8:=readL d.lasts d.ws
def Db.length (d : Db) : Nat:=d.v.length
def Db.of (b : List UInt8) : Db:=⟨b,[]⟩
def Db.app (d : Db) (x : List UInt8) : Db:=⟨d.v ++ x,[]⟩
instance dbApp : HAppend Db (List UInt8) Db:=⟨Db.app⟩
def Db.ok (d : Db) : Prop:=d.lasts.length + mass d.ws≤100000∧d.ws.length≤100∧pend d.ws≤100000
theorem Db.of_ok {b : List UInt8} (h : b.length≤16384) : (Db.of b).ok:=⟨by show b.length + 0≤_;omega,Nat.zero_le _,Nat.zero_le _⟩
theorem Db.app_ok {d : Db} {x : List UInt8} (h : d.length + x.length≤16384) : (d ++ x).ok:=Db.of_ok (b:=d.v ++ x) (by rw [List.length_append];exact h)
def writeD (size : Nat) (d : Db) (x : List UInt8) : Nat × Db :=
  if 4096 < x.length then (6,d) else if d.length + (frm x).length≤size then (0,d ++ frm x) else (7,d)
def rewriteD (size : Nat) (d : Db) (ls : List (List UInt8)) : Nat × Db :=
  if ls.all (·.length≤4096) then (if (frms ls).length≤size then (0,Db.of (frms ls)) else (7,d)) else (6,d)
def mendD (d : Db) (l : List (List UInt8)) : Db:=if (frms l).length < d.length then Db.of (frms l) else d
theorem writeD_eq (size : Nat) (d : Db) (x : List UInt8) : writeM size d.lasts d.ws x = ((writeD size d x).1,(writeD size d x).2.lasts,(writeD size d x).2.ws):=by
  unfold writeM writeD
  by_cases h : 4096 < x.length
  · rw [if_pos h,if_pos h]
  · rw [if_neg h,if_neg h]
    by_cases h2 : (readL d.lasts d.ws).length + (frm x).length≤size
    · rw [if_pos h2,if_pos (show d.length + (frm x).length≤size from h2)]
      rfl
    · rw [if_neg h2,if_neg (show ¬ d.length + (frm x).length≤size from h2)]
theorem writeD_ok {size : Nat} {d : Db} (x : List UInt8) (hs : size≤16384) (h : d.ok) : (writeD size d x).2.ok:=by
  unfold writeD
  split
  · exact h
  · split
    · exact Db.app_ok (by omega)
    · exact h
theorem rewriteD_eq (size : Nat) (d : Db) (ls : List (List UInt8)) : rewriteM size d.lasts d.ws ls = ((rewriteD size d ls).1,(rewriteD size d ls).2.lasts,(rewriteD size d ls).2.ws):=by
  unfold rewriteM rewriteD
  by_cases h : ls.all (·.length≤4096) = true
  · rw [if_pos h,if_pos h]
    by_cases h2 : (frms ls).length≤size
    · rw [if_pos h2,if_pos h2];rfl
    · rw [if_neg h2,if_neg h2]
  · rw [if_neg h,if_neg h]
theorem rewriteD_ok {size : Nat} {d : Db} (ls : List (List UInt8)) (hs : size≤16384) (h : d.ok) : (rewriteD size d ls).2.ok:=by
  unfold rewriteD
  split
  · split
    · exact Db.of_ok (by omega)
    · exact h
  · exact h
theorem mendD_eq (d : Db) (l : List (List UInt8)) : mendM d.lasts d.ws l = (0,(mendD d l).lasts,(mendD d l).ws):=by
  unfold mendM mendD
  by_cases h : (frms l).length < (readL d.lasts d.ws).length
  · rw [if_pos h,if_pos (show (frms l).length < d.length from h)];rfl
  · rw [if_neg h,if_neg (show ¬ (frms l).length < d.length from h)]
theorem mend_v {d : Db} {l : List (List UInt8)} {r : List UInt8} (hp : Parts d.v l r) : (mendD d l).v = frms l:=by
  unfold mendD
  split
  · rfl
  · rename_i h
    have h1:=hp.1;have h2:=congrArg List.length h1;rw [List.length_append] at h2;have hr : r = []:=List.eq_nil_of_length_eq_zero (by have : d.length = d.v.length:=rfl;omega);rw [hr,List.append_nil] at h1;rw [h1]
theorem mendD_ok {size : Nat} {d : Db} (l : List (List UInt8)) (hs : size≤16384) (hl : d.length≤size) (h : d.ok) : (mendD d l).ok:=by
  unfold mendD
  split
  · exact Db.of_ok (by omega)
  · exact h
def DiskD (w : World) (F : Nat→Prop) (g size : Nat) (d : Db) : Prop:=DiskAt w F g size d.lasts d.ws∧d.ok
def DiskOpD (w : World) (F : Nat→Prop) (g size : Nat) (d : Db) (w' : World) : Prop:=∃ F',DiskD w' F' g size d∧Only F w w'∧Grows F F' w
section
variable {w w1 : World} {F : Nat→Prop} {g size : Nat} {d : Db}
theorem DiskD.lt (h : DiskD w F g size d) : ∀ k,F k→k < w.heap.size:=h.1.lt
theorem DiskD.keep (h : DiskD w F g size d) (hk : Keeps F w w1) : DiskD w1 F g size d:=⟨h.1.keep hk,h.2⟩
theorem DiskD.below (h : DiskD w F g size d) (hb : Below w.heap.size w w1) : DiskD w1 F g size d:=⟨h.1.below hb,h.2⟩
theorem DiskOpD.of (h : DiskOp w F g size d.lasts d.ws w1) (ok : d.ok) : DiskOpD w F g size d w1:=by
  obtain ⟨F',h1,h2,h3⟩:=h;exact ⟨F',⟨h1,ok⟩,h2,h3⟩
theorem DiskOpD.kept {b : Nat} {t : TypeId} {cs : Array Value} (h : DiskOpD w F g size d w1) (k : Blk w b t cs) (hF : ¬ F b) : Blk w1 b t cs:=by
  obtain ⟨F',_,o,_⟩:=h;exact k.only o hF
end
def DLogEnd (w : World) (F : Nat→Prop) (g size : Nat) (r : Nat × Db) (e : Ending) (w' : World) : Prop:=e = .returned (.int .i64 (r.1 : Nat))∧DiskOpD w F g size r.2 w'
theorem lwriteD_any (A : Option Addr) (n c B : Nat) (bs : List UInt8) (F : Nat→Prop) (g size : Nat) (d : Db) (w : World) (hD : DiskD w F g size d) (hs : size≤16384) (hb : RdB w B A n bs) (hB : B≤w.heap.size) (hc : n≤c) (hcm : c≤maxLen) :
    Calls Tryz.prog 76 #[.pointer (some ⟨g,0,none⟩),.slice A n c] w (DLogEnd w F g size (writeD size d bs)):=by
  have h1:=hD.2.1;have h2:=hD.2.2.1;refine (lwrite_any A n c B bs F g size d.lasts d.ws w hD.1 (by omega) (by omega) hs hb hB hc hcm).mono ?_;rintro e w' ⟨he,ho⟩;rw [writeD_eq] at he ho;exact ⟨he,DiskOpD.of ho (writeD_ok bs hs hD.2)⟩
theorem lrewriteD_any (A : Option Addr) (n c B : Nat) (ls : List (List UInt8)) (F : Nat→Prop) (g size : Nat) (d : Db) (w : World) (hD : DiskD w F g size d) (hs : size≤16384)
    (hb : RdS w B A n ls) (hB : B≤w.heap.size) (hn : n≤1000000) :
    Calls Tryz.prog 57 #[.pointer (some ⟨g,0,none⟩),.slice A n c] w (DLogEnd w F g size (rewriteD size d ls)):=by
  have h1:=hD.2.1;have h2:=hD.2.2.1;refine (lrewrite_any A n c B ls F g size d.lasts d.ws w hD.1 (by omega) (by omega) hs hb hB hn).mono ?_;rintro e w' ⟨he,ho⟩;rw [rewriteD_eq] at he ho;exact ⟨he,DiskOpD.of ho (rewriteD_ok ls hs hD.2)⟩
theorem lmendD_any (F : Nat→Prop) (g size : Nat) (d : Db) (w : World) (hD : DiskD w F g size d) (hs : size≤16384) (hfit : d.length≤size) :
    Calls Tryz.prog 39 #[.pointer (some ⟨g,0,none⟩)] w fun e w'=>∃ l r,Parts d.v l r∧e = .returned (.int .i64 0)∧DiskOpD w F g size (mendD d l) w':=by
  have h1:=hD.2.1;have h2:=hD.2.2.1;refine (lmend_any F g size d.lasts d.ws w hD.1 (by omega) (by omega) hs hfit).mono ?_;rintro e w' ⟨l,r,hp,he,ho⟩;rw [mendD_eq] at he ho;exact ⟨l,r,hp,he,DiskOpD.of ho (mendD_ok l hs hfit hD.2)⟩
theorem lreadD_any (F : Nat→Prop) (g size : Nat) (d : Db) (w : World) (hD : DiskD w F g size d) :
    Calls Tryz.prog 40 #[.pointer (some ⟨g,0,none⟩)] w (ReadL w d.v):=by
  have h1:=hD.2.1;have h2:=hD.2.2.1;exact lread_any F g size d.lasts d.ws w hD.1 (by omega) (by omega)
end Sto.Stp
end Go.Proofs.YtfpenfgmpbdakaaGreat
