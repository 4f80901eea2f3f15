import Derived.Test.YtfpenfgmpbdakaaGreatEvNamed
import Derived.Test.YtfpenfgmpbdakaaGreatQuiet
import Derived.Test.YtfpenfgmpbdakaaGreatVintPut
import Derived.RegionTactic
import Derived.LoopN
import Derived.Test.YtfpenfgmpbdakaaGreatBytes
import Derived.Test.YtfpenfgmpbdakaaGreatDotHas
namespace Go.Proofs.YtfpenfgmpbdakaaGreat
set_option linter.unusedVariables false
set_option linter.unusedSimpArgs false
set_option maxRecDepth 100000
open Go.RowKit
open Dot Evt
theorem ecells {w : World} {b : Nat} {T : Nat} {v0 v1 v2 v3 v4 v5 v6 v7 v8 v9 v10 v11 v12 v13 : Value} (k : Blk w b T #[v0,v1,v2,v3,v4,v5,v6,v7,v8,v9,v10,v11,v12,v13]) :
    w.cell? ⟨b,0,none⟩ = some v0∧w.cell? ⟨b,1,none⟩ = some v1∧w.cell? ⟨b,2,none⟩ = some v2∧w.cell? ⟨b,3,none⟩ = some v3∧w.cell? ⟨b,4,none⟩ = some v4∧w.cell? ⟨b,5,none⟩ = some v5∧w.cell? ⟨b,6,none⟩ = some v6∧w.cell? ⟨b,7,none⟩ = some v7∧w.cell? ⟨b,8,none⟩ = some v8∧w.cell? ⟨b,9,none⟩ = some v9∧w.cell? ⟨b,10,none⟩ = some v10∧w.cell? ⟨b,11,none⟩ = some v11∧w.cell? ⟨b,12,none⟩ = some v12∧w.cell? ⟨b,13,none⟩ = some v13 :=
  ⟨k.cell 0,k.cell 1,k.cell 2,k.cell 3,k.cell 4,k.cell 5,k.cell 6,k.cell 7,k.cell 8,k.cell 9,k.cell 10,k.cell 11,k.cell 12,k.cell 13⟩
set_option maxRecDepth 100000 in
set_option maxHeartbeats 1000000 in
theorem eright_any (x : Ev) (hp : x.p.length = 7) (A : Option Addr) (m c : Nat) (w : World) (hl : RdD w w.heap.size A m x.l) :
    Calls Tryz.prog 114 #[.agg (ec x (.slice A m c))] w fun e w'=>e = .returned (.bool (rightE x))∧Below w.heap.size w w':=by
  obtain ⟨R,hR⟩ : ∃ R,R = rightE x:=⟨_,rfl⟩;rw [← hR];obtain ⟨⟨n,q⟩,t,k,wk,v,p,l⟩:=x;have hpol:=rightpol_any p;obtain ⟨K,hK⟩ : ∃ K,K = kindB ⟨(n,q),t,k,wk,v,p,l⟩:=⟨_,rfl⟩
  have hR2 : R = (mayB (n,q) && inB t 1 top && inB wk 0 7 && decide (l.length≤96) && namedB (n,q) l && K):=by rw [hR,hK];rfl
  clear hR
  simp only at hl hp
  have HM:=Lib.hid hl.1;have hbb : Below w.heap.size w (w.alloc (.cells (ec ⟨(n,q),t,k,wk,v,p,l⟩ (.slice A m c)) 47)):=(Below.refl _ _).alloc (Nat.le_refl _) _;have kb : Blk (w.alloc (.cells (ec ⟨(n,q),t,k,wk,v,p,l⟩ (.slice A m c)) 47)) w.heap.size 47 (ec ⟨(n,q),t,k,wk,v,p,l⟩ (.slice A m c)):=Blk.new _ _ _
  unfold ec at hbb kb ⊢
  unfold pc at hpol
  simp only at hbb kb ⊢
  have hpz : p = p0↔(p.getD 0 0 = 0∧p.getD 1 0 = 0∧p.getD 2 0 = 0∧p.getD 3 0 = 0∧p.getD 4 0 = 0∧p.getD 5 0 = 0∧p.getD 6 0 = 0):=by
    match p,hp with
    | [a,b,c,d,e,f,g],_=>simp [p0]
  have hKp : K = if k = 1 then decide (p = p0) && inB v 0 top && decide (l = []) else if k = 2 then polB p && decide (v = 0) else if k = 3 then decide (p = p0) && decide (v = 0) else false:=by rw [hK];rfl
  clear hK hp
  generalize hpp : decide (p = p0) = PZ at hKp
  have hpz2 : PZ = decide (p.getD 0 0 = 0∧p.getD 1 0 = 0∧p.getD 2 0 = 0∧p.getD 3 0 = 0∧p.getD 4 0 = 0∧p.getD 5 0 = 0∧p.getD 6 0 = 0):=by
    rw [← hpp];exact decide_eq_decide.2 hpz
  clear hpp hpz
  generalize polB p = PB at hKp hpol
  generalize p.getD 0 0 = p0,p.getD 1 0 = p1,p.getD 2 0 = p2,p.getD 3 0 = p3,p.getD 4 0 = p4,p.getD 5 0 = p5,p.getD 6 0 = p6 at *
  have HR:=Lib.hid hR2;have HK:=Lib.hid hKp;have HZ:=Lib.hid hpz2;have HP:=Lib.hid hpol;have HL:=Lib.hid hl;clear hR2 hKp hpz2 hpol hl
  go_enter Tryz.func114,Tryz.ntmps114
  go_upto_region 1 with fail
  refine nameW ?_;intro wv hwv;obtain ⟨b,hb⟩ : ∃ b,b = w.heap.size:=⟨_,rfl⟩;rw [← hb];rw [← hwv,← hb] at kb hbb;have hlv:=HL.out.below (B:=w.heap.size) (by rw [← hb];exact hbb);rw [← hb] at hlv;obtain ⟨c0,c1,_⟩:=ecells kb;have ha:=add0_any n q wv;have hbw:=hbb.size;have HBE:=Lib.hid hb;clear hwv hb HL;go_wp2_with fail
  --TAIL
  rcases hm : mayB (n,q) with _ | _
  · rw [hm] at ha
    refine ha.mono ?_;rintro e w2 ⟨sc,s9,s1,rfl,b2⟩;have hb2:=hbb.trans (b2.mono (by have:=kb.lt;omega));have kb2:=kb.below b2 kb.lt;have hl2:=hlv.below (b2.mono (by have:=kb.lt;omega));have S9:=Lib.hid s9;have SO:=Lib.hid s1;clear s9 s1 ha kb hlv c0 c1
    go_wp2_with ((with_reducible refine wpList_st rowS (Blk.new _ _ _) S9.out ?_ SO.out ?_ ?_ ?_);(rfl);rotate_left;(rfl);(rfl);intro w3 k3 g3 z3)
    have bx : Below w2.heap.size w2 w3:=((Below.refl _ _).alloc (Nat.le_refl _) _).grown g3 (by simp) (fun r hr=>by injection hr with hr;omega);have hb3:=hb2.trans (bx.mono (by have:=kb2.lt;omega));have kb3:=kb2.below bx kb2.lt;have hl3:=hl2.below (bx.mono (by have:=kb2.lt;omega));go_wp2_with fail;go_ret;refine ⟨?_,by rw [← HBE.out];exact hb3⟩;rw [HR.out,hm]
    rfl
  rw [hm] at ha;have HMY:=Lib.hid hm;clear hm;refine ha.mono ?_;rintro e w2 ⟨sc,s9,s1,rfl,b2⟩;have hb2:=hbb.trans (b2.mono (by have:=kb.lt;omega));have kb2:=kb.below b2 kb.lt;have hl2:=hlv.below (b2.mono (by have:=kb.lt;omega));have S9:=Lib.hid s9;have SO:=Lib.hid s1;clear s9 s1 ha kb hlv c0 c1
  go_wp2_with (
    (with_reducible refine wpList_st rowS (Blk.new _ _ _) S9.out ?_ SO.out ?_ ?_ ?_)
    (rfl)
    rotate_left
    (rfl)
    (rfl)
    intro w3 k3 g3 z3;have bx : Below w2.heap.size w2 w3:=((Below.refl _ _).alloc (Nat.le_refl _) _).grown g3 (by simp) (fun r hr=>by injection hr with hr;omega);have hb3:=hb2.trans (bx.mono (by have:=kb2.lt;omega));have kb3:=kb2.below bx kb2.lt;have hl3:=hl2.below (bx.mono (by have:=kb2.lt;omega));have hs3:=kb3.lt;obtain ⟨c0,c1,c2,c3,c4,c5,c6,c7,c8,c9,c10,c11,c12,c13⟩:=ecells kb3;have KB:=Lib.hid kb3
    clear k3 g3 z3 kb2 hl2 bx S9 SO kb3)
  refine (within_any _ _ _ _).mono ?_;rintro e w4 ⟨rfl,rfl⟩
  rcases ht : inB t 1 1099511627776 with _ | _
  · go_wp2_with fail
    go_ret;refine ⟨?_,by rw [← HBE.out];exact hb3⟩;rw [HR.out,HMY.out,show inB t 1 top = false from ht]
    rfl
  go_wp2_with fail;refine (within_any _ _ _ _).mono ?_;rintro e w4 ⟨rfl,rfl⟩
  rcases hwk : inB wk 0 7 with _ | _
  · go_wp2_with fail
    go_ret;refine ⟨?_,by rw [← HBE.out];exact hb3⟩;rw [HR.out,HMY.out,show inB t 1 top = true from ht,hwk]
    rfl
  by_cases hlen : 96 < m
  · have hlen' : (96 : Int) < (m : Int):=by omega
    go_wp2_with fail;go_ret;refine ⟨?_,by rw [← HBE.out];exact hb3⟩;rw [HR.out,HMY.out,show inB t 1 top = true from ht,hwk,decide_eq_false (by have:=HM.out;omega)]
    rfl
  have hlen' : decide ((96 : Int) < (m : Int)) = false:=decide_eq_false (by omega);go_wp2_with fail;refine (named_any n q A m c l w3 (hl3.more (by omega)) (by omega)).mono ?_;rintro e w4 ⟨rfl,b4⟩;have kb4:=KB.out.below b4 KB.out.lt;have hb4:=hb3.trans (b4.mono (by omega));clear KB c0 c1 c2 c3 c4 c5 c6 c7 c8 c9 c10 c11 c12 c13 hl3;obtain ⟨c0,c1,c2,c3,c4,c5,c6,c7,c8,c9,c10,c11,c12,c13⟩:=ecells kb4
  rcases hnm : namedB (n,q) l with _ | _
  · go_wp2_with fail
    go_ret;refine ⟨?_,by rw [← HBE.out];exact hb4⟩;rw [HR.out,HMY.out,show inB t 1 top = true from ht,hwk,decide_eq_true (by have:=HM.out;omega),hnm]
    rfl
  have hRK : R = K:=by
    rw [HR.out,HMY.out,show inB t 1 top = true from ht,hwk,decide_eq_true (by have:=HM.out;omega),hnm]
    rfl
  have HS4:=Lib.hid kb4.lt;clear HR HMY ht hwk hnm kb4 b4 hb3;have HB4:=Lib.hid hb4;have hs4 : b < w4.heap.size:=HS4.out;clear hb4
  by_cases hp0 : p0 = 0
  rotate_left
  · have hz : PZ = false:=by rw [HZ.out,decide_eq_false_iff_not];omega
    go_upto_region 7 with fail
    clear hp0
    by_cases k1 : k = 1
    · have hKv:=HK.out
      rw [if_pos k1] at hKv;clear HK;have HK:=Lib.hid hKv;clear hKv;subst k1;go_wp2_with fail;go_ret;refine ⟨?_,by rw [← HBE.out];exact HB4.out⟩;rw [hRK,HK.out,hz]
      rfl
    by_cases k2 : k = 2
    · have hKv:=HK.out
      rw [if_neg k1,if_pos k2] at hKv;clear HK;have HK:=Lib.hid hKv;clear hKv;subst k2;clear k1;go_wp2_with fail;refine (HP.out _).mono ?_;rintro e w5 ⟨rfl,b5⟩;have hb5:=HB4.out.trans (b5.mono (by have:=HB4.out.size;omega))
      rcases PB with _ | _
      · have c5' : w5.cell? ⟨b,5,none⟩ = some (.int .i64 v):=by rw [b5.cell (by omega)];exact c5
        go_wp2_with fail;go_ret;refine ⟨?_,by rw [← HBE.out];exact hb5⟩;rw [hRK,HK.out]
        rfl
      have c5' : w5.cell? ⟨b,5,none⟩ = some (.int .i64 v):=by rw [b5.cell (by omega)];exact c5
      by_cases hv : v = 0
      · have hKv:=HK.out
        rw [decide_eq_true hv] at hKv;clear HK;have HK:=Lib.hid hKv;clear hKv;subst hv;go_wp2_with fail;go_ret;refine ⟨?_,by rw [← HBE.out];exact hb5⟩;rw [hRK,HK.out]
        rfl
      have hv2 : (v == (0 : Int)) = false:=by rw [beq_eq_false_iff_ne];exact hv
      go_wp2_with fail;go_ret;refine ⟨?_,by rw [← HBE.out];exact hb5⟩;rw [hRK,HK.out,decide_eq_false hv]
      rfl
    by_cases k3 : k = 3
    · have hKv:=HK.out
      rw [if_neg k1,if_neg k2,if_pos k3] at hKv;clear HK;have HK:=Lib.hid hKv;clear hKv;subst k3;clear k1 k2;go_wp2_with fail;go_ret;refine ⟨?_,by rw [← HBE.out];exact HB4.out⟩;rw [hRK,HK.out,hz]
      rfl
    go_wp2_with fail;go_ret;refine ⟨?_,by rw [← HBE.out];exact HB4.out⟩;rw [hRK,HK.out,if_neg k1,if_neg k2,if_neg k3]
    rfl
  subst hp0
  by_cases hp1 : p1 = 0
  rotate_left
  · have hz : PZ = false:=by rw [HZ.out,decide_eq_false_iff_not];omega
    go_upto_region 7 with fail
    clear hp1
    by_cases k1 : k = 1
    · have hKv:=HK.out
      rw [if_pos k1] at hKv;clear HK;have HK:=Lib.hid hKv;clear hKv;subst k1;go_wp2_with fail;go_ret;refine ⟨?_,by rw [← HBE.out];exact HB4.out⟩;rw [hRK,HK.out,hz]
      rfl
    by_cases k2 : k = 2
    · have hKv:=HK.out
      rw [if_neg k1,if_pos k2] at hKv;clear HK;have HK:=Lib.hid hKv;clear hKv;subst k2;clear k1;go_wp2_with fail;refine (HP.out _).mono ?_;rintro e w5 ⟨rfl,b5⟩;have hb5:=HB4.out.trans (b5.mono (by have:=HB4.out.size;omega))
      rcases PB with _ | _
      · have c5' : w5.cell? ⟨b,5,none⟩ = some (.int .i64 v):=by rw [b5.cell (by omega)];exact c5
        go_wp2_with fail;go_ret;refine ⟨?_,by rw [← HBE.out];exact hb5⟩;rw [hRK,HK.out]
        rfl
      have c5' : w5.cell? ⟨b,5,none⟩ = some (.int .i64 v):=by rw [b5.cell (by omega)];exact c5
      by_cases hv : v = 0
      · have hKv:=HK.out
        rw [decide_eq_true hv] at hKv;clear HK;have HK:=Lib.hid hKv;clear hKv;subst hv;go_wp2_with fail;go_ret;refine ⟨?_,by rw [← HBE.out];exact hb5⟩;rw [hRK,HK.out]
        rfl
      have hv2 : (v == (0 : Int)) = false:=by rw [beq_eq_false_iff_ne];exact hv
      go_wp2_with fail;go_ret;refine ⟨?_,by rw [← HBE.out];exact hb5⟩;rw [hRK,HK.out,decide_eq_false hv]
      rfl
    by_cases k3 : k = 3
    · have hKv:=HK.out
      rw [if_neg k1,if_neg k2,if_pos k3] at hKv;clear HK;have HK:=Lib.hid hKv;clear hKv;subst k3;clear k1 k2;go_wp2_with fail;go_ret;refine ⟨?_,by rw [← HBE.out];exact HB4.out⟩;rw [hRK,HK.out,hz]
      rfl
    go_wp2_with fail;go_ret;refine ⟨?_,by rw [← HBE.out];exact HB4.out⟩;rw [hRK,HK.out,if_neg k1,if_neg k2,if_neg k3]
    rfl
  subst hp1
  by_cases hp2 : p2 = 0
  rotate_left
  · have hz : PZ = false:=by rw [HZ.out,decide_eq_false_iff_not];omega
    go_upto_region 7 with fail
    clear hp2
    by_cases k1 : k = 1
    · have hKv:=HK.out
      rw [if_pos k1] at hKv;clear HK;have HK:=Lib.hid hKv;clear hKv;subst k1;go_wp2_with fail;go_ret;refine ⟨?_,by rw [← HBE.out];exact HB4.out⟩;rw [hRK,HK.out,hz]
      rfl
    by_cases k2 : k = 2
    · have hKv:=HK.out
      rw [if_neg k1,if_pos k2] at hKv;clear HK;have HK:=Lib.hid hKv;clear hKv;subst k2;clear k1;go_wp2_with fail;refine (HP.out _).mono ?_;rintro e w5 ⟨rfl,b5⟩;have hb5:=HB4.out.trans (b5.mono (by have:=HB4.out.size;omega))
      rcases PB with _ | _
      · have c5' : w5.cell? ⟨b,5,none⟩ = some (.int .i64 v):=by rw [b5.cell (by omega)];exact c5
        go_wp2_with fail;go_ret;refine ⟨?_,by rw [← HBE.out];exact hb5⟩;rw [hRK,HK.out]
        rfl
      have c5' : w5.cell? ⟨b,5,none⟩ = some (.int .i64 v):=by rw [b5.cell (by omega)];exact c5
      by_cases hv : v = 0
      · have hKv:=HK.out
        rw [decide_eq_true hv] at hKv;clear HK;have HK:=Lib.hid hKv;clear hKv;subst hv;go_wp2_with fail;go_ret;refine ⟨?_,by rw [← HBE.out];exact hb5⟩;rw [hRK,HK.out]
        rfl
      have hv2 : (v == (0 : Int)) = false:=by rw [beq_eq_false_iff_ne];exact hv
      go_wp2_with fail;go_ret;refine ⟨?_,by rw [← HBE.out];exact hb5⟩;rw [hRK,HK.out,decide_eq_false hv]
      rfl
    by_cases k3 : k = 3
    · have hKv:=HK.out
      rw [if_neg k1,if_neg k2,if_pos k3] at hKv;clear HK;have HK:=Lib.hid hKv;clear hKv;subst k3;clear k1 k2;go_wp2_with fail;go_ret;refine ⟨?_,by rw [← HBE.out];exact HB4.out⟩;rw [hRK,HK.out,hz]
      rfl
    go_wp2_with fail;go_ret;refine ⟨?_,by rw [← HBE.out];exact HB4.out⟩;rw [hRK,HK.out,if_neg k1,if_neg k2,if_neg k3]
    rfl
  subst hp2
  by_cases hp3 : p3 = 0
  rotate_left
  · have hz : PZ = false:=by rw [HZ.out,decide_eq_false_iff_not];omega
    go_upto_region 7 with fail
    clear hp3
    by_cases k1 : k = 1
    · have hKv:=HK.out
      rw [if_pos k1] at hKv;clear HK;have HK:=Lib.hid hKv;clear hKv;subst k1;go_wp2_with fail;go_ret;refine ⟨?_,by rw [← HBE.out];exact HB4.out⟩;rw [hRK,HK.out,hz]
      rfl
    by_cases k2 : k = 2
    · have hKv:=HK.out
      rw [if_neg k1,if_pos k2] at hKv;clear HK;have HK:=Lib.hid hKv;clear hKv;subst k2;clear k1;go_wp2_with fail;refine (HP.out _).mono ?_;rintro e w5 ⟨rfl,b5⟩;have hb5:=HB4.out.trans (b5.mono (by have:=HB4.out.size;omega))
      rcases PB with _ | _
      · have c5' : w5.cell? ⟨b,5,none⟩ = some (.int .i64 v):=by rw [b5.cell (by omega)];exact c5
        go_wp2_with fail;go_ret;refine ⟨?_,by rw [← HBE.out];exact hb5⟩;rw [hRK,HK.out]
        rfl
      have c5' : w5.cell? ⟨b,5,none⟩ = some (.int .i64 v):=by rw [b5.cell (by omega)];exact c5
      by_cases hv : v = 0
      · have hKv:=HK.out
        rw [decide_eq_true hv] at hKv;clear HK;have HK:=Lib.hid hKv;clear hKv;subst hv;go_wp2_with fail;go_ret;refine ⟨?_,by rw [← HBE.out];exact hb5⟩;rw [hRK,HK.out]
        rfl
      have hv2 : (v == (0 : Int)) = false:=by rw [beq_eq_false_iff_ne];exact hv
      go_wp2_with fail;go_ret;refine ⟨?_,by rw [← HBE.out];exact hb5⟩;rw [hRK,HK.out,decide_eq_false hv]
      rfl
    by_cases k3 : k = 3
    · have hKv:=HK.out
      rw [if_neg k1,if_neg k2,if_pos k3] at hKv;clear HK;have HK:=Lib.hid hKv;clear hKv;subst k3;clear k1 k2;go_wp2_with fail;go_ret;refine ⟨?_,by rw [← HBE.out];exact HB4.out⟩;rw [hRK,HK.out,hz]
      rfl
    go_wp2_with fail;go_ret;refine ⟨?_,by rw [← HBE.out];exact HB4.out⟩;rw [hRK,HK.out,if_neg k1,if_neg k2,if_neg k3]
    rfl
  subst hp3
  by_cases hp4 : p4 = 0
  rotate_left
  · have hz : PZ = false:=by rw [HZ.out,decide_eq_false_iff_not];omega
    go_upto_region 7 with fail
    clear hp4
    by_cases k1 : k = 1
    · have hKv:=HK.out
      rw [if_pos k1] at hKv;clear HK;have HK:=Lib.hid hKv;clear hKv;subst k1;go_wp2_with fail;go_ret;refine ⟨?_,by rw [← HBE.out];exact HB4.out⟩;rw [hRK,HK.out,hz]
      rfl
    by_cases k2 : k = 2
    · have hKv:=HK.out
      rw [if_neg k1,if_pos k2] at hKv;clear HK;have HK:=Lib.hid hKv;clear hKv;subst k2;clear k1;go_wp2_with fail;refine (HP.out _).mono ?_;rintro e w5 ⟨rfl,b5⟩;have hb5:=HB4.out.trans (b5.mono (by have:=HB4.out.size;omega))
      rcases PB with _ | _
      · have c5' : w5.cell? ⟨b,5,none⟩ = some (.int .i64 v):=by rw [b5.cell (by omega)];exact c5
        go_wp2_with fail;go_ret;refine ⟨?_,by rw [← HBE.out];exact hb5⟩;rw [hRK,HK.out]
        rfl
      have c5' : w5.cell? ⟨b,5,none⟩ = some (.int .i64 v):=by rw [b5.cell (by omega)];exact c5
      by_cases hv : v = 0
      · have hKv:=HK.out
        rw [decide_eq_true hv] at hKv;clear HK;have HK:=Lib.hid hKv;clear hKv;subst hv;go_wp2_with fail;go_ret;refine ⟨?_,by rw [← HBE.out];exact hb5⟩;rw [hRK,HK.out]
        rfl
      have hv2 : (v == (0 : Int)) = false:=by rw [beq_eq_false_iff_ne];exact hv
      go_wp2_with fail;go_ret;refine ⟨?_,by rw [← HBE.out];exact hb5⟩;rw [hRK,HK.out,decide_eq_false hv]
      rfl
    by_cases k3 : k = 3
    · have hKv:=HK.out
      rw [if_neg k1,if_neg k2,if_pos k3] at hKv;clear HK;have HK:=Lib.hid hKv;clear hKv;subst k3;clear k1 k2;go_wp2_with fail;go_ret;refine ⟨?_,by rw [← HBE.out];exact HB4.out⟩;rw [hRK,HK.out,hz]
      rfl
    go_wp2_with fail;go_ret;refine ⟨?_,by rw [← HBE.out];exact HB4.out⟩;rw [hRK,HK.out,if_neg k1,if_neg k2,if_neg k3]
    rfl
  subst hp4
  by_cases hp5 : p5 = 0
  rotate_left
  · have hz : PZ = false:=by rw [HZ.out,decide_eq_false_iff_not];omega
    go_upto_region 7 with fail
    clear hp5
    by_cases k1 : k = 1
    · have hKv:=HK.out
      rw [if_pos k1] at hKv;clear HK;have HK:=Lib.hid hKv;clear hKv;subst k1;go_wp2_with fail;go_ret;refine ⟨?_,by rw [← HBE.out];exact HB4.out⟩;rw [hRK,HK.out,hz]
      rfl
    by_cases k2 : k = 2
    · have hKv:=HK.out
      rw [if_neg k1,if_pos k2] at hKv;clear HK;have HK:=Lib.hid hKv;clear hKv;subst k2;clear k1;go_wp2_with fail;refine (HP.out _).mono ?_;rintro e w5 ⟨rfl,b5⟩;have hb5:=HB4.out.trans (b5.mono (by have:=HB4.out.size;omega))
      rcases PB with _ | _
      · have c5' : w5.cell? ⟨b,5,none⟩ = some (.int .i64 v):=by rw [b5.cell (by omega)];exact c5
        go_wp2_with fail;go_ret;refine ⟨?_,by rw [← HBE.out];exact hb5⟩;rw [hRK,HK.out]
        rfl
      have c5' : w5.cell? ⟨b,5,none⟩ = some (.int .i64 v):=by rw [b5.cell (by omega)];exact c5
      by_cases hv : v = 0
      · have hKv:=HK.out
        rw [decide_eq_true hv] at hKv;clear HK;have HK:=Lib.hid hKv;clear hKv;subst hv;go_wp2_with fail;go_ret;refine ⟨?_,by rw [← HBE.out];exact hb5⟩;rw [hRK,HK.out]
        rfl
      have hv2 : (v == (0 : Int)) = false:=by rw [beq_eq_false_iff_ne];exact hv
      go_wp2_with fail;go_ret;refine ⟨?_,by rw [← HBE.out];exact hb5⟩;rw [hRK,HK.out,decide_eq_false hv]
      rfl
    by_cases k3 : k = 3
    · have hKv:=HK.out
      rw [if_neg k1,if_neg k2,if_pos k3] at hKv;clear HK;have HK:=Lib.hid hKv;clear hKv;subst k3;clear k1 k2;go_wp2_with fail;go_ret;refine ⟨?_,by rw [← HBE.out];exact HB4.out⟩;rw [hRK,HK.out,hz]
      rfl
    go_wp2_with fail;go_ret;refine ⟨?_,by rw [← HBE.out];exact HB4.out⟩;rw [hRK,HK.out,if_neg k1,if_neg k2,if_neg k3]
    rfl
  subst hp5
  by_cases hp6 : p6 = 0
  rotate_left
  · have hz : PZ = false:=by rw [HZ.out,decide_eq_false_iff_not];omega
    go_upto_region 7 with fail
    clear hp6
    by_cases k1 : k = 1
    · have hKv:=HK.out
      rw [if_pos k1] at hKv;clear HK;have HK:=Lib.hid hKv;clear hKv;subst k1;go_wp2_with fail;go_ret;refine ⟨?_,by rw [← HBE.out];exact HB4.out⟩;rw [hRK,HK.out,hz]
      rfl
    by_cases k2 : k = 2
    · have hKv:=HK.out
      rw [if_neg k1,if_pos k2] at hKv;clear HK;have HK:=Lib.hid hKv;clear hKv;subst k2;clear k1;go_wp2_with fail;refine (HP.out _).mono ?_;rintro e w5 ⟨rfl,b5⟩;have hb5:=HB4.out.trans (b5.mono (by have:=HB4.out.size;omega))
      rcases PB with _ | _
      · have c5' : w5.cell? ⟨b,5,none⟩ = some (.int .i64 v):=by rw [b5.cell (by omega)];exact c5
        go_wp2_with fail;go_ret;refine ⟨?_,by rw [← HBE.out];exact hb5⟩;rw [hRK,HK.out]
        rfl
      have c5' : w5.cell? ⟨b,5,none⟩ = some (.int .i64 v):=by rw [b5.cell (by omega)];exact c5
      by_cases hv : v = 0
      · have hKv:=HK.out
        rw [decide_eq_true hv] at hKv;clear HK;have HK:=Lib.hid hKv;clear hKv;subst hv;go_wp2_with fail;go_ret;refine ⟨?_,by rw [← HBE.out];exact hb5⟩;rw [hRK,HK.out]
        rfl
      have hv2 : (v == (0 : Int)) = false:=by rw [beq_eq_false_iff_ne];exact hv
      go_wp2_with fail;go_ret;refine ⟨?_,by rw [← HBE.out];exact hb5⟩;rw [hRK,HK.out,decide_eq_false hv]
      rfl
    by_cases k3 : k = 3
    · have hKv:=HK.out
      rw [if_neg k1,if_neg k2,if_pos k3] at hKv;clear HK;have HK:=Lib.hid hKv;clear hKv;subst k3;clear k1 k2;go_wp2_with fail;go_ret;refine ⟨?_,by rw [← HBE.out];exact HB4.out⟩;rw [hRK,HK.out,hz]
      rfl
    go_wp2_with fail;go_ret;refine ⟨?_,by rw [← HBE.out];exact HB4.out⟩;rw [hRK,HK.out,if_neg k1,if_neg k2,if_neg k3]
    rfl
  subst hp6
  have hz : PZ = true:=by rw [HZ.out];simp
  go_upto_region 7 with fail
  by_cases k1 : k = 1
  · have hKv:=HK.out
    rw [if_pos k1] at hKv;clear HK;have HK:=Lib.hid hKv;clear hKv;subst k1;go_wp2_with fail;refine (within_any _ _ _ _).mono ?_;rintro e w5 ⟨rfl,rfl⟩
    rcases hv : inB v 0 1099511627776 with _ | _
    · skip
      go_wp2_with fail;go_ret;refine ⟨?_,by rw [← HBE.out];exact HB4.out⟩;rw [hRK,HK.out,hz,show inB v 0 top = false from hv]
      rfl
    by_cases hm0 : m = 0
    · subst hm0
      have hl0 : l = []:=List.length_eq_zero_iff.1 HM.out.symm;go_wp2_with fail;go_ret;refine ⟨?_,by rw [← HBE.out];exact HB4.out⟩;rw [hRK,HK.out,hz,show inB v 0 top = true from hv,decide_eq_true hl0]
      rfl
    have hl0 : ¬ l = []:=fun h=>hm0 (by rw [HM.out,h];rfl)
    have hm1 : ((m : Int) == (0 : Int)) = false:=by rw [beq_eq_false_iff_ne];omega
    go_wp2_with fail;go_ret;refine ⟨?_,by rw [← HBE.out];exact HB4.out⟩;rw [hRK,HK.out,hz,show inB v 0 top = true from hv,decide_eq_false hl0]
    rfl
  by_cases k2 : k = 2
  · have hKv:=HK.out
    rw [if_neg k1,if_pos k2] at hKv;clear HK;have HK:=Lib.hid hKv;clear hKv;subst k2;clear k1;go_wp2_with fail;refine (HP.out _).mono ?_;rintro e w5 ⟨rfl,b5⟩;have hb5:=HB4.out.trans (b5.mono (by have:=HB4.out.size;omega))
    rcases PB with _ | _
    · have c5' : w5.cell? ⟨b,5,none⟩ = some (.int .i64 v):=by rw [b5.cell (by omega)];exact c5
      go_wp2_with fail;go_ret;refine ⟨?_,by rw [← HBE.out];exact hb5⟩;rw [hRK,HK.out]
      rfl
    have c5' : w5.cell? ⟨b,5,none⟩ = some (.int .i64 v):=by rw [b5.cell (by omega)];exact c5
    by_cases hv : v = 0
    · have hKv:=HK.out
      rw [decide_eq_true hv] at hKv;clear HK;have HK:=Lib.hid hKv;clear hKv;subst hv;go_wp2_with fail;go_ret;refine ⟨?_,by rw [← HBE.out];exact hb5⟩;rw [hRK,HK.out]
      rfl
    have hv2 : (v == (0 : Int)) = false:=by rw [beq_eq_false_iff_ne];exact hv
    go_wp2_with fail;go_ret;refine ⟨?_,by rw [← HBE.out];exact hb5⟩;rw [hRK,HK.out,decide_eq_false hv]
    rfl
  by_cases k3 : k = 3
  · have hKv:=HK.out
    rw [if_neg k1,if_neg k2,if_pos k3] at hKv;clear HK;have HK:=Lib.hid hKv;clear hKv;subst k3;clear k1 k2
    by_cases hv : v = 0
    · have hKv:=HK.out
      rw [decide_eq_true hv] at hKv;clear HK;have HK:=Lib.hid hKv;clear hKv;subst hv;go_wp2_with fail;go_ret;refine ⟨?_,by rw [← HBE.out];exact HB4.out⟩;rw [hRK,HK.out,hz]
      rfl
    have hv2 : (v == (0 : Int)) = false:=by rw [beq_eq_false_iff_ne];exact hv
    go_wp2_with fail;go_ret;refine ⟨?_,by rw [← HBE.out];exact HB4.out⟩;rw [hRK,HK.out,hz,decide_eq_false hv]
    rfl
  go_wp2_with fail;go_ret;refine ⟨?_,by rw [← HBE.out];exact HB4.out⟩;rw [hRK,HK.out,if_neg k1,if_neg k2,if_neg k3]
  rfl
end Go.Proofs.YtfpenfgmpbdakaaGreat

namespace Go.Proofs.YtfpenfgmpbdakaaGreat
set_option linter.unusedVariables false
set_option linter.unusedSimpArgs false
set_option maxRecDepth 100000
open Go.RowKit
open Dot Evt
section
variable {P : Program}
theorem run_loadVar_at (w : World) (a : Addr) (ty : TypeId) (cs : List Value) (d : TypeDesc) (hc : ∀ (j : Nat) v,cs[j]? = some v→w.cell? (a.add j) = some v)
    (hu : P.underlying ty = some d) (hd : d.isRow = true) (hi : (P.info? ty).map (·.size) = some cs.length) :
    (loadVar ty a).run P w = .ok (.agg cs.toArray) w:=by
  have hl : (loadCells a cs.length).run P w = .ok cs.toArray w:=run_loadCells_list (P:=P) w a cs hc
  cases hq : P.info? ty with
  | none=>simp [hq] at hi
  | some i =>
    have hs : i.size = cs.length:=by simpa [hq] using hi
    have hagg : (isAgg ty).run P w = .ok true w:=by
      unfold isAgg
      rw [Sem.run_bind,run_underlying hu w]
      cases d <;> simp_all
    simp [loadVar,Sem.run_bind,hagg,sizeOf,typeInfo,hq,hs,hl]
theorem wpList_lda {ops : Array Oper} {rest : List Oper} {a : Act} {w : World} {Q : Exit→Act→World→Prop} {d : Option Tmp} {ty T : TypeId} {pos : String} {aft : Array Edge} {x : Operand} {ad : Addr} {n : Nat} {cs : Array Value} (hR : RowT P T n)
    (hc : ∀ (j : Nat) v,cs[j]? = some v→w.cell? (ad.add j) = some v) (hn : cs.size = n)
    (h : wpList P ops Q rest (a.put d (.agg cs)) w) (hx : a.eval x = .pointer (some ad)) : wpList P ops Q (⟨d,.load T x,ty,pos,aft,none⟩ :: rest) a w:=by
  obtain ⟨e,hu,hd,hi⟩:=hR;rw [← hn,← Array.length_toList] at hi
  have hcl : ∀ (j : Nat) v,cs.toList[j]? = some v→w.cell? (ad.add j) = some v:=fun j v hj=>hc j v (by simpa using hj)
  refine wpList_plain rfl fun _ hK=>?_
  unfold Oper.wp execOp
  simp only [hx,Instr.loadAt,Instr.sureAddr,Sem.run_bind,Sem.run_pure,Result.andThen_ok,run_loadVar_at w ad T cs.toList e hcl hu hd hi,Array.toArray_toList]
  exact hK _ _ h
end
structure EvV where
  e : Ev
  A : Option Addr
  m : Nat
  c : Nat
def EvV.cs (x : EvV) : Array Value:=ec x.e (.slice x.A x.m x.c)
theorem EvV.size (x : EvV) : x.cs.size = 14:=rfl
theorem EvV.one (x : EvV) : x.cs.all (·.oneCell') = true:=ec_one _ _ _ _
def EvOk (w : World) (B : Nat) (x : EvV) : Prop:=x.e.p.length = 7∧RdD w B x.A x.m x.e.l∧x.m≤10000000000000
def RowEv (w : World) (B : Nat) (A : Option Addr) (n : Nat) (xs : List EvV) : Prop :=
  n = xs.length∧∀ i x,xs[i]? = some x→EvOk w B x∧∃ ad,A = some ad∧ad.block < B∧∀ (j : Nat) v,x.cs[j]? = some v→w.cell? ((ad.add (i * 14)).add j) = some v
section
variable {w w' : World} {B B' : Nat} {A : Option Addr} {n : Nat} {xs : List EvV} {x : EvV}
theorem EvOk.below (h : EvOk w B x) (hb : Below B w w') : EvOk w' B x:=⟨h.1,h.2.1.below hb,h.2.2⟩
theorem EvOk.more (h : EvOk w B x) (hB : B≤B') : EvOk w B' x:=⟨h.1,h.2.1.more hB,h.2.2⟩
theorem RowEv.below (h : RowEv w B A n xs) (hb : Below B w w') : RowEv w' B A n xs:=⟨h.1,fun i x hi=>by
  obtain ⟨h1,ad,e,h2,h3⟩:=h.2 i x hi
  exact ⟨h1.below hb,ad,e,h2,fun j v hv=>(hb.cell (by rw [block_add,block_add];exact h2)).trans (h3 j v hv)⟩⟩
theorem RowEv.more (h : RowEv w B A n xs) (hB : B≤B') : RowEv w B' A n xs:=⟨h.1,fun i x hi=>by
  obtain ⟨h1,ad,e,h2,h3⟩:=h.2 i x hi
  exact ⟨h1.more hB,ad,e,by omega,h3⟩⟩
theorem RowEv.nil (w : World) (B : Nat) (A : Option Addr) : RowEv w B A 0 []:=⟨rfl,fun i d hi=>by simp at hi⟩
end
theorem wrap_one (m : Nat) (h : m≤10000000000000) : wrap64 (1 + (m : Int)) = 1 + (m : Int):=IntWalk.wrap64_in _ ⟨by omega,by omega⟩
theorem wrap_two (S m : Nat) (hs : S≤3000) (h : m≤10000000000000) : wrap64 ((S : Int) + (1 + (m : Int))) = (S : Int) + (1 + (m : Int)):=IntWalk.wrap64_in _ ⟨by omega,by omega⟩
theorem cast_two (S m : Nat) : Value.int .i64 ((S : Int) + (1 + (m : Int))) = .int .i64 ((S + (1 + m) : Nat) : Int):=by
  rw [Int.natCast_add,Int.natCast_add]
  rfl
def evSum (xs : List EvV) : Nat:=(xs.map fun x=>1 + x.m).sum
theorem evSum_take (xs : List EvV) {k : Nat} (h : k < xs.length) : evSum (xs.take (k + 1)) = evSum (xs.take k) + (1 + xs[k].m):=by
  unfold evSum
  rw [take_snoc xs h,List.map_append,List.sum_append]
  simp
set_option maxRecDepth 100000 in
set_option maxHeartbeats 2000000 in
theorem egreat_any (A : Option Addr) (n c : Nat) (xs : List EvV) (B : Nat) (w : World) (hn : n≤4611686018427387904) (hR : RowEv w B A n xs) (hB : B≤w.heap.size) :
    Calls Tryz.prog 33 #[.slice A n c] w fun e w'=>(∃ G,e = .returned (.bool G)∧(G = false→evSum xs≤3000))∧Below w.heap.size w w':=by
  have HN:=Lib.hid hR.1;have HNB:=Lib.hid hn
  have hRk:=fun (w' : World) (hb : Below w.heap.size w w')=>hR.below (hb.mono hB)
  have HRK:=Lib.hid hRk;clear hRk hn hR
  go_enter Tryz.func33,Tryz.ntmps33
  go_wp2_with fail
  go_loopw [3,8] (fun s i wr=>∃ k : Nat,k≤n∧i = .int .i64 k∧s = .int .i64 (evSum (xs.take k) : Nat)∧evSum (xs.take k)≤3000∧Below w.heap.size w wr) (fun _ i _=>n - (intOf i).toNat)
  case atStart=>exact ⟨0,by omega,rfl,rfl,by simp [evSum],Below.refl _ _⟩
  case round =>
    obtain ⟨k,hk,rfl,rfl,hs,gb⟩:=hrel
    by_cases hlt : k < n
    · have hkl : k < xs.length:=by rw [← HN.out];exact hlt
      obtain ⟨hok,ad,hA,hab,hcell⟩:=(HRK.out wr gb).2 k _ (List.getElem?_eq_getElem hkl);have hst:=evSum_take xs hkl
      generalize xs[k] = x at *
      subst hA;have hml : x.m≤10000000000000:=hok.2.2;obtain ⟨S,hS⟩ : ∃ S,S = evSum (xs.take k):=⟨_,rfl⟩;rw [← hS] at hs hst ⊢;have HST:=Lib.hid hst;have hw1:=wrap_one x.m hml;have hw2:=wrap_two S x.m hs hml;obtain ⟨cs,hcs⟩ : ∃ cs,cs = x.cs:=⟨_,rfl⟩;rw [← hcs] at hcell;have HSZ:=Lib.hid (show cs.size = 14 by rw [hcs];rfl);have H1C:=Lib.hid (show cs.all (·.oneCell') = true by rw [hcs];exact x.one);have X13:=Lib.hid (show cs[13]? = some (.slice x.A x.m x.c) by rw [hcs];rfl);have HC:=Lib.hid hcell
      have hk0 : (0 : Int)≤(k : Int):=by omega
      have hkm : (k : Int) < (n : Int):=by omega
      clear hst hml hcs hcell hok hS
      go_upto_region 4 with fail
      go_upto_region 5 with first
        | ((with_reducible refine wpList_lda rowE HC.out HSZ.out ?_ ?_);rotate_left;(rfl))
        | ((with_reducible refine wpList_st rowE (Blk.new _ _ _) HSZ.out ?_ H1C.out ?_ ?_ ?_);(rfl);rotate_left;(rfl);(rfl);intro w6 k6 g6 z6)
      have bA : Below wr.heap.size wr w6:=(((Below.refl _ _).alloc (Nat.le_refl _) _).grown g6 (by simp) (fun q hq=>by injection hq with hq;omega));have gb6:=gb.trans (bA.mono gb.size);obtain ⟨gr,hgr2⟩ : ∃ gr,gr = wr.heap.size:=⟨_,rfl⟩;rw [← hgr2] at k6 ⊢;have t13 : w6.cell? ⟨gr,13,none⟩ = some (.slice x.A x.m x.c):=(k6.cell 13).trans X13.out;clear hgr2 g6 z6 bA gb k6
      by_cases hbig : 3000 < S + (1 + x.m)
      · have hd : decide ((3000 : Int) < (S : Int) + (1 + (x.m : Int))) = true:=decide_eq_true (by omega)
        clear hbig;go_wp2_with fail;go_ret;exact ⟨⟨true,rfl,fun h=>by cases h⟩,gb6⟩
      · have hd : decide ((3000 : Int) < (S : Int) + (1 + (x.m : Int))) = false:=decide_eq_false (by omega)
        have HBG:=Lib.hid hbig;clear hbig;go_wp2_with fail
        go_roundw
        case rel=>exact ⟨k + 1,by omega,num_succ k (by have:=HNB.out;omega),by rw [HST.out,hw2];exact cast_two S x.m,by rw [HST.out];have:=HBG.out;omega,gb6⟩
        case measure=>exact meas_succ k n hlt (by have:=HNB.out;omega)
    · have hkd : decide ((k : Int) < (n : Int)) = false:=decide_eq_false (by omega)
      have hsx : evSum xs≤3000:=by rwa [List.take_of_length_le (by rw [← HN.out];omega)] at hs
      have HSX:=Lib.hid hsx;clear hsx hs;go_wp2_with fail;go_ret;exact ⟨⟨false,rfl,fun _=>HSX.out⟩,gb⟩
end Go.Proofs.YtfpenfgmpbdakaaGreat

namespace Go.Proofs.YtfpenfgmpbdakaaGreat
set_option linter.unusedVariables false
set_option linter.unusedSimpArgs false
set_option maxRecDepth 100000
open Go.RowKit
open Dot Evt
theorem grown_refl0 (w : World) (row : Option Nat) : w.grownBy w row:=⟨rfl,rfl,rfl,Nat.le_refl _,fun _ _ _=>rfl⟩
abbrev eflt (x : Int) : Value:=.iface 166 (.agg #[.int .i64 x])
theorem eframe15 (a f : Value) : (#[a] ++ (Array.replicate 14 undef).setIfInBounds 4 f : Array Value) = #[a,undef,undef,undef,undef,f,undef,undef,undef,undef,undef,undef,undef,undef,undef]:=by kernel_rfl
theorem eassert_flt (x : Int) (w : World) : (Instr.typeAssert (eflt x) 20 166 true).run Tryz.prog w = .ok (.tuple #[.agg #[.int .i64 x],.bool true]) w:=by kernel_rfl
theorem ecaught_panic (g : Nat) (x : Int) (older : List PanicEntry) (v : Value) (w : World) (h0 : w.cell? ⟨g,0,none⟩ = some v) (hf : w.frozen? ⟨g,0,none⟩ = false) :
    CallsD Tryz.prog 100 #[.pointer (some ⟨g,0,none⟩)] (.panicking ({ v:=eflt x,recovered:=false } :: older)) w fun e u' w' =>
      e = .returned (.tuple #[])∧u' = .panicking ({ v:=eflt x,recovered:=true } :: older)∧w' = (w.alloc (.cells #[.int .i64 x] 166)).setCell ⟨g,0,none⟩ (.int .i64 x):=by
  have ta:=eassert_flt x;have lt0:=World.block_lt_of_cell? w _ h0
  refine callsD_of_wpS Tryz.func100 rfl fun c₀ cs hu=>?_
  apply wpS_seq
  apply wpS_region
  simp [wpOpsS,go_sem,recoverD,hu,Tryz.ntmps100,Exit.thenS]
  refine wpS_of_wp ?_;rw [eframe15];go_wp2_with fail
  simp [bodyPostS,results,Tryz.results100]
theorem ecaught_none (g : Nat) (w : World) :
    CallsD Tryz.prog 100 #[.pointer (some ⟨g,0,none⟩)] .returning w fun e u' w'=>e = .returned (.tuple #[])∧u' = .returning∧w' = w:=by
  refine callsD_of_wpS Tryz.func100 rfl fun c₀ cs hu=>?_
  apply wpS_seq
  apply wpS_region
  simp [wpOpsS,go_sem,recoverD,hu,Tryz.ntmps100,Exit.thenS]
  refine wpS_of_wp ?_;rw [eframe15];go_wp2_with fail
  cases c₀
  simp_all [bodyPostS,results,Tryz.results100]
theorem wfail_any (g : Nat) (x : Int) (w : World) :
    Calls Tryz.prog 116 #[.pointer (some ⟨g,0,none⟩),.int .i64 x] w fun e w'=>e = .panicked [{ v:=eflt x,recovered:=false }]∧w = w':=by
  go_enter Tryz.func116,Tryz.ntmps116
  go_wp2_with fail;exact ⟨rfl,rfl,rfl⟩
def WrS (w : World) (g : Nat) (bs : List UInt8) : Prop:=∃ A n c,Blk w g 150 #[.slice A n c]∧OwnB w (g + 1) A n c bs
theorem WrS.lt {w : World} {g : Nat} {bs : List UInt8} (h : WrS w g bs) : g < w.heap.size:=by obtain ⟨A,n,c,h,_⟩:=h;exact h.lt
theorem WrS.alloc {w : World} {g : Nat} {bs : List UInt8} (h : WrS w g bs) (o : Obj) : WrS (w.alloc o) g bs:=by
  obtain ⟨A,n,c,h,h2⟩:=h;exact ⟨A,n,c,h.alloc o,h2.alloc o⟩
theorem WrS.below {w w' : World} {g : Nat} {bs : List UInt8} (h : WrS w g bs) (hb : Below w.heap.size w w') : WrS w' g bs:=by
  obtain ⟨A,n,c,h,h2⟩:=h;exact ⟨A,n,c,h.below hb h.lt,h2.below hb (Nat.le_refl _)⟩
theorem wnum_any (g : Nat) (p : Addr) (bs : List UInt8) (x : Nat) (w : World) (h : WrS w g bs) (hp : w.cell? p = some (.int .i64 x)) (hx : x≤1099511627776) (hl : bs.length≤140737488355000) :
    Calls Tryz.prog 162 #[.pointer (some ⟨g,0,none⟩),.pointer (some p)] w fun e w'=>e = .returned (.tuple #[])∧WrS w' g (bs ++ Vint.enc x)∧w.grownBy w' (some g):=by
  obtain ⟨A,n,c,hb,ho⟩:=h;have c0 : w.cell? ⟨g,0,none⟩ = some (.slice A n c):=hb.cell 0;have hpl : p.block < w.heap.size:=World.block_lt_of_cell? w _ hp;have HO:=Lib.hid ho;have HB:=Lib.hid hb;have HL:=Lib.hid (show n≤140737488355000 by rw [ho.1];exact hl);have hgl:=hb.lt;have hcal:=put_ok A n c bs x w.heap.size w.drew ho.rd (Nat.le_refl _) HL.out hx;have HC:=Lib.hid hcal;clear hb ho hl hcal
  go_enter Tryz.func162,Tryz.ntmps162
  go_wp2_with fail
  go_region_with (go_at_call 77;refine HC.out.mono ?_;rintro e w1 ⟨A1,n1,c1,rfl,ho1,b1⟩;have kb1 : Blk w1 g 150 #[.slice A n c]:=HB.out.drew.below b1 HB.out.lt;have c1' : w1.cell? ⟨g,0,none⟩ = some (.slice A n c):=kb1.cell 0;have f1:=kb1.free 0)
  all_goals (
    go_wp2_with fail
    go_end0
    refine ⟨rfl,⟨A1,n1,c1,kb1.set_ 0 _,?_⟩,?_⟩
    · refine (ho1.mono (by show g + 1≤w.heap.size;omega)).setFar ?_ _
      rcases A1 with _ | a
      · simp
      · have:=(ho1.lt a.block rfl).1
        have h2 : w.drew.heap.size = w.heap.size:=rfl
        simp
        omega
    · have hg:=only_below (grown_refl0 w.drew (some g)) b1
      have hg2 : w.grownBy w1 (some g):=⟨hg.os,hg.tape,hg.output,hg.size,hg.block⟩
      exact only_set hg2 _)
end Go.Proofs.YtfpenfgmpbdakaaGreat

namespace Go.Proofs.YtfpenfgmpbdakaaGreat
set_option linter.unusedVariables false
set_option linter.unusedSimpArgs false
set_option maxRecDepth 100000
open Go.RowKit
open Dot Evt
abbrev wnumV (g : Nat) : Value:=.func (.method "murmur/event.number") #[.iface 148 (.pointer (some ⟨g,0,none⟩))] #[]
def encN (l : List Nat) : List UInt8:=l.flatMap Vint.enc
theorem encN_cons (x : Nat) (l : List Nat) : encN (x :: l) = Vint.enc x ++ encN l:=by simp [encN]
theorem encN_app (k l : List Nat) : encN (k ++ l) = encN k ++ encN l:=by simp [encN]
theorem encF_len (f : Nat) : ∀ x,(Vint.encF f x).length≤f + 1:=by
  induction f with
  | zero=>intro x;simp [Vint.encF]
  | succ f ih =>
    intro x
    unfold Vint.encF
    split
    · simp
    · simp only [List.length_cons]
      have:=ih (x / 128)
      omega
theorem enc_len6 (x : Nat) : (Vint.enc x).length≤6:=encF_len 5 x
set_option maxRecDepth 100000 in
set_option maxHeartbeats 1000000 in
theorem polw_any (b g : Nat) (bs : List UInt8) (v0 v1 v2 v3 v4 v5 v13 : Value) (x0 x1 x2 x3 x4 x5 x6 : Nat) (w : World) (h : WrS w g bs) (hb : Blk w b 47 #[v0,v1,v2,v3,v4,v5,.int .i64 x0,.int .i64 x1,.int .i64 x2,.int .i64 x3,.int .i64 x4,.int .i64 x5,.int .i64 x6,v13]) (hne : b ≠ g)
    (h0 : x0≤1099511627776) (h1 : x1≤1099511627776) (h2 : x2≤1099511627776) (h3 : x3≤1099511627776) (h4 : x4≤1099511627776) (h5 : x5≤1099511627776) (h6 : x6≤1099511627776) (hl : bs.length≤140737488354000) :
    Calls Tryz.prog 122 #[.pointer (some ⟨b,6,none⟩),wnumV g] w fun e w'=>e = .returned (.tuple #[])∧WrS w' g (bs ++ encN [x0,x1,x2,x3,x4,x5,x6])∧w.grownBy w' (some g):=by
  have H0:=Lib.hid h0;have H1:=Lib.hid h1;have H2:=Lib.hid h2;have H3:=Lib.hid h3;have H4:=Lib.hid h4;have H5:=Lib.hid h5;have H6:=Lib.hid h6;have HL:=Lib.hid hl;have HNE:=Lib.hid (show (some g : Option Nat) ≠ some b by simp;omega);have hbl:=hb.lt
  have hm : ∀ w,(method 246 148 (.pointer (some ⟨g,0,none⟩)) "murmur/event.number").run Tryz.prog w = .ok (162,.pointer (some ⟨g,0,none⟩)) w:=fun w=>by kernel_rfl
  clear h0 h1 h2 h3 h4 h5 h6 hl hne
  have hix0 : ∀ w,(Instr.index 188 (.agg #[.pointer (some ⟨b,6,none⟩),.pointer (some ⟨b,7,none⟩),.pointer (some ⟨b,8,none⟩),.pointer (some ⟨b,9,none⟩),.pointer (some ⟨b,10,none⟩),.pointer (some ⟨b,11,none⟩),.pointer (some ⟨b,12,none⟩)]) (.int .i64 0)).run Tryz.prog w = .ok (.pointer (some ⟨b,6,none⟩)) w:=fun w=>by kernel_rfl
  have hix1 : ∀ w,(Instr.index 188 (.agg #[.pointer (some ⟨b,6,none⟩),.pointer (some ⟨b,7,none⟩),.pointer (some ⟨b,8,none⟩),.pointer (some ⟨b,9,none⟩),.pointer (some ⟨b,10,none⟩),.pointer (some ⟨b,11,none⟩),.pointer (some ⟨b,12,none⟩)]) (.int .i64 1)).run Tryz.prog w = .ok (.pointer (some ⟨b,7,none⟩)) w:=fun w=>by kernel_rfl
  have hix2 : ∀ w,(Instr.index 188 (.agg #[.pointer (some ⟨b,6,none⟩),.pointer (some ⟨b,7,none⟩),.pointer (some ⟨b,8,none⟩),.pointer (some ⟨b,9,none⟩),.pointer (some ⟨b,10,none⟩),.pointer (some ⟨b,11,none⟩),.pointer (some ⟨b,12,none⟩)]) (.int .i64 2)).run Tryz.prog w = .ok (.pointer (some ⟨b,8,none⟩)) w:=fun w=>by kernel_rfl
  have hix3 : ∀ w,(Instr.index 188 (.agg #[.pointer (some ⟨b,6,none⟩),.pointer (some ⟨b,7,none⟩),.pointer (some ⟨b,8,none⟩),.pointer (some ⟨b,9,none⟩),.pointer (some ⟨b,10,none⟩),.pointer (some ⟨b,11,none⟩),.pointer (some ⟨b,12,none⟩)]) (.int .i64 3)).run Tryz.prog w = .ok (.pointer (some ⟨b,9,none⟩)) w:=fun w=>by kernel_rfl
  have hix4 : ∀ w,(Instr.index 188 (.agg #[.pointer (some ⟨b,6,none⟩),.pointer (some ⟨b,7,none⟩),.pointer (some ⟨b,8,none⟩),.pointer (some ⟨b,9,none⟩),.pointer (some ⟨b,10,none⟩),.pointer (some ⟨b,11,none⟩),.pointer (some ⟨b,12,none⟩)]) (.int .i64 4)).run Tryz.prog w = .ok (.pointer (some ⟨b,10,none⟩)) w:=fun w=>by kernel_rfl
  have hix5 : ∀ w,(Instr.index 188 (.agg #[.pointer (some ⟨b,6,none⟩),.pointer (some ⟨b,7,none⟩),.pointer (some ⟨b,8,none⟩),.pointer (some ⟨b,9,none⟩),.pointer (some ⟨b,10,none⟩),.pointer (some ⟨b,11,none⟩),.pointer (some ⟨b,12,none⟩)]) (.int .i64 5)).run Tryz.prog w = .ok (.pointer (some ⟨b,11,none⟩)) w:=fun w=>by kernel_rfl
  have hix6 : ∀ w,(Instr.index 188 (.agg #[.pointer (some ⟨b,6,none⟩),.pointer (some ⟨b,7,none⟩),.pointer (some ⟨b,8,none⟩),.pointer (some ⟨b,9,none⟩),.pointer (some ⟨b,10,none⟩),.pointer (some ⟨b,11,none⟩),.pointer (some ⟨b,12,none⟩)]) (.int .i64 6)).run Tryz.prog w = .ok (.pointer (some ⟨b,12,none⟩)) w:=fun w=>by kernel_rfl
  go_enter Tryz.func122,Tryz.ntmps122
  go_wp2_with fail
  go_region
  go_wp2_with fail;have hw0 : WrS w.drew g bs:=h;have hb0 : Blk w.drew b 47 #[v0,v1,v2,v3,v4,v5,.int .i64 x0,.int .i64 x1,.int .i64 x2,.int .i64 x3,.int .i64 x4,.int .i64 x5,.int .i64 x6,v13]:=hb;have g0 : w.grownBy w.drew (some g):=⟨rfl,rfl,rfl,Nat.le_refl _,fun _ _ _=>rfl⟩;clear h hb;refine wp_loop_rounds 8 ?_;rw [rounds_succ];go_wp2_with fail;refine (wnum_any g ⟨b,6,none⟩ (bs) x0 _ hw0 (hb0.cell 6) H0.out ?_).mono ?_
  · have:=HL.out
    (try simp only [List.length_append]);omega
  rintro e w1 ⟨rfl,hw1,gg⟩;have hb1:=hb0.grown gg HNE.out;have g1:=g0.trans gg;clear hw0 hb0 g0 gg;go_wp2_with fail;rw [rounds_succ];go_wp2_with fail;refine (wnum_any g ⟨b,7,none⟩ (bs ++ Vint.enc x0) x1 _ hw1 (hb1.cell 7) H1.out ?_).mono ?_
  · have:=HL.out
    have:=enc_len6 x0;(try simp only [List.length_append]);omega
  rintro e w2 ⟨rfl,hw2,gg⟩;have hb2:=hb1.grown gg HNE.out;have g2:=g1.trans gg;clear hw1 hb1 g1 gg;go_wp2_with fail;rw [rounds_succ];go_wp2_with fail;refine (wnum_any g ⟨b,8,none⟩ (bs ++ Vint.enc x0 ++ Vint.enc x1) x2 _ hw2 (hb2.cell 8) H2.out ?_).mono ?_
  · have:=HL.out
    have:=enc_len6 x0;have:=enc_len6 x1;(try simp only [List.length_append]);omega
  rintro e w3 ⟨rfl,hw3,gg⟩;have hb3:=hb2.grown gg HNE.out;have g3:=g2.trans gg;clear hw2 hb2 g2 gg;go_wp2_with fail;rw [rounds_succ];go_wp2_with fail;refine (wnum_any g ⟨b,9,none⟩ (bs ++ Vint.enc x0 ++ Vint.enc x1 ++ Vint.enc x2) x3 _ hw3 (hb3.cell 9) H3.out ?_).mono ?_
  · have:=HL.out
    have:=enc_len6 x0;have:=enc_len6 x1;have:=enc_len6 x2;(try simp only [List.length_append]);omega
  rintro e w4 ⟨rfl,hw4,gg⟩;have hb4:=hb3.grown gg HNE.out;have g4:=g3.trans gg;clear hw3 hb3 g3 gg;go_wp2_with fail;rw [rounds_succ];go_wp2_with fail;refine (wnum_any g ⟨b,10,none⟩ (bs ++ Vint.enc x0 ++ Vint.enc x1 ++ Vint.enc x2 ++ Vint.enc x3) x4 _ hw4 (hb4.cell 10) H4.out ?_).mono ?_
  · have:=HL.out
    have:=enc_len6 x0;have:=enc_len6 x1;have:=enc_len6 x2;have:=enc_len6 x3;(try simp only [List.length_append]);omega
  rintro e w5 ⟨rfl,hw5,gg⟩;have hb5:=hb4.grown gg HNE.out;have g5:=g4.trans gg;clear hw4 hb4 g4 gg;go_wp2_with fail;rw [rounds_succ];go_wp2_with fail;refine (wnum_any g ⟨b,11,none⟩ (bs ++ Vint.enc x0 ++ Vint.enc x1 ++ Vint.enc x2 ++ Vint.enc x3 ++ Vint.enc x4) x5 _ hw5 (hb5.cell 11) H5.out ?_).mono ?_
  · have:=HL.out
    have:=enc_len6 x0;have:=enc_len6 x1;have:=enc_len6 x2;have:=enc_len6 x3;have:=enc_len6 x4;(try simp only [List.length_append]);omega
  rintro e w6 ⟨rfl,hw6,gg⟩;have hb6:=hb5.grown gg HNE.out;have g6:=g5.trans gg;clear hw5 hb5 g5 gg;go_wp2_with fail;rw [rounds_succ];go_wp2_with fail;refine (wnum_any g ⟨b,12,none⟩ (bs ++ Vint.enc x0 ++ Vint.enc x1 ++ Vint.enc x2 ++ Vint.enc x3 ++ Vint.enc x4 ++ Vint.enc x5) x6 _ hw6 (hb6.cell 12) H6.out ?_).mono ?_
  · have:=HL.out
    have:=enc_len6 x0;have:=enc_len6 x1;have:=enc_len6 x2;have:=enc_len6 x3;have:=enc_len6 x4;have:=enc_len6 x5;(try simp only [List.length_append]);omega
  rintro e w7 ⟨rfl,hw7,gg⟩;have hb7:=hb6.grown gg HNE.out;have g7:=g6.trans gg;clear hw6 hb6 g6 gg;go_wp2_with fail;rw [rounds_succ];go_wp2_with fail
  go_end0
  refine ⟨rfl,?_,g7⟩
  have e : bs ++ encN [x0,x1,x2,x3,x4,x5,x6] = bs ++ Vint.enc x0 ++ Vint.enc x1 ++ Vint.enc x2 ++ Vint.enc x3 ++ Vint.enc x4 ++ Vint.enc x5 ++ Vint.enc x6:=by simp [encN]
  rw [e];exact hw7
end Go.Proofs.YtfpenfgmpbdakaaGreat

namespace Go.Proofs.YtfpenfgmpbdakaaGreat
set_option linter.unusedVariables false
set_option linter.unusedSimpArgs false
set_option maxRecDepth 100000
open Go.RowKit
open Dot Evt
def dotN (l : List Dt) : List Nat:=l.flatMap fun d=>[d.1.toNat,d.2.toNat]
theorem dotN_snoc (l : List Dt) (d : Dt) : dotN (l ++ [d]) = dotN l ++ [d.1.toNat,d.2.toNat]:=by simp [dotN]
theorem encN_len (l : List Nat) : (encN l).length≤6 * l.length:=by
  induction l with
  | nil=>simp [encN]
  | cons a l ih =>
    rw [encN_cons,List.length_append,List.length_cons]
    have:=enc_len6 a
    omega
theorem dotN_len (l : List Dt) : (dotN l).length = 2 * l.length:=by
  induction l with
  | nil=>rfl
  | cons a l ih=>simp [dotN] at ih ⊢;omega
set_option maxRecDepth 100000 in
set_option maxHeartbeats 2000000 in
theorem thrw_any (b g : Nat) (bs : List UInt8) (n q t k wk v p0 p1 p2 p3 p4 p5 p6 : Nat) (A : Option Addr) (m c : Nat) (l : List Dt) (w : World) (h : WrS w g bs)
    (hb : Blk w b 47 #[.int .i64 n,.int .i64 q,.int .i64 t,.int .i64 k,.int .i64 wk,.int .i64 v,.int .i64 p0,.int .i64 p1,.int .i64 p2,.int .i64 p3,.int .i64 p4,.int .i64 p5,.int .i64 p6,.slice A m c]) (hne : b ≠ g)
    (h0 : n≤1099511627776) (h1 : q≤1099511627776) (h2 : t≤1099511627776) (h3 : 1≤k∧k≤3) (h4 : wk≤1099511627776) (h5 : v≤1099511627776)
    (hp0 : p0≤1099511627776) (hp1 : p1≤1099511627776) (hp2 : p2≤1099511627776) (hp3 : p3≤1099511627776) (hp4 : p4≤1099511627776) (hp5 : p5≤1099511627776) (hp6 : p6≤1099511627776)
    (hr : RdD w g A m l) (hm96 : m≤96) (hd : ∀ d ∈ l,(0≤d.1∧d.1≤1099511627776)∧0≤d.2∧d.2≤1099511627776) (hl : bs.length≤140737488350000) :
    Calls Tryz.prog 112 #[.pointer (some ⟨b,0,none⟩),.iface 148 (.pointer (some ⟨g,0,none⟩))] w fun e w'=>e = .returned (.tuple #[]) ∧
      WrS w' g (bs ++ encN ([n,q,t,k,wk] ++ (if k = 1 then [v] else (if k = 2 then [p0,p1,p2,p3,p4,p5,p6] else []) ++ [m] ++ dotN l)))∧w.grownBy w' (some g):=by
  obtain ⟨L,hL⟩ : ∃ L,L = ([n,q,t,k,wk] ++ (if k = 1 then [v] else (if k = 2 then [p0,p1,p2,p3,p4,p5,p6] else []) ++ [m] ++ dotN l)):=⟨_,rfl⟩;rw [← hL];have HLE:=Lib.hid hL;clear hL;have H0:=Lib.hid h0;have H1:=Lib.hid h1;have H2:=Lib.hid h2;have H3:=Lib.hid h3;have H4:=Lib.hid h4;have H5:=Lib.hid h5;have HP0:=Lib.hid hp0;have HP1:=Lib.hid hp1;have HP2:=Lib.hid hp2;have HP3:=Lib.hid hp3;have HP4:=Lib.hid hp4;have HP5:=Lib.hid hp5;have HP6:=Lib.hid hp6;have HL:=Lib.hid hl;have HD:=Lib.hid hd;have H96:=Lib.hid hm96;have HM:=Lib.hid hr.1;have HRD:=Lib.hid hr;have HBG:=Lib.hid hne;have HNE:=Lib.hid (show (some g : Option Nat) ≠ some b by simp;omega);have hbl:=hb.lt;have HGL:=Lib.hid h.lt
  have hm : ∀ w,(method 246 148 (.pointer (some ⟨g,0,none⟩)) "murmur/event.number").run Tryz.prog w = .ok (162,.pointer (some ⟨g,0,none⟩)) w:=fun w=>by kernel_rfl
  have hmf : ∀ (fn : Fn) (first cap : Array Value) (w : World),(Instr.makeFunc fn first cap).run Tryz.prog w = .ok (.func fn first cap) w:=fun _ _ _ _=>rfl
  clear h0 h1 h2 h3 h4 h5 hp0 hp1 hp2 hp3 hp4 hp5 hp6 hl hne hd hm96 hr
  have hix0 : ∀ w,(Instr.index 174 (.agg #[.pointer (some ⟨b,0,none⟩),.pointer (some ⟨b,1,none⟩),.pointer (some ⟨b,2,none⟩),.pointer (some ⟨b,3,none⟩)]) (.int .i64 0)).run Tryz.prog w = .ok (.pointer (some ⟨b,0,none⟩)) w:=fun w=>by kernel_rfl
  have hix1 : ∀ w,(Instr.index 174 (.agg #[.pointer (some ⟨b,0,none⟩),.pointer (some ⟨b,1,none⟩),.pointer (some ⟨b,2,none⟩),.pointer (some ⟨b,3,none⟩)]) (.int .i64 1)).run Tryz.prog w = .ok (.pointer (some ⟨b,1,none⟩)) w:=fun w=>by kernel_rfl
  have hix2 : ∀ w,(Instr.index 174 (.agg #[.pointer (some ⟨b,0,none⟩),.pointer (some ⟨b,1,none⟩),.pointer (some ⟨b,2,none⟩),.pointer (some ⟨b,3,none⟩)]) (.int .i64 2)).run Tryz.prog w = .ok (.pointer (some ⟨b,2,none⟩)) w:=fun w=>by kernel_rfl
  have hix3 : ∀ w,(Instr.index 174 (.agg #[.pointer (some ⟨b,0,none⟩),.pointer (some ⟨b,1,none⟩),.pointer (some ⟨b,2,none⟩),.pointer (some ⟨b,3,none⟩)]) (.int .i64 3)).run Tryz.prog w = .ok (.pointer (some ⟨b,3,none⟩)) w:=fun w=>by kernel_rfl
  go_enter Tryz.func112,Tryz.ntmps112
  go_wp2_with fail
  go_region
  go_wp2_with fail;have hw0 : WrS w.drew g bs:=h;have hb0 : Blk w.drew b 47 #[.int .i64 n,.int .i64 q,.int .i64 t,.int .i64 k,.int .i64 wk,.int .i64 v,.int .i64 p0,.int .i64 p1,.int .i64 p2,.int .i64 p3,.int .i64 p4,.int .i64 p5,.int .i64 p6,.slice A m c]:=hb;have g0 : w.grownBy w.drew (some g):=⟨rfl,rfl,rfl,Nat.le_refl _,fun _ _ _=>rfl⟩;clear h hb;refine wp_loop_rounds 5 ?_;rw [rounds_succ];go_wp2_with fail;refine (wnum_any g ⟨b,0,none⟩ (bs) n _ hw0 (hb0.cell 0) H0.out ?_).mono ?_
  · have:=HL.out
    (try simp only [List.length_append]);omega
  rintro e w1 ⟨rfl,hw1,gg⟩;have hb1:=hb0.grown gg HNE.out;have g1:=g0.trans gg;clear hw0 hb0 g0 gg;go_wp2_with fail;rw [rounds_succ];go_wp2_with fail;refine (wnum_any g ⟨b,1,none⟩ (bs ++ Vint.enc n) q _ hw1 (hb1.cell 1) H1.out ?_).mono ?_
  · have:=HL.out
    have:=enc_len6 n;(try simp only [List.length_append]);omega
  rintro e w2 ⟨rfl,hw2,gg⟩;have hb2:=hb1.grown gg HNE.out;have g2:=g1.trans gg;clear hw1 hb1 g1 gg;go_wp2_with fail;rw [rounds_succ];go_wp2_with fail;refine (wnum_any g ⟨b,2,none⟩ (bs ++ Vint.enc n ++ Vint.enc q) t _ hw2 (hb2.cell 2) H2.out ?_).mono ?_
  · have:=HL.out
    have:=enc_len6 n;have:=enc_len6 q;(try simp only [List.length_append]);omega
  rintro e w3 ⟨rfl,hw3,gg⟩;have hb3:=hb2.grown gg HNE.out;have g3:=g2.trans gg;clear hw2 hb2 g2 gg;go_wp2_with fail;rw [rounds_succ];go_wp2_with fail;refine (wnum_any g ⟨b,3,none⟩ (bs ++ Vint.enc n ++ Vint.enc q ++ Vint.enc t) k _ hw3 (hb3.cell 3) (by have:=H3.out;omega) ?_).mono ?_
  · have:=HL.out
    have:=enc_len6 n;have:=enc_len6 q;have:=enc_len6 t;(try simp only [List.length_append]);omega
  rintro e w4 ⟨rfl,hw4,gg⟩;have hb4:=hb3.grown gg HNE.out;have g4:=g3.trans gg;clear hw3 hb3 g3 gg;go_wp2_with fail;rw [rounds_succ];have ck : w4.cell? ⟨b,3,none⟩ = some (.int .i64 k):=hb4.cell 3;go_wp2_with fail;refine (within_any _ _ _ _).mono ?_;rintro e w4' ⟨rfl,rfl⟩;rw [show inB (k : Int) 1 3 = true from (inB_iff _ _ _).2 (by have:=H3.out;omega)];go_wp2_with fail;refine (wnum_any g ⟨b,4,none⟩ (bs ++ Vint.enc n ++ Vint.enc q ++ Vint.enc t ++ Vint.enc k) wk _ hw4 (hb4.cell 4) H4.out ?_).mono ?_
  · have:=HL.out
    have:=enc_len6 n;have:=enc_len6 q;have:=enc_len6 t;have:=enc_len6 k;(try simp only [List.length_append]);omega
  rintro e w5 ⟨rfl,hw5,gg⟩;have hb5:=hb4.grown gg HNE.out;have g5:=g4.trans gg;clear hw4 hb4 g4 gg;have ck : w5.cell? ⟨b,3,none⟩ = some (.int .i64 k):=hb5.cell 3
  by_cases hk1 : k = 1
  · have hq1 : ((k : Int) == 1) = true:=by rw [beq_iff_eq];omega
    go_wp2_with fail;refine (wnum_any g ⟨b,5,none⟩ (bs ++ Vint.enc n ++ Vint.enc q ++ Vint.enc t ++ Vint.enc k ++ Vint.enc wk) v _ hw5 (hb5.cell 5) H5.out ?_).mono ?_
    · have:=HL.out
      have:=enc_len6 n;have:=enc_len6 q;have:=enc_len6 t;have:=enc_len6 k;have:=enc_len6 wk;(try simp only [List.length_append]);omega
    rintro e w6 ⟨rfl,hw6,gg⟩;have hb6:=hb5.grown gg HNE.out;have g6:=g5.trans gg;clear hw5 hb5 g5 gg;go_wp2_with fail
    (try simp only [Exit.inBlock,Exit.then])
    refine bodyPost_ret (results_none rfl _ _ _) rfl ?_;refine ⟨rfl,?_,g6⟩;rw [HLE.out,if_pos hk1]
    have e : bs ++ encN ([n,q,t,k,wk] ++ [v]) = bs ++ Vint.enc n ++ Vint.enc q ++ Vint.enc t ++ Vint.enc k ++ Vint.enc wk ++ Vint.enc v:=by simp [encN]
    rw [e];exact hw6
  have hq1 : ((k : Int) == 1) = false:=by rw [beq_eq_false_iff_ne];omega
  by_cases hk2 : k = 2
  · have hq2 : ((k : Int) == 2) = true:=by rw [beq_iff_eq];omega
    go_wp2_with fail;refine (polw_any b g _ _ _ _ _ _ _ _ p0 p1 p2 p3 p4 p5 p6 _ hw5 hb5 HBG.out HP0.out HP1.out HP2.out HP3.out HP4.out HP5.out HP6.out ?_).mono ?_
    · have:=HL.out
      have:=enc_len6 n;have:=enc_len6 q;have:=enc_len6 t;have:=enc_len6 k;have:=enc_len6 wk;(try simp only [List.length_append]);omega
    rintro e w6 ⟨rfl,hw6,gg⟩;have hb6:=hb5.grown gg HNE.out;have g6:=g5.trans gg;clear hw5 hb5 g5 gg;obtain ⟨us,has⟩ : ∃ us,us = bs ++ Vint.enc n ++ Vint.enc q ++ Vint.enc t ++ Vint.enc k ++ Vint.enc wk ++ encN [p0,p1,p2,p3,p4,p5,p6]:=⟨_,rfl⟩;rw [← has] at hw6;have HAS:=Lib.hid (show us = bs ++ encN ([n,q,t,k,wk] ++ [p0,p1,p2,p3,p4,p5,p6]) by rw [has];simp [encN])
    have HLA:=Lib.hid (show us.length≤140737488352000 by
      rw [HAS.out,List.length_append]
      have:=encN_len ([n,q,t,k,wk] ++ [p0,p1,p2,p3,p4,p5,p6])
      have:=HL.out
      simp at *
      omega)
    clear has;have cs : w6.cell? ⟨b,13,none⟩ = some (.slice A m c):=hb6.cell 13
    go_upto_region 15 with fail
    refine nameW ?_;intro wa hwa;obtain ⟨r,hr⟩ : ∃ r,r = w6.heap.size:=⟨_,rfl⟩;rw [← hr]
    have ka : Blk wa r 3 #[.int .i64 m]:=by rw [hwa,hr];exact Blk.new _ _ _
    have hwA : WrS wa g us:=by rw [hwa];exact hw6.alloc _
    have hbA : Blk wa b 47 #[.int .i64 n,.int .i64 q,.int .i64 t,.int .i64 k,.int .i64 wk,.int .i64 v,.int .i64 p0,.int .i64 p1,.int .i64 p2,.int .i64 p3,.int .i64 p4,.int .i64 p5,.int .i64 p6,.slice A m c]:=by rw [hwa];exact hb6.alloc _
    have gA : w.grownBy wa (some g):=by rw [hwa];exact only_alloc g6 _
    have hgr : g ≠ r:=by have:=hw6.lt;omega
    have HNR:=Lib.hid (show (some g : Option Nat) ≠ some r by simp;omega);clear hwa hr hw6 hb6 g6 cs hgr ck;go_wp2_with fail;refine (wnum_any g ⟨r,0,none⟩ us m _ hwA (ka.cell 0) (by have:=H96.out;omega) (by have:=HLA.out;omega)).mono ?_;rintro e wc ⟨rfl,hwC,gg⟩;have kc:=ka.grown gg HNR.out;have hbC:=hbA.grown gg HNE.out;have gC:=gA.trans gg;have cr : wc.cell? ⟨r,0,none⟩ = some (.int .i64 m):=kc.cell 0;have cs : wc.cell? ⟨b,13,none⟩ = some (.slice A m c):=hbC.cell 13;have hmd : decide ((96 : Int) < (m : Int)) = false:=decide_eq_false (by have:=H96.out;omega);clear hwA hbA gA gg ka;go_wp2_with fail
    go_region
    go_wp2_with fail
    go_loopw [93] (fun i wr=>∃ j : Nat,j≤m∧i = .int .i64 j∧WrS wr g (us ++ Vint.enc m ++ encN (dotN (l.take j)))∧Blk wr b 47 #[.int .i64 n,.int .i64 q,.int .i64 t,.int .i64 k,.int .i64 wk,.int .i64 v,.int .i64 p0,.int .i64 p1,.int .i64 p2,.int .i64 p3,.int .i64 p4,.int .i64 p5,.int .i64 p6,.slice A m c]∧w.grownBy wr (some g)) (fun i _=>m - (intOf i).toNat)
    case atStart =>
      have hwD : WrS wc.drew g (us ++ Vint.enc m):=hwC;exact ⟨0,by omega,rfl,by simpa [dotN,encN] using hwD,hbC,only_drew gC⟩
    case round =>
      clear hwC hbC gC kc cr cs;obtain ⟨j,hj,rfl,hwJ,hbJ,gJ⟩:=hrel;have cs : wr.cell? ⟨b,13,none⟩ = some (.slice A m c):=hbJ.cell 13
      by_cases hlt : j < m
      · have hjl : j < l.length:=by rw [← HM.out];exact hlt
        obtain ⟨ad,hA,hdt⟩:=HRD.out.2 j _ (List.getElem?_eq_getElem hjl);subst hA;have hdd:=HD.out _ (List.getElem_mem hjl);have hsn : l.take (j + 1) = l.take j ++ [l[j]]:=take_snoc l hjl
        generalize l[j] = d at *
        obtain ⟨x,y⟩:=d;obtain ⟨q5,q0,q1⟩:=hdt.below (only_Below gJ (Nat.le_refl _) (by have:=HGL.out;omega))
        simp only at q0 q1 hdd
        obtain ⟨⟨hx0,hx1⟩,hy0,hy1⟩:=hdd;obtain ⟨x,rfl⟩:=Int.eq_ofNat_of_zero_le hx0;obtain ⟨y,rfl⟩:=Int.eq_ofNat_of_zero_le hy0;have HSN:=Lib.hid hsn;have HX:=Lib.hid hx1;have HY:=Lib.hid hy1
        have hj0 : (0 : Int)≤(j : Int):=by omega
        have hjm : (j : Int) < (m : Int):=by omega
        clear hsn hx0 hx1 hy0 hy1 hdt
        have hlj : (us ++ Vint.enc m ++ encN (dotN (l.take j))).length≤140737488354000:=by
          have h1:=HLA.out;have h2:=enc_len6 m;have h3:=encN_len (dotN (l.take j));rw [dotN_len,List.length_take] at h3;have h4:=H96.out
          simp only [List.length_append]
          omega
        have HLJ:=Lib.hid hlj;clear hlj;go_wp2_with fail;refine (wnum_any g (ad.add (j * 2)) _ x _ hwJ q0 (by have:=HX.out;omega) (by have:=HLJ.out;omega)).mono ?_;rintro e wx ⟨rfl,hwX,gg⟩;have hbX:=hbJ.grown gg HNE.out;have gX:=gJ.trans gg;have q1' : wx.cell? ⟨(ad.add (j * 2)).block,(ad.add (j * 2)).off + 1,none⟩ = some (.int .i64 y):=((only_Below gg (Nat.le_refl g) (by have:=hwJ.lt;omega)).cell (p:=⟨(ad.add (j * 2)).block,(ad.add (j * 2)).off + 1,none⟩) q5).trans q1;have cs : wx.cell? ⟨b,13,none⟩ = some (.slice (some ad) m c):=hbX.cell 13;clear hwJ hbJ gJ gg q0 q1;go_wp2_with fail;refine (wnum_any g ⟨(ad.add (j * 2)).block,(ad.add (j * 2)).off + 1,none⟩ _ y _ hwX q1' (by have:=HY.out;omega) (by have:=HLJ.out;have:=enc_len6 x;simp only [List.length_append] at *;omega)).mono ?_;rintro e wy ⟨rfl,hwY,gg⟩;have hbY:=hbX.grown gg HNE.out;have gY:=gX.trans gg;clear hwX hbX gX gg q1';go_wp2_with fail
        go_roundw
        case rel=>exact ⟨j + 1,by omega,num_succ j (by have:=H96.out;omega),by rw [HSN.out,dotN_snoc,encN_app];simpa [encN] using hwY,hbY,gY⟩
        case measure=>exact meas_succ j m hlt (by have:=H96.out;omega)
      · have hje : l.take j = l:=List.take_of_length_le (by rw [← HM.out];omega)
        have HJE:=Lib.hid hje;clear hje;go_wp2_with fail
        go_end0
        refine ⟨rfl,?_,gJ⟩;rw [HJE.out] at hwJ;rw [HLE.out,if_neg hk1,if_pos hk2]
        have e : bs ++ encN ([n,q,t,k,wk] ++ ([p0,p1,p2,p3,p4,p5,p6] ++ [m] ++ dotN l)) = us ++ Vint.enc m ++ encN (dotN l):=by rw [HAS.out];simp [encN]
        rw [e];exact hwJ
  have hq2 : ((k : Int) == 2) = false:=by rw [beq_eq_false_iff_ne];omega
  have w6e : w5 = w5:=rfl;obtain ⟨us,has⟩ : ∃ us,us = bs ++ Vint.enc n ++ Vint.enc q ++ Vint.enc t ++ Vint.enc k ++ Vint.enc wk:=⟨_,rfl⟩;rw [← has] at hw5;have HAS:=Lib.hid (show us = bs ++ encN ([n,q,t,k,wk] ++ []) by rw [has];simp [encN])
  have HLA:=Lib.hid (show us.length≤140737488352000 by
    rw [HAS.out,List.length_append]
    have:=encN_len ([n,q,t,k,wk] ++ [])
    have:=HL.out
    simp at *
    omega)
  clear has w6e;have cs : w5.cell? ⟨b,13,none⟩ = some (.slice A m c):=hb5.cell 13
  go_upto_region 15 with fail
  refine nameW ?_;intro wa hwa;obtain ⟨r,hr⟩ : ∃ r,r = w5.heap.size:=⟨_,rfl⟩;rw [← hr]
  have ka : Blk wa r 3 #[.int .i64 m]:=by rw [hwa,hr];exact Blk.new _ _ _
  have hwA : WrS wa g us:=by rw [hwa];exact hw5.alloc _
  have hbA : Blk wa b 47 #[.int .i64 n,.int .i64 q,.int .i64 t,.int .i64 k,.int .i64 wk,.int .i64 v,.int .i64 p0,.int .i64 p1,.int .i64 p2,.int .i64 p3,.int .i64 p4,.int .i64 p5,.int .i64 p6,.slice A m c]:=by rw [hwa];exact hb5.alloc _
  have gA : w.grownBy wa (some g):=by rw [hwa];exact only_alloc g5 _
  have hgr : g ≠ r:=by have:=hw5.lt;omega
  have HNR:=Lib.hid (show (some g : Option Nat) ≠ some r by simp;omega);clear hwa hr hw5 hb5 g5 cs hgr ck;go_wp2_with fail;refine (wnum_any g ⟨r,0,none⟩ us m _ hwA (ka.cell 0) (by have:=H96.out;omega) (by have:=HLA.out;omega)).mono ?_;rintro e wc ⟨rfl,hwC,gg⟩;have kc:=ka.grown gg HNR.out;have hbC:=hbA.grown gg HNE.out;have gC:=gA.trans gg;have cr : wc.cell? ⟨r,0,none⟩ = some (.int .i64 m):=kc.cell 0;have cs : wc.cell? ⟨b,13,none⟩ = some (.slice A m c):=hbC.cell 13;have hmd : decide ((96 : Int) < (m : Int)) = false:=decide_eq_false (by have:=H96.out;omega);clear hwA hbA gA gg ka;go_wp2_with fail
  go_region
  go_wp2_with fail
  go_loopw [93] (fun i wr=>∃ j : Nat,j≤m∧i = .int .i64 j∧WrS wr g (us ++ Vint.enc m ++ encN (dotN (l.take j)))∧Blk wr b 47 #[.int .i64 n,.int .i64 q,.int .i64 t,.int .i64 k,.int .i64 wk,.int .i64 v,.int .i64 p0,.int .i64 p1,.int .i64 p2,.int .i64 p3,.int .i64 p4,.int .i64 p5,.int .i64 p6,.slice A m c]∧w.grownBy wr (some g)) (fun i _=>m - (intOf i).toNat)
  case atStart =>
    have hwD : WrS wc.drew g (us ++ Vint.enc m):=hwC;exact ⟨0,by omega,rfl,by simpa [dotN,encN] using hwD,hbC,only_drew gC⟩
  case round =>
    clear hwC hbC gC kc cr cs;obtain ⟨j,hj,rfl,hwJ,hbJ,gJ⟩:=hrel;have cs : wr.cell? ⟨b,13,none⟩ = some (.slice A m c):=hbJ.cell 13
    by_cases hlt : j < m
    · have hjl : j < l.length:=by rw [← HM.out];exact hlt
      obtain ⟨ad,hA,hdt⟩:=HRD.out.2 j _ (List.getElem?_eq_getElem hjl);subst hA;have hdd:=HD.out _ (List.getElem_mem hjl);have hsn : l.take (j + 1) = l.take j ++ [l[j]]:=take_snoc l hjl
      generalize l[j] = d at *
      obtain ⟨x,y⟩:=d;obtain ⟨q5,q0,q1⟩:=hdt.below (only_Below gJ (Nat.le_refl _) (by have:=HGL.out;omega))
      simp only at q0 q1 hdd
      obtain ⟨⟨hx0,hx1⟩,hy0,hy1⟩:=hdd;obtain ⟨x,rfl⟩:=Int.eq_ofNat_of_zero_le hx0;obtain ⟨y,rfl⟩:=Int.eq_ofNat_of_zero_le hy0;have HSN:=Lib.hid hsn;have HX:=Lib.hid hx1;have HY:=Lib.hid hy1
      have hj0 : (0 : Int)≤(j : Int):=by omega
      have hjm : (j : Int) < (m : Int):=by omega
      clear hsn hx0 hx1 hy0 hy1 hdt
      have hlj : (us ++ Vint.enc m ++ encN (dotN (l.take j))).length≤140737488354000:=by
        have h1:=HLA.out;have h2:=enc_len6 m;have h3:=encN_len (dotN (l.take j));rw [dotN_len,List.length_take] at h3;have h4:=H96.out
        simp only [List.length_append]
        omega
      have HLJ:=Lib.hid hlj;clear hlj;go_wp2_with fail;refine (wnum_any g (ad.add (j * 2)) _ x _ hwJ q0 (by have:=HX.out;omega) (by have:=HLJ.out;omega)).mono ?_;rintro e wx ⟨rfl,hwX,gg⟩;have hbX:=hbJ.grown gg HNE.out;have gX:=gJ.trans gg;have q1' : wx.cell? ⟨(ad.add (j * 2)).block,(ad.add (j * 2)).off + 1,none⟩ = some (.int .i64 y):=((only_Below gg (Nat.le_refl g) (by have:=hwJ.lt;omega)).cell (p:=⟨(ad.add (j * 2)).block,(ad.add (j * 2)).off + 1,none⟩) q5).trans q1;have cs : wx.cell? ⟨b,13,none⟩ = some (.slice (some ad) m c):=hbX.cell 13;clear hwJ hbJ gJ gg q0 q1;go_wp2_with fail;refine (wnum_any g ⟨(ad.add (j * 2)).block,(ad.add (j * 2)).off + 1,none⟩ _ y _ hwX q1' (by have:=HY.out;omega) (by have:=HLJ.out;have:=enc_len6 x;simp only [List.length_append] at *;omega)).mono ?_;rintro e wy ⟨rfl,hwY,gg⟩;have hbY:=hbX.grown gg HNE.out;have gY:=gX.trans gg;clear hwX hbX gX gg q1';go_wp2_with fail
      go_roundw
      case rel=>exact ⟨j + 1,by omega,num_succ j (by have:=H96.out;omega),by rw [HSN.out,dotN_snoc,encN_app];simpa [encN] using hwY,hbY,gY⟩
      case measure=>exact meas_succ j m hlt (by have:=H96.out;omega)
    · have hje : l.take j = l:=List.take_of_length_le (by rw [← HM.out];omega)
      have HJE:=Lib.hid hje;clear hje;go_wp2_with fail
      go_end0
      refine ⟨rfl,?_,gJ⟩;rw [HJE.out] at hwJ;rw [HLE.out,if_neg hk1,if_neg hk2]
      have e : bs ++ encN ([n,q,t,k,wk] ++ ([] ++ [m] ++ dotN l)) = us ++ Vint.enc m ++ encN (dotN l):=by rw [HAS.out];simp [encN]
      rw [e];exact hwJ
end Go.Proofs.YtfpenfgmpbdakaaGreat

namespace Go.Proofs.YtfpenfgmpbdakaaGreat
set_option linter.unusedVariables false
set_option linter.unusedSimpArgs false
set_option maxRecDepth 100000
open Go.RowKit
open Dot Evt
def encE (x : Ev) : List UInt8:=encN ((numsE x).map Int.toNat)
theorem right_facts {x : Ev} (hp : x.p.length = 7) (h : rightE x = true) :
    ((0≤x.d.1∧x.d.1≤1099511627776)∧(0≤x.d.2∧x.d.2≤1099511627776)∧(0≤x.t∧x.t≤1099511627776)∧(1≤x.k∧x.k≤3)∧(0≤x.w∧x.w≤1099511627776)∧(0≤x.v∧x.v≤1099511627776)) ∧
    ((0≤x.p.getD 0 0∧x.p.getD 0 0≤1099511627776)∧(0≤x.p.getD 1 0∧x.p.getD 1 0≤1099511627776)∧(0≤x.p.getD 2 0∧x.p.getD 2 0≤1099511627776)∧(0≤x.p.getD 3 0∧x.p.getD 3 0≤1099511627776)∧(0≤x.p.getD 4 0∧x.p.getD 4 0≤1099511627776)∧(0≤x.p.getD 5 0∧x.p.getD 5 0≤1099511627776)∧(0≤x.p.getD 6 0∧x.p.getD 6 0≤1099511627776)) ∧
    x.l.length≤96∧∀ d ∈ x.l,(0≤d.1∧d.1≤1099511627776)∧0≤d.2∧d.2≤1099511627776:=by
  unfold rightE at h
  simp only [Bool.and_eq_true,decide_eq_true_eq,inB_iff] at h
  obtain ⟨⟨⟨⟨⟨h1,h2⟩,h3⟩,h4⟩,h5⟩,h6⟩:=h;have g1:=(may_iff _).1 h1;have hn:=(named_iff _ _).1 h5;have ht : top = 1099511627776:=rfl
  have hk : (1≤x.k∧x.k≤3)∧(0≤x.v∧x.v≤1099511627776)∧(x.p = p0∨polB x.p = true):=by
    unfold kindB at h6
    by_cases k1 : x.k = 1
    · rw [if_pos k1] at h6
      simp only [Bool.and_eq_true,inB_iff,decide_eq_true_eq] at h6
      exact ⟨by omega,by omega,.inl h6.1.1⟩
    · rw [if_neg k1] at h6
      by_cases k2 : x.k = 2
      · rw [if_pos k2] at h6
        simp only [Bool.and_eq_true,decide_eq_true_eq] at h6
        exact ⟨by omega,by omega,.inr h6.1⟩
      · rw [if_neg k2] at h6
        by_cases k3 : x.k = 3
        · rw [if_pos k3] at h6
          simp only [Bool.and_eq_true,decide_eq_true_eq] at h6
          exact ⟨by omega,by omega,.inl h6.1⟩
        · rw [if_neg k3] at h6;cases h6
  refine ⟨⟨by omega,by omega,by omega,hk.1,by omega,hk.2.1⟩,?_,h4,?_⟩
  · rcases hk.2.2 with e | e
    · rw [e];simp [p0]
    · have:=polB_iff.1 e
      omega
  · intro d hd
    obtain ⟨i,hi,rfl⟩:=List.getElem_of_mem hd;have g:=hn i hi
    unfold nameAt at g
    rw [List.getD_eq_getElem?_getD,List.getElem?_eq_getElem hi] at g
    simp only [Option.getD_some,Bool.and_eq_true] at g
    have g5:=(may_iff _).1 g.1.1
    omega
theorem dotNums_nat (l : List Dt) : (dotNums l).map Int.toNat = dotN l:=by
  induction l with
  | nil=>rfl
  | cons a l ih=>simp [dotNums,dotN] at ih ⊢;exact ih
theorem wput_no (x : Ev) (hp : x.p.length = 7) (A : Option Addr) (m c g : Nat) (w : World) (hl : RdD w w.heap.size A m x.l) (hx : rightE x = false) :
    Calls Tryz.prog 101 #[.pointer (some ⟨g,0,none⟩),.agg (ec x (.slice A m c))] w fun e w'=>e = .panicked [{ v:=eflt 2,recovered:=false }]∧Below w.heap.size w w':=by
  have hb0 : Below w.heap.size w (w.alloc (.cells (ec x (.slice A m c)) 47)):=(Below.refl _ _).alloc (Nat.le_refl _) _;have hr:=eright_any x hp A m c (w.alloc (.cells (ec x (.slice A m c)) 47)) (hl.below hb0).size;rw [hx] at hr;obtain ⟨⟨n,q⟩,t,k,wk,v,p,l⟩:=x
  unfold ec at hb0 hr ⊢
  simp only at hb0 hr ⊢
  clear hx hl hp
  generalize p.getD 0 0 = p0,p.getD 1 0 = p1,p.getD 2 0 = p2,p.getD 3 0 = p3,p.getD 4 0 = p4,p.getD 5 0 = p5,p.getD 6 0 = p6 at *
  have HR:=Lib.hid hr;clear hr
  go_enter Tryz.func101,Tryz.ntmps101
  go_wp2_with fail;refine HR.out.mono ?_;rintro e w1 ⟨rfl,b1⟩;go_wp2_with fail;refine (wfail_any g 2 w1).mono ?_;rintro e w2 ⟨rfl,rfl⟩;go_wp2_with fail;exact ⟨rfl,rfl,hb0.trans (b1.mono hb0.size)⟩
theorem wput_yes (x : Ev) (hp : x.p.length = 7) (A : Option Addr) (m c g : Nat) (bs : List UInt8) (w : World) (h : WrS w g bs) (hl : RdD w g A m x.l) (hx : rightE x = true) (hbs : bs.length≤140737488350000) :
    Calls Tryz.prog 101 #[.pointer (some ⟨g,0,none⟩),.agg (ec x (.slice A m c))] w fun e w'=>e = .returned (.tuple #[])∧WrS w' g (bs ++ encE x)∧w.grownBy w' (some g):=by
  have hb0 : Below w.heap.size w (w.alloc (.cells (ec x (.slice A m c)) 47)):=(Below.refl _ _).alloc (Nat.le_refl _) _;have kb : Blk (w.alloc (.cells (ec x (.slice A m c)) 47)) w.heap.size 47 (ec x (.slice A m c)):=Blk.new _ _ _;have hr:=eright_any x hp A m c (w.alloc (.cells (ec x (.slice A m c)) 47)) (hl.below (hb0.mono (by have:=h.lt;omega))).size;rw [hx] at hr;obtain ⟨⟨⟨a0,a1⟩,⟨a2,a3⟩,⟨a4,a5⟩,⟨a6,a7⟩,⟨a8,a9⟩,⟨a10,a11⟩⟩,⟨⟨d0,e0⟩,⟨d1,e1⟩,⟨d2,e2⟩,⟨d3,e3⟩,⟨d4,e4⟩,⟨d5,e5⟩,⟨d6,e6⟩⟩,h96,hdd⟩:=right_facts hp hx;obtain ⟨⟨n,q⟩,t,k,wk,v,p,l⟩:=x
  simp only at a0 a1 a2 a3 a4 a5 a6 a7 a8 a9 a10 a11 d0 d1 d2 d3 d4 d5 d6 e0 e1 e2 e3 e4 e5 e6 h96 hdd hl hp
  obtain ⟨n,rfl⟩:=Int.eq_ofNat_of_zero_le a0;obtain ⟨q,rfl⟩:=Int.eq_ofNat_of_zero_le a2;obtain ⟨t,rfl⟩:=Int.eq_ofNat_of_zero_le a4;obtain ⟨k,rfl⟩:=Int.eq_ofNat_of_zero_le (show 0≤k by omega);obtain ⟨wk,rfl⟩:=Int.eq_ofNat_of_zero_le a8;obtain ⟨v,rfl⟩:=Int.eq_ofNat_of_zero_le a10
  have hE : encE ⟨((n : Int),(q : Int)),t,k,wk,v,p,l⟩ = encN ([n,q,t,k,wk] ++ (if k = 1 then [v] else (if k = 2 then [(p.getD 0 0).toNat,(p.getD 1 0).toNat,(p.getD 2 0).toNat,(p.getD 3 0).toNat,(p.getD 4 0).toNat,(p.getD 5 0).toNat,(p.getD 6 0).toNat] else []) ++ [m] ++ dotN l)):=by
    unfold encE numsE
    have hm : m = l.length:=hl.1
    match p,hp with
    | [p0,p1,p2,p3,p4,p5,p6],_ =>
      simp only [List.map_append,dotNums_nat]
      by_cases k1 : k = 1
      · subst k1;simp
      · by_cases k2 : k = 2
        · subst k2;simp [dotNums_nat,hm]
        · have : ¬ (k : Int) = 1:=by omega
          have : ¬ (k : Int) = 2:=by omega
          simp [*,dotNums_nat]
  rw [hE];clear hE hx
  unfold ec at hb0 kb hr ⊢
  simp only at hb0 kb hr ⊢
  generalize p.getD 0 0 = p0,p.getD 1 0 = p1,p.getD 2 0 = p2,p.getD 3 0 = p3,p.getD 4 0 = p4,p.getD 5 0 = p5,p.getD 6 0 = p6 at *
  obtain ⟨p0,rfl⟩:=Int.eq_ofNat_of_zero_le d0;obtain ⟨p1,rfl⟩:=Int.eq_ofNat_of_zero_le d1;obtain ⟨p2,rfl⟩:=Int.eq_ofNat_of_zero_le d2;obtain ⟨p3,rfl⟩:=Int.eq_ofNat_of_zero_le d3;obtain ⟨p4,rfl⟩:=Int.eq_ofNat_of_zero_le d4;obtain ⟨p5,rfl⟩:=Int.eq_ofNat_of_zero_le d5;obtain ⟨p6,rfl⟩:=Int.eq_ofNat_of_zero_le d6
  simp only [Int.toNat_natCast]
  have HR:=Lib.hid hr;obtain ⟨Z,hZ⟩ : ∃ Z,Z = encN ([n,q,t,k,wk] ++ (if k = 1 then [v] else (if k = 2 then [p0,p1,p2,p3,p4,p5,p6] else []) ++ [m] ++ dotN l)):=⟨_,rfl⟩;rw [← hZ];have HZ:=Lib.hid hZ;clear hZ;have hgl:=h.lt
  have HT:=Lib.hid fun (w1 : World) (h : WrS w1 g bs) (hb : Blk w1 w.heap.size 47 _) (hr : RdD w1 g A m l)=>thrw_any w.heap.size g bs n q t k wk v p0 p1 p2 p3 p4 p5 p6 A m c l w1 h hb (by have:=hgl;omega) (by omega) (by omega) (by omega) (by omega) (by omega) (by omega) (by omega) (by omega) (by omega) (by omega) (by omega) (by omega) (by omega) hr (by have:=hl.1;omega) hdd hbs
  have HW:=Lib.hid h;have HL:=Lib.hid hl;have HGL:=Lib.hid hgl;have HKB:=Lib.hid kb;clear hr h hl hgl kb hp h96 hdd hbs a0 a1 a2 a3 a4 a5 a6 a7 a8 a9 a10 a11 d0 d1 d2 d3 d4 d5 d6 e0 e1 e2 e3 e4 e5 e6
  go_enter Tryz.func101,Tryz.ntmps101
  go_wp2_with fail;refine HR.out.mono ?_;rintro e w1 ⟨rfl,b1⟩;have hb1:=hb0.trans (b1.mono hb0.size);have kb1:=HKB.out.below b1 HKB.out.lt;have hw1 : WrS w1 g bs:=HW.out.below hb1;have hl1:=HL.out.below (hb1.mono (by have:=HGL.out;omega));clear HR HKB HW HL b1 hb0;go_wp2_with fail;refine (HT.out _ hw1 kb1 hl1).mono ?_;rintro e w2 ⟨rfl,hw2,gg⟩;go_wp2_with fail
  go_end0
  exact ⟨rfl,by rw [HZ.out];exact hw2,(only_below (grown_refl0 w _) hb1).trans gg⟩
end Go.Proofs.YtfpenfgmpbdakaaGreat

namespace Go.Proofs.YtfpenfgmpbdakaaGreat
set_option linter.unusedVariables false
set_option linter.unusedSimpArgs false
set_option maxRecDepth 100000
open Go.RowKit
open Dot Evt
def putE (x : Ev) : List UInt8 × Nat:=if rightE x = true then (encE x,0) else ([],2)
set_option maxRecDepth 100000 in
theorem eput_any (x : Ev) (hp : x.p.length = 7) (A : Option Addr) (m c : Nat) (w : World) (hl : RdD w w.heap.size A m x.l) :
    Calls Tryz.prog 80 #[.agg (ec x (.slice A m c))] w (GiveBE w (putE x).1 (putE x).2):=by
  obtain ⟨cs,hcs⟩ : ∃ cs,cs = ec x (.slice A m c):=⟨_,rfl⟩;have HCS:=Lib.hid hcs
  have hno:=fun (g : Nat) (w1 : World) (h : RdD w1 w1.heap.size A m x.l) (hx : rightE x = false)=>wput_no x hp A m c g w1 h hx
  have hyes:=fun (g : Nat) (w1 : World) (hw : WrS w1 g []) (h : RdD w1 g A m x.l) (hx : rightE x = true)=>wput_yes x hp A m c g [] w1 hw h hx (by simp)
  rw [← hcs] at hno hyes ⊢;clear hcs;have HL0:=Lib.hid hl;have HNO:=Lib.hid hno;have HYES:=Lib.hid hyes
  have hcz : cs.size = 14:=by rw [HCS.out];rfl
  have HCZ:=Lib.hid hcz;clear hl hno hyes hp hcz
  go_enter_defers Tryz.func80,Tryz.ntmps80
  go_upto_region 3 with fail
  refine nameW ?_;intro W hW;obtain ⟨B,hB⟩ : ∃ B,B = w.heap.size:=⟨_,rfl⟩;rw [← hB]
  have kb : Blk W B 47 cs:=by rw [hW,hB];exact ((Blk.new w _ _).alloc _).alloc _
  have kf : Blk W (B + 1) 27 #[.int .i64 0]:=by
    have:=Blk.new (w.alloc (.cells cs 47)) 27 #[.int .i64 0]
    rw [show (w.alloc (.cells cs 47)).heap.size = w.heap.size + 1 by simp] at this;rw [hW,hB];exact this.alloc _
  have kw : WrS W (B + 1 + 1) []:=by
    have:=Blk.new ((w.alloc (.cells cs 47)).alloc (.cells #[.int .i64 0] 27)) 150 #[.slice none 0 0]
    rw [show ((w.alloc (.cells cs 47)).alloc (.cells #[.int .i64 0] 27)).heap.size = w.heap.size + 1 + 1 by simp] at this;rw [hW,hB];exact ⟨none,0,0,this,OwnB.nil _ _⟩
  have hbb : Below B w W:=by rw [hW,hB];exact (((Below.refl _ _).alloc (Nat.le_refl _) _).alloc (by simp) _).alloc (by simp;omega) _
  have hl1 : RdD W B A m x.l:=by rw [hB];exact HL0.out.below (by rw [← hB];exact hbb)
  have HB:=Lib.hid hB;clear hW hB HL0
  cases hx : rightE x
  case false =>
    go_wp2_with first
      | ((with_reducible refine wpList_ld rowE kb HCZ.out ?_ ?_);rotate_left;(rfl))
    refine (HNO.out _ W hl1.size hx).mono ?_;rintro e w1 ⟨rfl,b1⟩;have k1:=kf.below b1 kf.lt;go_wp2_with fail;refine leaves_cons (f:=100) (args:=#[.pointer (some ⟨B + 1,0,none⟩)]) (by simp) (by simp [go_sem]) ?_;refine (ecaught_panic _ _ _ _ _ (k1.cell 0) (k1.free 0)).mono ?_;rintro e u' w2 ⟨rfl,rfl,rfl⟩;have k2:=(k1.alloc (.cells #[.int .i64 2] 166)).set_ 0 (.int .i64 2);have c2:=k2.cell 0;have hb3 : Below B w ((w1.alloc (.cells #[.int .i64 2] 166)).setCell ⟨B + 1,0,none⟩ (.int .i64 2)):=((hbb.trans (b1.mono (by have:=kb.lt;omega))).alloc (by have:=hbb.size;have:=b1.size;have:=HB.out;omega) _).setCell (by show B≤B + 1;omega) _
    have he : putE x = ([],2):=by unfold putE;rw [hx];rfl
    refine ⟨.tuple #[.slice none 0 0,.int .i64 2],by simp [results,Tryz.results80,go_sem,c2],none,0,0,by rw [he];rfl,?_,by rw [← HB.out];exact hb3⟩;rw [he];exact OwnB.nil _ _
  case true =>
    go_wp2_with first
      | ((with_reducible refine wpList_ld rowE kb HCZ.out ?_ ?_);rotate_left;(rfl))
    refine (HYES.out _ W kw (hl1.more (by omega)) hx).mono ?_;rintro e w1 ⟨rfl,hw1,gg⟩;obtain ⟨A1,n1,c1,kw1,ho1⟩:=hw1;have q1 : w1.cell? ⟨B + 1 + 1,0,none⟩ = some (.slice A1 n1 c1):=kw1.cell 0;have kf1:=kf.grown gg (by simp);have f1 : w1.cell? ⟨B + 1,0,none⟩ = some (.int .i64 0):=kf1.cell 0;have f2:=kf1.free 0;go_wp2_with fail;refine leaves_cons (f:=100) (args:=#[.pointer (some ⟨B + 1,0,none⟩)]) (by simp) (by simp [go_sem]) ?_;refine (ecaught_none _ _).mono ?_;rintro e u' w2 ⟨rfl,rfl,rfl⟩;have k2:=kf1.set_ 0 (.int .i64 0);have c2:=k2.cell 0
    have he : putE x = (encE x,0):=by unfold putE;rw [hx];rfl
    have hb3 : Below B w (w1.setCell ⟨B + 1,0,none⟩ (.int .i64 0)):=(hbb.trans (only_Below gg (by omega) (by have:=kb.lt;omega))).setCell (by show B≤B + 1;omega) _;refine ⟨.tuple #[.slice A1 n1 c1,.int .i64 0],by simp [results,Tryz.results80,go_sem,c2],A1,n1,c1,by rw [he];rfl,?_,by rw [← HB.out];exact hb3⟩;rw [he];refine (ho1.setFar ?_ _).mono (by have:=HB.out;omega)
    rcases A1 with _ | a
    · simp
    · have:=(ho1.lt a.block rfl).1
      simp
      omega
end Go.Proofs.YtfpenfgmpbdakaaGreat

namespace Go.Proofs.YtfpenfgmpbdakaaGreat
set_option linter.unusedVariables false
set_option linter.unusedSimpArgs false
set_option maxRecDepth 100000
open Go.RowKit
theorem same_eq (A1 A2 : Option Addr) (n1 c1 n2 c2 : Nat) (bs : List UInt8) (B1 B2 : Nat) (w : World) (h1 : RdB w B1 A1 n1 bs) (h2 : RdB w B2 A2 n2 bs) (hl : n1≤9223372036854775807) :
    Calls Tryz.prog 26 #[.slice A1 n1 c1,.slice A2 n2 c2] w fun e w'=>e = .returned (.bool true)∧∃ m,w' = w.drewN m:=by
  obtain rfl:=h1.1;obtain rfl:=h2.1
  go_enter Tryz.func26,Tryz.ntmps26
  go_wp2_with fail
  go_loopw [13] (fun i wr=>∃ k m : Nat,k≤bs.length∧i = .int .i64 k∧wr = w.drewN m) (fun i _=>bs.length - (intOf i).toNat)
  case atStart=>exact ⟨0,0,by omega,rfl,rfl⟩
  case round =>
    obtain ⟨k,m,hk,rfl,rfl⟩:=hrel
    by_cases hlt : k < bs.length
    · obtain ⟨a1,rfl,_,hc1⟩:=h1.at_ hlt
      obtain ⟨a2,rfl,_,hc2⟩:=h2.at_ hlt;obtain ⟨x,hx⟩ : ∃ x,x = bs[k]:=⟨_,rfl⟩;rw [← hx] at hc1 hc2;clear hx
      have hq : ((x.toNat : Int) != (x.toNat : Int)) = false:=by simp
      go_wp2_with fail
      go_quiet (fail)
      go_wp2_with fail
      go_roundw
      case rel=>exact ⟨k + 1,_,by omega,by go_num,rfl⟩
      case measure=>simp [intOf];omega
    · go_wp2_with fail
      go_ret;exact ⟨rfl,_,rfl⟩
end Go.Proofs.YtfpenfgmpbdakaaGreat

namespace Go.Proofs.YtfpenfgmpbdakaaGreat
set_option linter.unusedVariables false
set_option linter.unusedSimpArgs false
set_option maxRecDepth 100000
open Go.RowKit
open Dot Evt
def exZ : Ev:=⟨(0,0),0,0,0,0,Evt.p0,[]⟩
abbrev cE : Array Value:=#[.int .i64 1,.int .i64 2,.int .i64 3,.int .i64 1,.int .i64 4,.int .i64 5,.int .i64 0,.int .i64 0,.int .i64 0,.int .i64 0,.int .i64 0,.int .i64 0,.int .i64 0,.slice none 0 0]
abbrev cT (t : Int) : Array Value:=#[.int .i64 0,.int .i64 0,.int .i64 t,.int .i64 0,.int .i64 0,.int .i64 0,.int .i64 0,.int .i64 0,.int .i64 0,.int .i64 0,.int .i64 0,.int .i64 0,.int .i64 0,.slice none 0 0]
end Go.Proofs.YtfpenfgmpbdakaaGreat

namespace Go.Proofs.YtfpenfgmpbdakaaGreat
set_option linter.unusedVariables false
set_option linter.unusedSimpArgs false
set_option maxRecDepth 100000
open Go.RowKit
open Dot Evt
theorem own_emptyD {w : World} {g base : Nat} (h : Blk w g 42 #[]) (hb : base≤g) : OwnD w base (some ⟨g,0,none⟩) 0 0 [] :=
  ⟨rfl,rfl,.inr ⟨g,0,#[],rfl,hb,h,Nat.le_refl _,Nat.zero_le _,rfl,rfl⟩⟩
theorem infoEv : (Tryz.prog.info? 47).map (fun i=>(i.zero,i.size,i.bytes)) = some (some (.agg (cT 0)),14,128):=by kernel_rfl
def ecsL (xs : List EvV) : List Value:=xs.flatMap fun x=>x.cs.toList
theorem ecsL_len (xs : List EvV) : (ecsL xs).length = xs.length * 14:=by
  induction xs with
  | nil=>rfl
  | cons x l ih=>show (x.cs.toList ++ ecsL l).length = _;rw [List.length_append,ih,Array.length_toList,x.size];simp;omega
theorem ecsL_app (l m : List EvV) : ecsL (l ++ m) = ecsL l ++ ecsL m:=by unfold ecsL;rw [List.flatMap_append]
theorem ecsL_one (l : List EvV) : ∀ u ∈ ecsL l,u.oneCell' = true:=by
  intro u hu
  unfold ecsL at hu
  rw [List.mem_flatMap] at hu;obtain ⟨d,_,hd⟩:=hu
  have:=Array.all_eq_true_iff_forall_mem.1 d.one u (by simpa using hd)
  exact this
theorem ecsL_at (l : List EvV) : ∀ (i : Nat) (x : EvV),l[i]? = some x→∀ (j : Nat) v,x.cs[j]? = some v→(ecsL l)[i * 14 + j]? = some v:=by
  induction l with
  | nil=>intro i d h;simp at h
  | cons y l ih =>
    intro i x h j v hv;have e : ecsL (y :: l) = y.cs.toList ++ ecsL l:=rfl
    have hj : j < 14:=by
      have:=(Array.getElem?_eq_some_iff.1 hv).1
      rwa [x.size] at this
    rw [e]
    cases i with
    | zero =>
      simp at h
      subst h;rw [Nat.zero_mul,Nat.zero_add,List.getElem?_append_left (by rw [Array.length_toList,y.size];exact hj),Array.getElem?_toList];exact hv
    | succ i =>
      rw [List.getElem?_append_right (by rw [Array.length_toList,y.size];omega),Array.length_toList,y.size,show (i + 1) * 14 + j - 14 = i * 14 + j by omega];exact ih i x (by simpa using h) j v hv
def OwnEv (w : World) (base : Nat) (A : Option Addr) (n c : Nat) (xs : List EvV) : Prop:=n = xs.length∧w.ownsRow base 47 14 (.slice A n c) n (ecsL xs)
section
variable {w w' : World} {base B n c : Nat} {A : Option Addr} {xs : List EvV}
theorem OwnEv.nil (w : World) (base : Nat) : OwnEv w base none 0 0 []:=⟨rfl,World.ownsRow_nil w base _ 14⟩
theorem OwnEv.alloc (h : OwnEv w base A n c xs) (o : Obj) : OwnEv (w.alloc o) base A n c xs:=⟨h.1,h.2.alloc o⟩
theorem OwnEv.drew (h : OwnEv w base A n c xs) : OwnEv w.drew base A n c xs:=h
theorem OwnEv.mono {base' : Nat} (h : OwnEv w base A n c xs) (hb : base'≤base) : OwnEv w base' A n c xs:=⟨h.1,ownsRow_base h.2 hb⟩
theorem OwnEv.raw (h : OwnEv w base A n c xs) : Rd w w.heap.size A (ecsL xs):=fun j u hu=>by
  rcases h.2.2 with ⟨hv,h0⟩ | ⟨g,cap,cur,hv,hb,hh,hn,hm,hs,hc⟩
  · have:=h.2.1;rw [h0] at this;simp at this;rw [this] at hu;simp at hu
  · injection hv with hA
    subst hA;exact ⟨_,rfl,(h.2.lt g rfl).2,h.2.cells (g:=g) rfl j u hu⟩
theorem OwnEv.lt (h : OwnEv w base A n c xs) : ∀ g,A.map (·.block) = some g→base≤g∧g < w.heap.size:=fun g hg=>h.2.lt g (by
  rcases A with _ | a
  · simp at hg
  · simpa [Value.ownBlock] using hg)
theorem OwnEv.below (h : OwnEv w base A n c xs) (hb : Below B w w') (hB : w.heap.size≤B) : OwnEv w' base A n c xs:=⟨h.1,ownsRow_keep h.2 fun k hk=>hb.block k (by have:=ownsRow_lt h.2 hk;omega)⟩
theorem OwnEv.row (h : OwnEv w base A n c xs) (hx : ∀ x ∈ xs,EvOk w w.heap.size x) : RowEv w w.heap.size A n xs:=⟨h.1,fun i x hi=>by
  have hm:=List.mem_of_getElem? hi;have h0 : (ecsL xs)[i * 14 + 0]? = some (.int .i64 x.e.d.1):=ecsL_at xs i x hi 0 _ rfl;obtain ⟨ad,hA,hb,_⟩:=h.raw _ _ h0;refine ⟨hx x hm,ad,hA,hb,fun j v hv=>?_⟩;obtain ⟨ad',hA',_,hc⟩:=h.raw _ _ (ecsL_at xs i x hi j v hv)
  obtain rfl : ad = ad':=by rw [hA] at hA';injection hA'
  rw [add_add]
  exact hc⟩
end
theorem own2_ne {w : World} {b1 b2 : Nat} {t1 t2 : TypeId} {s1 s2 : Nat} {A1 A2 : Option Addr} {n1 c1 n2 c2 : Nat} {x1 x2 : List Value} (h1 : w.ownsRow b1 t1 s1 (.slice A1 n1 c1) n1 x1) (h2 : w.ownsRow b2 t2 s2 (.slice A2 n2 c2) n2 x2) (hne : t1 ≠ t2) : A1.map (·.block) = none∨A1.map (·.block) ≠ A2.map (·.block):=by
  rcases h : A1.map (·.block) with _ | k
  · exact .inl h
  · refine .inr fun e=>?_
    obtain ⟨cur,hc⟩:=ownsRow_type h1 h;obtain ⟨cur',hc'⟩:=ownsRow_type h2 (e.symm.trans h);rw [hc] at hc'
    injection hc' with hc'
    injection hc' with _ ht
    exact hne ht
def EvOwn (w : World) (base : Nat) (x : EvV) : Prop:=x.e.p.length = 7∧OwnD w base x.A x.m x.c x.e.l∧x.m≤10000000000000
theorem EvOwn.ok {w : World} {base : Nat} {x : EvV} (h : EvOwn w base x) : EvOk w w.heap.size x:=⟨h.1,h.2.1.rd,h.2.2⟩
theorem wpList_appE {w : World} {ops : Array Oper} {rest : List Oper} {o : Oper} {a : Act} {Q : Exit→Act→World→Prop} (hgd : o.guard = none) (s x : Operand)
    (ho : o.op = .call { callee:=.builtin .append,args:=#[s,x],argTypes:=#[48,48] })
    {base : Nat} {A : Option Addr} {n c : Nat} {bs : List EvV} (hs : a.eval s = .slice A n c) (hown : OwnEv w base A n c bs)
    {B : Nat} {D : Option Addr} {m d : Nat} {news : List EvV} (hx : a.eval x = .slice D m d) (hr : Rd w B D (ecsL news)) (hm : m = news.length)
    (hbytes : n + m≤1000000000000) (hbase : base≤w.heap.size)
    (h : ∀ A' c' w',OwnEv w' base A' (n + m) c' (bs ++ news)→w.grownBy w' (A.map (·.block))→Moved A' (A.map (·.block)) w.heap.size→Below base w w' →
      wpList Tryz.prog ops Q rest (a.put o.dst (.slice A' (n + m) c')) w') : wpList Tryz.prog ops Q (o :: rest) a w:=by
  obtain ⟨i0,hi,hz0,hz1,hz2⟩:=info_parts infoEv
  have hob : (Value.slice A n c).ownBlock = A.map (·.block):=by cases A <;> rfl
  refine wpList_app w hgd s x 48 ho base 47 i0 (.agg (cT 0)) 14 128 Tryz.underlying48 hi hz0 hz1 hz2 rfl (by decide) _ _ _ hs hown.2 B D m d (ecsL news) hx hr (by rw [ecsL_len,hm]) (ecsL_one _) (by unfold maxLen;omega) (by omega) hbase ?_;intro A' c' w' h1 h2 h3;rw [hob] at h2 h3;exact h A' c' w' ⟨by rw [List.length_append,hown.1,hm],by rw [ecsL_app];exact h1⟩ h2 h3 ((Below.refl _ _).grown h2 hbase (fun g hg=>(hown.lt g hg).1))
theorem buildE1 (x : EvV) (w : World) : (Instr.buildSlice 48 1 #[(0,.agg x.cs)]).run Tryz.prog w = .ok (.slice (some ⟨w.heap.size,0,none⟩) 1 1) (w.alloc (.cells x.cs 47)):=by
  obtain ⟨⟨⟨n,q⟩,t,k,wk,v,p,l⟩,A,m,c⟩:=x
  unfold EvV.cs ec
  simp only
  generalize p.getD 0 0 = p0,p.getD 1 0 = p1,p.getD 2 0 = p2,p.getD 3 0 = p3,p.getD 4 0 = p4,p.getD 5 0 = p5,p.getD 6 0 = p6
  kernel_rfl
def CopiesEnd (w : World) (n : Nat) (xs : List EvV) (e : Ending) (w' : World) : Prop:=∃ A' c' ys,e = .returned (.slice A' n c')∧OwnEv w' w.heap.size A' n c' ys∧(∀ y ∈ ys,EvOwn w' w.heap.size y)∧ys.map (·.e) = xs.map (·.e)∧Below w.heap.size w w'
end Go.Proofs.YtfpenfgmpbdakaaGreat
