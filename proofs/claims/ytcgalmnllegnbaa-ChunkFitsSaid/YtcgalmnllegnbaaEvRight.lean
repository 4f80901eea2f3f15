import Derived.Test.YtcgalmnllegnbaaEvNamed
namespace Go.Proofs.Ytcgalmnllegnbaa
set_option linter.unusedVariables false
set_option linter.unusedSimpArgs false
set_option maxRecDepth 100000
open Go.RowKit
open Dot Evt
theorem ecells {w : World} {b : Nat} {T : Nat} {v0 v1 v2 v3 v4 v5 v6 v7 v8 v9 v10 v11 v12 v13 : Value} (k : Blk w b T #[v0,v1,v2,v3,v4,v5,v6,v7,v8,v9,v10,v11,v12,v13]) :
    w.cell? ⟨b,0,none⟩ = some v0∧w.cell? ⟨b,1,none⟩ = some v1∧w.cell? ⟨b,2,none⟩ = some v2∧w.cell? ⟨b,3,none⟩ = some v3∧w.cell? ⟨b,4,none⟩ = some v4∧w.cell? ⟨b,5,none⟩ = some v5∧w.cell? ⟨b,6,none⟩ = some v6∧w.cell? ⟨b,7,none⟩ = some v7∧w.cell? ⟨b,8,none⟩ = some v8∧w.cell? ⟨b,9,none⟩ = some v9∧w.cell? ⟨b,10,none⟩ = some v10∧w.cell? ⟨b,11,none⟩ = some v11∧w.cell? ⟨b,12,none⟩ = some v12∧w.cell? ⟨b,13,none⟩ = some v13 :=
  ⟨k.cell 0,k.cell 1,k.cell 2,k.cell 3,k.cell 4,k.cell 5,k.cell 6,k.cell 7,k.cell 8,k.cell 9,k.cell 10,k.cell 11,k.cell 12,k.cell 13⟩
set_option maxRecDepth 100000 in
set_option maxHeartbeats 1000000 in
theorem eright_any (x : Ev) (hp : x.p.length = 7) (A : Option Addr) (m c : Nat) (w : World) (hl : RdD w w.heap.size A m x.l) :
    Calls Try.prog 80 #[.agg (ec x (.slice A m c))] w fun e w'=>e = .returned (.bool (rightE x))∧Below w.heap.size w w':=by
  obtain ⟨R,hR⟩ : ∃ R,R = rightE x:=⟨_,rfl⟩;rw [← hR];obtain ⟨⟨n,q⟩,t,k,wk,v,p,l⟩:=x;have hpol:=rightpol_any p;obtain ⟨K,hK⟩ : ∃ K,K = kindB ⟨(n,q),t,k,wk,v,p,l⟩:=⟨_,rfl⟩
  have hR2 : R = (mayB (n,q) && inB t 1 top && inB wk 0 7 && decide (l.length≤96) && namedB (n,q) l && K):=by rw [hR,hK];rfl
  clear hR
  simp only at hl hp
  have HM:=Lib.hid hl.1;have hbb : Below w.heap.size w (w.alloc (.cells (ec ⟨(n,q),t,k,wk,v,p,l⟩ (.slice A m c)) 50)):=(Below.refl _ _).alloc (Nat.le_refl _) _;have kb : Blk (w.alloc (.cells (ec ⟨(n,q),t,k,wk,v,p,l⟩ (.slice A m c)) 50)) w.heap.size 50 (ec ⟨(n,q),t,k,wk,v,p,l⟩ (.slice A m c)):=Blk.new _ _ _
  unfold ec at hbb kb ⊢
  unfold pc at hpol
  simp only at hbb kb ⊢
  have hpz : p = p0↔(p.getD 0 0 = 0∧p.getD 1 0 = 0∧p.getD 2 0 = 0∧p.getD 3 0 = 0∧p.getD 4 0 = 0∧p.getD 5 0 = 0∧p.getD 6 0 = 0):=by
    match p,hp with
    | [a,b,c,d,e,f,g],_=>simp [p0]
  have hKp : K = if k = 1 then decide (p = p0) && inB v 0 top && decide (l = []) else if k = 2 then polB p && decide (v = 0) else if k = 3 then decide (p = p0) && decide (v = 0) else false:=by rw [hK];rfl
  clear hK hp
  generalize hpp : decide (p = p0) = PZ at hKp
  have hpz2 : PZ = decide (p.getD 0 0 = 0∧p.getD 1 0 = 0∧p.getD 2 0 = 0∧p.getD 3 0 = 0∧p.getD 4 0 = 0∧p.getD 5 0 = 0∧p.getD 6 0 = 0):=by
    rw [← hpp];exact decide_eq_decide.2 hpz
  clear hpp hpz
  generalize polB p = PB at hKp hpol
  generalize p.getD 0 0 = p0,p.getD 1 0 = p1,p.getD 2 0 = p2,p.getD 3 0 = p3,p.getD 4 0 = p4,p.getD 5 0 = p5,p.getD 6 0 = p6 at *
  have HR:=Lib.hid hR2;have HK:=Lib.hid hKp;have HZ:=Lib.hid hpz2;have HP:=Lib.hid hpol;have HL:=Lib.hid hl;clear hR2 hKp hpz2 hpol hl
  go_enter Try.func80,Try.ntmps80
  go_upto_region 1 with fail
  refine nameW ?_;intro wv hwv;obtain ⟨b,hb⟩ : ∃ b,b = w.heap.size:=⟨_,rfl⟩;rw [← hb];rw [← hwv,← hb] at kb hbb;have hlv:=HL.out.below (B:=w.heap.size) (by rw [← hb];exact hbb);rw [← hb] at hlv;obtain ⟨c0,c1,_⟩:=ecells kb;have ha:=add0_any n q wv;have hbw:=hbb.size;have HBE:=Lib.hid hb;clear hwv hb HL;go_wp2_with fail
  --TAIL
  rcases hm : mayB (n,q) with _ | _
  · rw [hm] at ha
    refine ha.mono ?_;rintro e w2 ⟨sc,s9,s1,rfl,b2⟩;have hb2:=hbb.trans (b2.mono (by have:=kb.lt;omega));have kb2:=kb.below b2 kb.lt;have hl2:=hlv.below (b2.mono (by have:=kb.lt;omega));have S9:=Lib.hid s9;have SO:=Lib.hid s1;clear s9 s1 ha kb hlv c0 c1
    go_wp2_with ((with_reducible refine wpList_st rowS (Blk.new _ _ _) S9.out ?_ SO.out ?_ ?_ ?_);(rfl);rotate_left;(rfl);(rfl);intro w3 k3 g3 z3)
    have bx : Below w2.heap.size w2 w3:=((Below.refl _ _).alloc (Nat.le_refl _) _).grown g3 (by simp) (fun r hr=>by injection hr with hr;omega);have hb3:=hb2.trans (bx.mono (by have:=kb2.lt;omega));have kb3:=kb2.below bx kb2.lt;have hl3:=hl2.below (bx.mono (by have:=kb2.lt;omega));go_wp2_with fail;go_ret;refine ⟨?_,by rw [← HBE.out];exact hb3⟩;rw [HR.out,hm]
    rfl
  rw [hm] at ha;have HMY:=Lib.hid hm;clear hm;refine ha.mono ?_;rintro e w2 ⟨sc,s9,s1,rfl,b2⟩;have hb2:=hbb.trans (b2.mono (by have:=kb.lt;omega));have kb2:=kb.below b2 kb.lt;have hl2:=hlv.below (b2.mono (by have:=kb.lt;omega));have S9:=Lib.hid s9;have SO:=Lib.hid s1;clear s9 s1 ha kb hlv c0 c1
  go_wp2_with (
    (with_reducible refine wpList_st rowS (Blk.new _ _ _) S9.out ?_ SO.out ?_ ?_ ?_)
    (rfl)
    rotate_left
    (rfl)
    (rfl)
    intro w3 k3 g3 z3;have bx : Below w2.heap.size w2 w3:=((Below.refl _ _).alloc (Nat.le_refl _) _).grown g3 (by simp) (fun r hr=>by injection hr with hr;omega);have hb3:=hb2.trans (bx.mono (by have:=kb2.lt;omega));have kb3:=kb2.below bx kb2.lt;have hl3:=hl2.below (bx.mono (by have:=kb2.lt;omega));have hs3:=kb3.lt;obtain ⟨c0,c1,c2,c3,c4,c5,c6,c7,c8,c9,c10,c11,c12,c13⟩:=ecells kb3;have KB:=Lib.hid kb3
    clear k3 g3 z3 kb2 hl2 bx S9 SO kb3)
  refine (within_any _ _ _ _).mono ?_;rintro e w4 ⟨rfl,rfl⟩
  rcases ht : inB t 1 1099511627776 with _ | _
  · go_wp2_with fail
    go_ret;refine ⟨?_,by rw [← HBE.out];exact hb3⟩;rw [HR.out,HMY.out,show inB t 1 top = false from ht]
    rfl
  go_wp2_with fail;refine (within_any _ _ _ _).mono ?_;rintro e w4 ⟨rfl,rfl⟩
  rcases hwk : inB wk 0 7 with _ | _
  · go_wp2_with fail
    go_ret;refine ⟨?_,by rw [← HBE.out];exact hb3⟩;rw [HR.out,HMY.out,show inB t 1 top = true from ht,hwk]
    rfl
  by_cases hlen : 96 < m
  · have hlen' : (96 : Int) < (m : Int):=by omega
    go_wp2_with fail;go_ret;refine ⟨?_,by rw [← HBE.out];exact hb3⟩;rw [HR.out,HMY.out,show inB t 1 top = true from ht,hwk,decide_eq_false (by have:=HM.out;omega)]
    rfl
  have hlen' : decide ((96 : Int) < (m : Int)) = false:=decide_eq_false (by omega);go_wp2_with fail;refine (named_any n q A m c l w3 (hl3.more (by omega)) (by omega)).mono ?_;rintro e w4 ⟨rfl,b4⟩;have kb4:=KB.out.below b4 KB.out.lt;have hb4:=hb3.trans (b4.mono (by omega));clear KB c0 c1 c2 c3 c4 c5 c6 c7 c8 c9 c10 c11 c12 c13 hl3;obtain ⟨c0,c1,c2,c3,c4,c5,c6,c7,c8,c9,c10,c11,c12,c13⟩:=ecells kb4
  rcases hnm : namedB (n,q) l with _ | _
  · go_wp2_with fail
    go_ret;refine ⟨?_,by rw [← HBE.out];exact hb4⟩;rw [HR.out,HMY.out,show inB t 1 top = true from ht,hwk,decide_eq_true (by have:=HM.out;omega),hnm]
    rfl
  have hRK : R = K:=by
    rw [HR.out,HMY.out,show inB t 1 top = true from ht,hwk,decide_eq_true (by have:=HM.out;omega),hnm]
    rfl
  have HS4:=Lib.hid kb4.lt;clear HR HMY ht hwk hnm kb4 b4 hb3;have HB4:=Lib.hid hb4;have hs4 : b < w4.heap.size:=HS4.out;clear hb4
  by_cases hp0 : p0 = 0
  rotate_left
  · have hz : PZ = false:=by rw [HZ.out,decide_eq_false_iff_not];omega
    go_upto_region 7 with fail
    clear hp0
    by_cases k1 : k = 1
    · have hKv:=HK.out
      rw [if_pos k1] at hKv;clear HK;have HK:=Lib.hid hKv;clear hKv;subst k1;go_wp2_with fail;go_ret;refine ⟨?_,by rw [← HBE.out];exact HB4.out⟩;rw [hRK,HK.out,hz]
      rfl
    by_cases k2 : k = 2
    · have hKv:=HK.out
      rw [if_neg k1,if_pos k2] at hKv;clear HK;have HK:=Lib.hid hKv;clear hKv;subst k2;clear k1;go_wp2_with fail;refine (HP.out _).mono ?_;rintro e w5 ⟨rfl,b5⟩;have hb5:=HB4.out.trans (b5.mono (by have:=HB4.out.size;omega))
      rcases PB with _ | _
      · have c5' : w5.cell? ⟨b,5,none⟩ = some (.int .i64 v):=by rw [b5.cell (by omega)];exact c5
        go_wp2_with fail;go_ret;refine ⟨?_,by rw [← HBE.out];exact hb5⟩;rw [hRK,HK.out]
        rfl
      have c5' : w5.cell? ⟨b,5,none⟩ = some (.int .i64 v):=by rw [b5.cell (by omega)];exact c5
      by_cases hv : v = 0
      · have hKv:=HK.out
        rw [decide_eq_true hv] at hKv;clear HK;have HK:=Lib.hid hKv;clear hKv;subst hv;go_wp2_with fail;go_ret;refine ⟨?_,by rw [← HBE.out];exact hb5⟩;rw [hRK,HK.out]
        rfl
      have hv2 : (v == (0 : Int)) = false:=by rw [beq_eq_false_iff_ne];exact hv
      go_wp2_with fail;go_ret;refine ⟨?_,by rw [← HBE.out];exact hb5⟩;rw [hRK,HK.out,decide_eq_false hv]
      rfl
    by_cases k3 : k = 3
    · have hKv:=HK.out
      rw [if_neg k1,if_neg k2,if_pos k3] at hKv;clear HK;have HK:=Lib.hid hKv;clear hKv;subst k3;clear k1 k2;go_wp2_with fail;go_ret;refine ⟨?_,by rw [← HBE.out];exact HB4.out⟩;rw [hRK,HK.out,hz]
      rfl
    go_wp2_with fail;go_ret;refine ⟨?_,by rw [← HBE.out];exact HB4.out⟩;rw [hRK,HK.out,if_neg k1,if_neg k2,if_neg k3]
    rfl
  subst hp0
  by_cases hp1 : p1 = 0
  rotate_left
  · have hz : PZ = false:=by rw [HZ.out,decide_eq_false_iff_not];omega
    go_upto_region 7 with fail
    clear hp1
    by_cases k1 : k = 1
    · have hKv:=HK.out
      rw [if_pos k1] at hKv;clear HK;have HK:=Lib.hid hKv;clear hKv;subst k1;go_wp2_with fail;go_ret;refine ⟨?_,by rw [← HBE.out];exact HB4.out⟩;rw [hRK,HK.out,hz]
      rfl
    by_cases k2 : k = 2
    · have hKv:=HK.out
      rw [if_neg k1,if_pos k2] at hKv;clear HK;have HK:=Lib.hid hKv;clear hKv;subst k2;clear k1;go_wp2_with fail;refine (HP.out _).mono ?_;rintro e w5 ⟨rfl,b5⟩;have hb5:=HB4.out.trans (b5.mono (by have:=HB4.out.size;omega))
      rcases PB with _ | _
      · have c5' : w5.cell? ⟨b,5,none⟩ = some (.int .i64 v):=by rw [b5.cell (by omega)];exact c5
        go_wp2_with fail;go_ret;refine ⟨?_,by rw [← HBE.out];exact hb5⟩;rw [hRK,HK.out]
        rfl
      have c5' : w5.cell? ⟨b,5,none⟩ = some (.int .i64 v):=by rw [b5.cell (by omega)];exact c5
      by_cases hv : v = 0
      · have hKv:=HK.out
        rw [decide_eq_true hv] at hKv;clear HK;have HK:=Lib.hid hKv;clear hKv;subst hv;go_wp2_with fail;go_ret;refine ⟨?_,by rw [← HBE.out];exact hb5⟩;rw [hRK,HK.out]
        rfl
      have hv2 : (v == (0 : Int)) = false:=by rw [beq_eq_false_iff_ne];exact hv
      go_wp2_with fail;go_ret;refine ⟨?_,by rw [← HBE.out];exact hb5⟩;rw [hRK,HK.out,decide_eq_false hv]
      rfl
    by_cases k3 : k = 3
    · have hKv:=HK.out
      rw [if_neg k1,if_neg k2,if_pos k3] at hKv;clear HK;have HK:=Lib.hid hKv;clear hKv;subst k3;clear k1 k2;go_wp2_with fail;go_ret;refine ⟨?_,by rw [← HBE.out];exact HB4.out⟩;rw [hRK,HK.out,hz]
      rfl
    go_wp2_with fail;go_ret;refine ⟨?_,by rw [← HBE.out];exact HB4.out⟩;rw [hRK,HK.out,if_neg k1,if_neg k2,if_neg k3]
    rfl
  subst hp1
  by_cases hp2 : p2 = 0
  rotate_left
  · have hz : PZ = false:=by rw [HZ.out,decide_eq_false_iff_not];omega
    go_upto_region 7 with fail
    clear hp2
    by_cases k1 : k = 1
    · have hKv:=HK.out
      rw [if_pos k1] at hKv;clear HK;have HK:=Lib.hid hKv;clear hKv;subst k1;go_wp2_with fail;go_ret;refine ⟨?_,by rw [← HBE.out];exact HB4.out⟩;rw [hRK,HK.out,hz]
      rfl
    by_cases k2 : k = 2
    · have hKv:=HK.out
      rw [if_neg k1,if_pos k2] at hKv;clear HK;have HK:=Lib.hid hKv;clear hKv;subst k2;clear k1;go_wp2_with fail;refine (HP.out _).mono ?_;rintro e w5 ⟨rfl,b5⟩;have hb5:=HB4.out.trans (b5.mono (by have:=HB4.out.size;omega))
      rcases PB with _ | _
      · have c5' : w5.cell? ⟨b,5,none⟩ = some (.int .i64 v):=by rw [b5.cell (by omega)];exact c5
        go_wp2_with fail;go_ret;refine ⟨?_,by rw [← HBE.out];exact hb5⟩;rw [hRK,HK.out]
        rfl
      have c5' : w5.cell? ⟨b,5,none⟩ = some (.int .i64 v):=by rw [b5.cell (by omega)];exact c5
      by_cases hv : v = 0
      · have hKv:=HK.out
        rw [decide_eq_true hv] at hKv;clear HK;have HK:=Lib.hid hKv;clear hKv;subst hv;go_wp2_with fail;go_ret;refine ⟨?_,by rw [← HBE.out];exact hb5⟩;rw [hRK,HK.out]
        rfl
      have hv2 : (v == (0 : Int)) = false:=by rw [beq_eq_false_iff_ne];exact hv
      go_wp2_with fail;go_ret;refine ⟨?_,by rw [← HBE.out];exact hb5⟩;rw [hRK,HK.out,decide_eq_false hv]
      rfl
    by_cases k3 : k = 3
    · have hKv:=HK.out
      rw [if_neg k1,if_neg k2,if_pos k3] at hKv;clear HK;have HK:=Lib.hid hKv;clear hKv;subst k3;clear k1 k2;go_wp2_with fail;go_ret;refine ⟨?_,by rw [← HBE.out];exact HB4.out⟩;rw [hRK,HK.out,hz]
      rfl
    go_wp2_with fail;go_ret;refine ⟨?_,by rw [← HBE.out];exact HB4.out⟩;rw [hRK,HK.out,if_neg k1,if_neg k2,if_neg k3]
    rfl
  subst hp2
  by_cases hp3 : p3 = 0
  rotate_left
  · have hz : PZ = false:=by rw [HZ.out,decide_eq_false_iff_not];omega
    go_upto_region 7 with fail
    clear hp3
    by_cases k1 : k = 1
    · have hKv:=HK.out
      rw [if_pos k1] at hKv;clear HK;have HK:=Lib.hid hKv;clear hKv;subst k1;go_wp2_with fail;go_ret;refine ⟨?_,by rw [← HBE.out];exact HB4.out⟩;rw [hRK,HK.out,hz]
      rfl
    by_cases k2 : k = 2
    · have hKv:=HK.out
      rw [if_neg k1,if_pos k2] at hKv;clear HK;have HK:=Lib.hid hKv;clear hKv;subst k2;clear k1;go_wp2_with fail;refine (HP.out _).mono ?_;rintro e w5 ⟨rfl,b5⟩;have hb5:=HB4.out.trans (b5.mono (by have:=HB4.out.size;omega))
      rcases PB with _ | _
      · have c5' : w5.cell? ⟨b,5,none⟩ = some (.int .i64 v):=by rw [b5.cell (by omega)];exact c5
        go_wp2_with fail;go_ret;refine ⟨?_,by rw [← HBE.out];exact hb5⟩;rw [hRK,HK.out]
        rfl
      have c5' : w5.cell? ⟨b,5,none⟩ = some (.int .i64 v):=by rw [b5.cell (by omega)];exact c5
      by_cases hv : v = 0
      · have hKv:=HK.out
        rw [decide_eq_true hv] at hKv;clear HK;have HK:=Lib.hid hKv;clear hKv;subst hv;go_wp2_with fail;go_ret;refine ⟨?_,by rw [← HBE.out];exact hb5⟩;rw [hRK,HK.out]
        rfl
      have hv2 : (v == (0 : Int)) = false:=by rw [beq_eq_false_iff_ne];exact hv
      go_wp2_with fail;go_ret;refine ⟨?_,by rw [← HBE.out];exact hb5⟩;rw [hRK,HK.out,decide_eq_false hv]
      rfl
    by_cases k3 : k = 3
    · have hKv:=HK.out
      rw [if_neg k1,if_neg k2,if_pos k3] at hKv;clear HK;have HK:=Lib.hid hKv;clear hKv;subst k3;clear k1 k2;go_wp2_with fail;go_ret;refine ⟨?_,by rw [← HBE.out];exact HB4.out⟩;rw [hRK,HK.out,hz]
      rfl
    go_wp2_with fail;go_ret;refine ⟨?_,by rw [← HBE.out];exact HB4.out⟩;rw [hRK,HK.out,if_neg k1,if_neg k2,if_neg k3]
    rfl
  subst hp3
  by_cases hp4 : p4 = 0
  rotate_left
  · have hz : PZ = false:=by rw [HZ.out,decide_eq_false_iff_not];omega
    go_upto_region 7 with fail
    clear hp4
    by_cases k1 : k = 1
    · have hKv:=HK.out
      rw [if_pos k1] at hKv;clear HK;have HK:=Lib.hid hKv;clear hKv;subst k1;go_wp2_with fail;go_ret;refine ⟨?_,by rw [← HBE.out];exact HB4.out⟩;rw [hRK,HK.out,hz]
      rfl
    by_cases k2 : k = 2
    · have hKv:=HK.out
      rw [if_neg k1,if_pos k2] at hKv;clear HK;have HK:=Lib.hid hKv;clear hKv;subst k2;clear k1;go_wp2_with fail;refine (HP.out _).mono ?_;rintro e w5 ⟨rfl,b5⟩;have hb5:=HB4.out.trans (b5.mono (by have:=HB4.out.size;omega))
      rcases PB with _ | _
      · have c5' : w5.cell? ⟨b,5,none⟩ = some (.int .i64 v):=by rw [b5.cell (by omega)];exact c5
        go_wp2_with fail;go_ret;refine ⟨?_,by rw [← HBE.out];exact hb5⟩;rw [hRK,HK.out]
        rfl
      have c5' : w5.cell? ⟨b,5,none⟩ = some (.int .i64 v):=by rw [b5.cell (by omega)];exact c5
      by_cases hv : v = 0
      · have hKv:=HK.out
        rw [decide_eq_true hv] at hKv;clear HK;have HK:=Lib.hid hKv;clear hKv;subst hv;go_wp2_with fail;go_ret;refine ⟨?_,by rw [← HBE.out];exact hb5⟩;rw [hRK,HK.out]
        rfl
      have hv2 : (v == (0 : Int)) = false:=by rw [beq_eq_false_iff_ne];exact hv
      go_wp2_with fail;go_ret;refine ⟨?_,by rw [← HBE.out];exact hb5⟩;rw [hRK,HK.out,decide_eq_false hv]
      rfl
    by_cases k3 : k = 3
    · have hKv:=HK.out
      rw [if_neg k1,if_neg k2,if_pos k3] at hKv;clear HK;have HK:=Lib.hid hKv;clear hKv;subst k3;clear k1 k2;go_wp2_with fail;go_ret;refine ⟨?_,by rw [← HBE.out];exact HB4.out⟩;rw [hRK,HK.out,hz]
      rfl
    go_wp2_with fail;go_ret;refine ⟨?_,by rw [← HBE.out];exact HB4.out⟩;rw [hRK,HK.out,if_neg k1,if_neg k2,if_neg k3]
    rfl
  subst hp4
  by_cases hp5 : p5 = 0
  rotate_left
  · have hz : PZ = false:=by rw [HZ.out,decide_eq_false_iff_not];omega
    go_upto_region 7 with fail
    clear hp5
    by_cases k1 : k = 1
    · have hKv:=HK.out
      rw [if_pos k1] at hKv;clear HK;have HK:=Lib.hid hKv;clear hKv;subst k1;go_wp2_with fail;go_ret;refine ⟨?_,by rw [← HBE.out];exact HB4.out⟩;rw [hRK,HK.out,hz]
      rfl
    by_cases k2 : k = 2
    · have hKv:=HK.out
      rw [if_neg k1,if_pos k2] at hKv;clear HK;have HK:=Lib.hid hKv;clear hKv;subst k2;clear k1;go_wp2_with fail;refine (HP.out _).mono ?_;rintro e w5 ⟨rfl,b5⟩;have hb5:=HB4.out.trans (b5.mono (by have:=HB4.out.size;omega))
      rcases PB with _ | _
      · have c5' : w5.cell? ⟨b,5,none⟩ = some (.int .i64 v):=by rw [b5.cell (by omega)];exact c5
        go_wp2_with fail;go_ret;refine ⟨?_,by rw [← HBE.out];exact hb5⟩;rw [hRK,HK.out]
        rfl
      have c5' : w5.cell? ⟨b,5,none⟩ = some (.int .i64 v):=by rw [b5.cell (by omega)];exact c5
      by_cases hv : v = 0
      · have hKv:=HK.out
        rw [decide_eq_true hv] at hKv;clear HK;have HK:=Lib.hid hKv;clear hKv;subst hv;go_wp2_with fail;go_ret;refine ⟨?_,by rw [← HBE.out];exact hb5⟩;rw [hRK,HK.out]
        rfl
      have hv2 : (v == (0 : Int)) = false:=by rw [beq_eq_false_iff_ne];exact hv
      go_wp2_with fail;go_ret;refine ⟨?_,by rw [← HBE.out];exact hb5⟩;rw [hRK,HK.out,decide_eq_false hv]
      rfl
    by_cases k3 : k = 3
    · have hKv:=HK.out
      rw [if_neg k1,if_neg k2,if_pos k3] at hKv;clear HK;have HK:=Lib.hid hKv;clear hKv;subst k3;clear k1 k2;go_wp2_with fail;go_ret;refine ⟨?_,by rw [← HBE.out];exact HB4.out⟩;rw [hRK,HK.out,hz]
      rfl
    go_wp2_with fail;go_ret;refine ⟨?_,by rw [← HBE.out];exact HB4.out⟩;rw [hRK,HK.out,if_neg k1,if_neg k2,if_neg k3]
    rfl
  subst hp5
  by_cases hp6 : p6 = 0
  rotate_left
  · have hz : PZ = false:=by rw [HZ.out,decide_eq_false_iff_not];omega
    go_upto_region 7 with fail
    clear hp6
    by_cases k1 : k = 1
    · have hKv:=HK.out
      rw [if_pos k1] at hKv;clear HK;have HK:=Lib.hid hKv;clear hKv;subst k1;go_wp2_with fail;go_ret;refine ⟨?_,by rw [← HBE.out];exact HB4.out⟩;rw [hRK,HK.out,hz]
      rfl
    by_cases k2 : k = 2
    · have hKv:=HK.out
      rw [if_neg k1,if_pos k2] at hKv;clear HK;have HK:=Lib.hid hKv;clear hKv;subst k2;clear k1;go_wp2_with fail;refine (HP.out _).mono ?_;rintro e w5 ⟨rfl,b5⟩;have hb5:=HB4.out.trans (b5.mono (by have:=HB4.out.size;omega))
      rcases PB with _ | _
      · have c5' : w5.cell? ⟨b,5,none⟩ = some (.int .i64 v):=by rw [b5.cell (by omega)];exact c5
        go_wp2_with fail;go_ret;refine ⟨?_,by rw [← HBE.out];exact hb5⟩;rw [hRK,HK.out]
        rfl
      have c5' : w5.cell? ⟨b,5,none⟩ = some (.int .i64 v):=by rw [b5.cell (by omega)];exact c5
      by_cases hv : v = 0
      · have hKv:=HK.out
        rw [decide_eq_true hv] at hKv;clear HK;have HK:=Lib.hid hKv;clear hKv;subst hv;go_wp2_with fail;go_ret;refine ⟨?_,by rw [← HBE.out];exact hb5⟩;rw [hRK,HK.out]
        rfl
      have hv2 : (v == (0 : Int)) = false:=by rw [beq_eq_false_iff_ne];exact hv
      go_wp2_with fail;go_ret;refine ⟨?_,by rw [← HBE.out];exact hb5⟩;rw [hRK,HK.out,decide_eq_false hv]
      rfl
    by_cases k3 : k = 3
    · have hKv:=HK.out
      rw [if_neg k1,if_neg k2,if_pos k3] at hKv;clear HK;have HK:=Lib.hid hKv;clear hKv;subst k3;clear k1 k2;go_wp2_with fail;go_ret;refine ⟨?_,by rw [← HBE.out];exact HB4.out⟩;rw [hRK,HK.out,hz]
      rfl
    go_wp2_with fail;go_ret;refine ⟨?_,by rw [← HBE.out];exact HB4.out⟩;rw [hRK,HK.out,if_neg k1,if_neg k2,if_neg k3]
    rfl
  subst hp6
  have hz : PZ = true:=by rw [HZ.out];simp
  go_upto_region 7 with fail
  by_cases k1 : k = 1
  · have hKv:=HK.out
    rw [if_pos k1] at hKv;clear HK;have HK:=Lib.hid hKv;clear hKv;subst k1;go_wp2_with fail;refine (within_any _ _ _ _).mono ?_;rintro e w5 ⟨rfl,rfl⟩
    rcases hv : inB v 0 1099511627776 with _ | _
    · skip
      go_wp2_with fail;go_ret;refine ⟨?_,by rw [← HBE.out];exact HB4.out⟩;rw [hRK,HK.out,hz,show inB v 0 top = false from hv]
      rfl
    by_cases hm0 : m = 0
    · subst hm0
      have hl0 : l = []:=List.length_eq_zero_iff.1 HM.out.symm;go_wp2_with fail;go_ret;refine ⟨?_,by rw [← HBE.out];exact HB4.out⟩;rw [hRK,HK.out,hz,show inB v 0 top = true from hv,decide_eq_true hl0]
      rfl
    have hl0 : ¬ l = []:=fun h=>hm0 (by rw [HM.out,h];rfl)
    have hm1 : ((m : Int) == (0 : Int)) = false:=by rw [beq_eq_false_iff_ne];omega
    go_wp2_with fail;go_ret;refine ⟨?_,by rw [← HBE.out];exact HB4.out⟩;rw [hRK,HK.out,hz,show inB v 0 top = true from hv,decide_eq_false hl0]
    rfl
  by_cases k2 : k = 2
  · have hKv:=HK.out
    rw [if_neg k1,if_pos k2] at hKv;clear HK;have HK:=Lib.hid hKv;clear hKv;subst k2;clear k1;go_wp2_with fail;refine (HP.out _).mono ?_;rintro e w5 ⟨rfl,b5⟩;have hb5:=HB4.out.trans (b5.mono (by have:=HB4.out.size;omega))
    rcases PB with _ | _
    · have c5' : w5.cell? ⟨b,5,none⟩ = some (.int .i64 v):=by rw [b5.cell (by omega)];exact c5
      go_wp2_with fail;go_ret;refine ⟨?_,by rw [← HBE.out];exact hb5⟩;rw [hRK,HK.out]
      rfl
    have c5' : w5.cell? ⟨b,5,none⟩ = some (.int .i64 v):=by rw [b5.cell (by omega)];exact c5
    by_cases hv : v = 0
    · have hKv:=HK.out
      rw [decide_eq_true hv] at hKv;clear HK;have HK:=Lib.hid hKv;clear hKv;subst hv;go_wp2_with fail;go_ret;refine ⟨?_,by rw [← HBE.out];exact hb5⟩;rw [hRK,HK.out]
      rfl
    have hv2 : (v == (0 : Int)) = false:=by rw [beq_eq_false_iff_ne];exact hv
    go_wp2_with fail;go_ret;refine ⟨?_,by rw [← HBE.out];exact hb5⟩;rw [hRK,HK.out,decide_eq_false hv]
    rfl
  by_cases k3 : k = 3
  · have hKv:=HK.out
    rw [if_neg k1,if_neg k2,if_pos k3] at hKv;clear HK;have HK:=Lib.hid hKv;clear hKv;subst k3;clear k1 k2
    by_cases hv : v = 0
    · have hKv:=HK.out
      rw [decide_eq_true hv] at hKv;clear HK;have HK:=Lib.hid hKv;clear hKv;subst hv;go_wp2_with fail;go_ret;refine ⟨?_,by rw [← HBE.out];exact HB4.out⟩;rw [hRK,HK.out,hz]
      rfl
    have hv2 : (v == (0 : Int)) = false:=by rw [beq_eq_false_iff_ne];exact hv
    go_wp2_with fail;go_ret;refine ⟨?_,by rw [← HBE.out];exact HB4.out⟩;rw [hRK,HK.out,hz,decide_eq_false hv]
    rfl
  go_wp2_with fail;go_ret;refine ⟨?_,by rw [← HBE.out];exact HB4.out⟩;rw [hRK,HK.out,if_neg k1,if_neg k2,if_neg k3]
  rfl
end Go.Proofs.Ytcgalmnllegnbaa
