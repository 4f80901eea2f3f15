import Derived.Test.YtcgalmnllegnbaaEvPolW
namespace Go.Proofs.Ytcgalmnllegnbaa
set_option linter.unusedVariables false
set_option linter.unusedSimpArgs false
set_option maxRecDepth 100000
open Go.RowKit
open Dot Evt
def dotN (l : List Dt) : List Nat:=l.flatMap fun d=>[d.1.toNat,d.2.toNat]
theorem dotN_snoc (l : List Dt) (d : Dt) : dotN (l ++ [d]) = dotN l ++ [d.1.toNat,d.2.toNat]:=by simp [dotN]
theorem encN_len (l : List Nat) : (encN l).length≤6 * l.length:=by
  induction l with
  | nil=>simp [encN]
  | cons a l ih =>
    rw [encN_cons,List.length_append,List.length_cons]
    have:=enc_len6 a
    omega
theorem dotN_len (l : List Dt) : (dotN l).length = 2 * l.length:=by
  induction l with
  | nil=>rfl
  | cons a l ih=>simp [dotN] at ih ⊢;omega
set_option maxRecDepth 100000 in
set_option maxHeartbeats 2000000 in
theorem thrw_any (b g : Nat) (bs : List UInt8) (n q t k wk v p0 p1 p2 p3 p4 p5 p6 : Nat) (A : Option Addr) (m c : Nat) (l : List Dt) (w : World) (h : WrS w g bs)
    (hb : Blk w b 50 #[.int .i64 n,.int .i64 q,.int .i64 t,.int .i64 k,.int .i64 wk,.int .i64 v,.int .i64 p0,.int .i64 p1,.int .i64 p2,.int .i64 p3,.int .i64 p4,.int .i64 p5,.int .i64 p6,.slice A m c]) (hne : b ≠ g)
    (h0 : n≤1099511627776) (h1 : q≤1099511627776) (h2 : t≤1099511627776) (h3 : 1≤k∧k≤3) (h4 : wk≤1099511627776) (h5 : v≤1099511627776)
    (hp0 : p0≤1099511627776) (hp1 : p1≤1099511627776) (hp2 : p2≤1099511627776) (hp3 : p3≤1099511627776) (hp4 : p4≤1099511627776) (hp5 : p5≤1099511627776) (hp6 : p6≤1099511627776)
    (hr : RdD w g A m l) (hm96 : m≤96) (hd : ∀ d ∈ l,(0≤d.1∧d.1≤1099511627776)∧0≤d.2∧d.2≤1099511627776) (hl : bs.length≤140737488350000) :
    Calls Try.prog 93 #[.pointer (some ⟨b,0,none⟩),.iface 121 (.pointer (some ⟨g,0,none⟩))] w fun e w'=>e = .returned (.tuple #[]) ∧
      WrS w' g (bs ++ encN ([n,q,t,k,wk] ++ (if k = 1 then [v] else (if k = 2 then [p0,p1,p2,p3,p4,p5,p6] else []) ++ [m] ++ dotN l)))∧w.grownBy w' (some g):=by
  obtain ⟨L,hL⟩ : ∃ L,L = ([n,q,t,k,wk] ++ (if k = 1 then [v] else (if k = 2 then [p0,p1,p2,p3,p4,p5,p6] else []) ++ [m] ++ dotN l)):=⟨_,rfl⟩;rw [← hL];have HLE:=Lib.hid hL;clear hL;have H0:=Lib.hid h0;have H1:=Lib.hid h1;have H2:=Lib.hid h2;have H3:=Lib.hid h3;have H4:=Lib.hid h4;have H5:=Lib.hid h5;have HP0:=Lib.hid hp0;have HP1:=Lib.hid hp1;have HP2:=Lib.hid hp2;have HP3:=Lib.hid hp3;have HP4:=Lib.hid hp4;have HP5:=Lib.hid hp5;have HP6:=Lib.hid hp6;have HL:=Lib.hid hl;have HD:=Lib.hid hd;have H96:=Lib.hid hm96;have HM:=Lib.hid hr.1;have HRD:=Lib.hid hr;have HBG:=Lib.hid hne;have HNE:=Lib.hid (show (some g : Option Nat) ≠ some b by simp;omega);have hbl:=hb.lt;have HGL:=Lib.hid h.lt
  have hm : ∀ w,(method 246 121 (.pointer (some ⟨g,0,none⟩)) "murmur/event.number").run Try.prog w = .ok (76,.pointer (some ⟨g,0,none⟩)) w:=fun w=>by kernel_rfl
  have hmf : ∀ (fn : Fn) (first cap : Array Value) (w : World),(Instr.makeFunc fn first cap).run Try.prog w = .ok (.func fn first cap) w:=fun _ _ _ _=>rfl
  clear h0 h1 h2 h3 h4 h5 hp0 hp1 hp2 hp3 hp4 hp5 hp6 hl hne hd hm96 hr
  have hix0 : ∀ w,(Instr.index 160 (.agg #[.pointer (some ⟨b,0,none⟩),.pointer (some ⟨b,1,none⟩),.pointer (some ⟨b,2,none⟩),.pointer (some ⟨b,3,none⟩)]) (.int .i64 0)).run Try.prog w = .ok (.pointer (some ⟨b,0,none⟩)) w:=fun w=>by kernel_rfl
  have hix1 : ∀ w,(Instr.index 160 (.agg #[.pointer (some ⟨b,0,none⟩),.pointer (some ⟨b,1,none⟩),.pointer (some ⟨b,2,none⟩),.pointer (some ⟨b,3,none⟩)]) (.int .i64 1)).run Try.prog w = .ok (.pointer (some ⟨b,1,none⟩)) w:=fun w=>by kernel_rfl
  have hix2 : ∀ w,(Instr.index 160 (.agg #[.pointer (some ⟨b,0,none⟩),.pointer (some ⟨b,1,none⟩),.pointer (some ⟨b,2,none⟩),.pointer (some ⟨b,3,none⟩)]) (.int .i64 2)).run Try.prog w = .ok (.pointer (some ⟨b,2,none⟩)) w:=fun w=>by kernel_rfl
  have hix3 : ∀ w,(Instr.index 160 (.agg #[.pointer (some ⟨b,0,none⟩),.pointer (some ⟨b,1,none⟩),.pointer (some ⟨b,2,none⟩),.pointer (some ⟨b,3,none⟩)]) (.int .i64 3)).run Try.prog w = .ok (.pointer (some ⟨b,3,none⟩)) w:=fun w=>by kernel_rfl
  go_enter Try.func93,Try.ntmps93
  go_wp2_with fail
  go_region
  go_wp2_with fail;have hw0 : WrS w.drew g bs:=h;have hb0 : Blk w.drew b 50 #[.int .i64 n,.int .i64 q,.int .i64 t,.int .i64 k,.int .i64 wk,.int .i64 v,.int .i64 p0,.int .i64 p1,.int .i64 p2,.int .i64 p3,.int .i64 p4,.int .i64 p5,.int .i64 p6,.slice A m c]:=hb;have g0 : w.grownBy w.drew (some g):=⟨rfl,rfl,rfl,Nat.le_refl _,fun _ _ _=>rfl⟩;clear h hb;refine wp_loop_rounds 5 ?_;rw [rounds_succ];go_wp2_with fail;refine (wnum_any g ⟨b,0,none⟩ (bs) n _ hw0 (hb0.cell 0) H0.out ?_).mono ?_
  · have:=HL.out
    (try simp only [List.length_append]);omega
  rintro e w1 ⟨rfl,hw1,gg⟩;have hb1:=hb0.grown gg HNE.out;have g1:=g0.trans gg;clear hw0 hb0 g0 gg;go_wp2_with fail;rw [rounds_succ];go_wp2_with fail;refine (wnum_any g ⟨b,1,none⟩ (bs ++ Vint.enc n) q _ hw1 (hb1.cell 1) H1.out ?_).mono ?_
  · have:=HL.out
    have:=enc_len6 n;(try simp only [List.length_append]);omega
  rintro e w2 ⟨rfl,hw2,gg⟩;have hb2:=hb1.grown gg HNE.out;have g2:=g1.trans gg;clear hw1 hb1 g1 gg;go_wp2_with fail;rw [rounds_succ];go_wp2_with fail;refine (wnum_any g ⟨b,2,none⟩ (bs ++ Vint.enc n ++ Vint.enc q) t _ hw2 (hb2.cell 2) H2.out ?_).mono ?_
  · have:=HL.out
    have:=enc_len6 n;have:=enc_len6 q;(try simp only [List.length_append]);omega
  rintro e w3 ⟨rfl,hw3,gg⟩;have hb3:=hb2.grown gg HNE.out;have g3:=g2.trans gg;clear hw2 hb2 g2 gg;go_wp2_with fail;rw [rounds_succ];go_wp2_with fail;refine (wnum_any g ⟨b,3,none⟩ (bs ++ Vint.enc n ++ Vint.enc q ++ Vint.enc t) k _ hw3 (hb3.cell 3) (by have:=H3.out;omega) ?_).mono ?_
  · have:=HL.out
    have:=enc_len6 n;have:=enc_len6 q;have:=enc_len6 t;(try simp only [List.length_append]);omega
  rintro e w4 ⟨rfl,hw4,gg⟩;have hb4:=hb3.grown gg HNE.out;have g4:=g3.trans gg;clear hw3 hb3 g3 gg;go_wp2_with fail;rw [rounds_succ];have ck : w4.cell? ⟨b,3,none⟩ = some (.int .i64 k):=hb4.cell 3;go_wp2_with fail;refine (within_any _ _ _ _).mono ?_;rintro e w4' ⟨rfl,rfl⟩;rw [show inB (k : Int) 1 3 = true from (inB_iff _ _ _).2 (by have:=H3.out;omega)];go_wp2_with fail;refine (wnum_any g ⟨b,4,none⟩ (bs ++ Vint.enc n ++ Vint.enc q ++ Vint.enc t ++ Vint.enc k) wk _ hw4 (hb4.cell 4) H4.out ?_).mono ?_
  · have:=HL.out
    have:=enc_len6 n;have:=enc_len6 q;have:=enc_len6 t;have:=enc_len6 k;(try simp only [List.length_append]);omega
  rintro e w5 ⟨rfl,hw5,gg⟩;have hb5:=hb4.grown gg HNE.out;have g5:=g4.trans gg;clear hw4 hb4 g4 gg;have ck : w5.cell? ⟨b,3,none⟩ = some (.int .i64 k):=hb5.cell 3
  by_cases hk1 : k = 1
  · have hq1 : ((k : Int) == 1) = true:=by rw [beq_iff_eq];omega
    go_wp2_with fail;refine (wnum_any g ⟨b,5,none⟩ (bs ++ Vint.enc n ++ Vint.enc q ++ Vint.enc t ++ Vint.enc k ++ Vint.enc wk) v _ hw5 (hb5.cell 5) H5.out ?_).mono ?_
    · have:=HL.out
      have:=enc_len6 n;have:=enc_len6 q;have:=enc_len6 t;have:=enc_len6 k;have:=enc_len6 wk;(try simp only [List.length_append]);omega
    rintro e w6 ⟨rfl,hw6,gg⟩;have hb6:=hb5.grown gg HNE.out;have g6:=g5.trans gg;clear hw5 hb5 g5 gg;go_wp2_with fail
    (try simp only [Exit.inBlock,Exit.then])
    refine bodyPost_ret (results_none rfl _ _ _) rfl ?_;refine ⟨rfl,?_,g6⟩;rw [HLE.out,if_pos hk1]
    have e : bs ++ encN ([n,q,t,k,wk] ++ [v]) = bs ++ Vint.enc n ++ Vint.enc q ++ Vint.enc t ++ Vint.enc k ++ Vint.enc wk ++ Vint.enc v:=by simp [encN]
    rw [e];exact hw6
  have hq1 : ((k : Int) == 1) = false:=by rw [beq_eq_false_iff_ne];omega
  by_cases hk2 : k = 2
  · have hq2 : ((k : Int) == 2) = true:=by rw [beq_iff_eq];omega
    go_wp2_with fail;refine (polw_any b g _ _ _ _ _ _ _ _ p0 p1 p2 p3 p4 p5 p6 _ hw5 hb5 HBG.out HP0.out HP1.out HP2.out HP3.out HP4.out HP5.out HP6.out ?_).mono ?_
    · have:=HL.out
      have:=enc_len6 n;have:=enc_len6 q;have:=enc_len6 t;have:=enc_len6 k;have:=enc_len6 wk;(try simp only [List.length_append]);omega
    rintro e w6 ⟨rfl,hw6,gg⟩;have hb6:=hb5.grown gg HNE.out;have g6:=g5.trans gg;clear hw5 hb5 g5 gg;obtain ⟨us,has⟩ : ∃ us,us = bs ++ Vint.enc n ++ Vint.enc q ++ Vint.enc t ++ Vint.enc k ++ Vint.enc wk ++ encN [p0,p1,p2,p3,p4,p5,p6]:=⟨_,rfl⟩;rw [← has] at hw6;have HAS:=Lib.hid (show us = bs ++ encN ([n,q,t,k,wk] ++ [p0,p1,p2,p3,p4,p5,p6]) by rw [has];simp [encN])
    have HLA:=Lib.hid (show us.length≤140737488352000 by
      rw [HAS.out,List.length_append]
      have:=encN_len ([n,q,t,k,wk] ++ [p0,p1,p2,p3,p4,p5,p6])
      have:=HL.out
      simp at *
      omega)
    clear has;have cs : w6.cell? ⟨b,13,none⟩ = some (.slice A m c):=hb6.cell 13
    go_upto_region 15 with fail
    refine nameW ?_;intro wa hwa;obtain ⟨r,hr⟩ : ∃ r,r = w6.heap.size:=⟨_,rfl⟩;rw [← hr]
    have ka : Blk wa r 3 #[.int .i64 m]:=by rw [hwa,hr];exact Blk.new _ _ _
    have hwA : WrS wa g us:=by rw [hwa];exact hw6.alloc _
    have hbA : Blk wa b 50 #[.int .i64 n,.int .i64 q,.int .i64 t,.int .i64 k,.int .i64 wk,.int .i64 v,.int .i64 p0,.int .i64 p1,.int .i64 p2,.int .i64 p3,.int .i64 p4,.int .i64 p5,.int .i64 p6,.slice A m c]:=by rw [hwa];exact hb6.alloc _
    have gA : w.grownBy wa (some g):=by rw [hwa];exact only_alloc g6 _
    have hgr : g ≠ r:=by have:=hw6.lt;omega
    have HNR:=Lib.hid (show (some g : Option Nat) ≠ some r by simp;omega);clear hwa hr hw6 hb6 g6 cs hgr ck;go_wp2_with fail;refine (wnum_any g ⟨r,0,none⟩ us m _ hwA (ka.cell 0) (by have:=H96.out;omega) (by have:=HLA.out;omega)).mono ?_;rintro e wc ⟨rfl,hwC,gg⟩;have kc:=ka.grown gg HNR.out;have hbC:=hbA.grown gg HNE.out;have gC:=gA.trans gg;have cr : wc.cell? ⟨r,0,none⟩ = some (.int .i64 m):=kc.cell 0;have cs : wc.cell? ⟨b,13,none⟩ = some (.slice A m c):=hbC.cell 13;have hmd : decide ((96 : Int) < (m : Int)) = false:=decide_eq_false (by have:=H96.out;omega);clear hwA hbA gA gg ka;go_wp2_with fail
    go_region
    go_wp2_with fail
    go_loopw [93] (fun i wr=>∃ j : Nat,j≤m∧i = .int .i64 j∧WrS wr g (us ++ Vint.enc m ++ encN (dotN (l.take j)))∧Blk wr b 50 #[.int .i64 n,.int .i64 q,.int .i64 t,.int .i64 k,.int .i64 wk,.int .i64 v,.int .i64 p0,.int .i64 p1,.int .i64 p2,.int .i64 p3,.int .i64 p4,.int .i64 p5,.int .i64 p6,.slice A m c]∧w.grownBy wr (some g)) (fun i _=>m - (intOf i).toNat)
    case atStart =>
      have hwD : WrS wc.drew g (us ++ Vint.enc m):=hwC;exact ⟨0,by omega,rfl,by simpa [dotN,encN] using hwD,hbC,only_drew gC⟩
    case round =>
      clear hwC hbC gC kc cr cs;obtain ⟨j,hj,rfl,hwJ,hbJ,gJ⟩:=hrel;have cs : wr.cell? ⟨b,13,none⟩ = some (.slice A m c):=hbJ.cell 13
      by_cases hlt : j < m
      · have hjl : j < l.length:=by rw [← HM.out];exact hlt
        obtain ⟨ad,hA,hdt⟩:=HRD.out.2 j _ (List.getElem?_eq_getElem hjl);subst hA;have hdd:=HD.out _ (List.getElem_mem hjl);have hsn : l.take (j + 1) = l.take j ++ [l[j]]:=take_snoc l hjl
        generalize l[j] = d at *
        obtain ⟨x,y⟩:=d;obtain ⟨q5,q0,q1⟩:=hdt.below (only_Below gJ (Nat.le_refl _) (by have:=HGL.out;omega))
        simp only at q0 q1 hdd
        obtain ⟨⟨hx0,hx1⟩,hy0,hy1⟩:=hdd;obtain ⟨x,rfl⟩:=Int.eq_ofNat_of_zero_le hx0;obtain ⟨y,rfl⟩:=Int.eq_ofNat_of_zero_le hy0;have HSN:=Lib.hid hsn;have HX:=Lib.hid hx1;have HY:=Lib.hid hy1
        have hj0 : (0 : Int)≤(j : Int):=by omega
        have hjm : (j : Int) < (m : Int):=by omega
        clear hsn hx0 hx1 hy0 hy1 hdt
        have hlj : (us ++ Vint.enc m ++ encN (dotN (l.take j))).length≤140737488354000:=by
          have h1:=HLA.out;have h2:=enc_len6 m;have h3:=encN_len (dotN (l.take j));rw [dotN_len,List.length_take] at h3;have h4:=H96.out
          simp only [List.length_append]
          omega
        have HLJ:=Lib.hid hlj;clear hlj;go_wp2_with fail;refine (wnum_any g (ad.add (j * 2)) _ x _ hwJ q0 (by have:=HX.out;omega) (by have:=HLJ.out;omega)).mono ?_;rintro e wx ⟨rfl,hwX,gg⟩;have hbX:=hbJ.grown gg HNE.out;have gX:=gJ.trans gg;have q1' : wx.cell? ⟨(ad.add (j * 2)).block,(ad.add (j * 2)).off + 1,none⟩ = some (.int .i64 y):=((only_Below gg (Nat.le_refl g) (by have:=hwJ.lt;omega)).cell (p:=⟨(ad.add (j * 2)).block,(ad.add (j * 2)).off + 1,none⟩) q5).trans q1;have cs : wx.cell? ⟨b,13,none⟩ = some (.slice (some ad) m c):=hbX.cell 13;clear hwJ hbJ gJ gg q0 q1;go_wp2_with fail;refine (wnum_any g ⟨(ad.add (j * 2)).block,(ad.add (j * 2)).off + 1,none⟩ _ y _ hwX q1' (by have:=HY.out;omega) (by have:=HLJ.out;have:=enc_len6 x;simp only [List.length_append] at *;omega)).mono ?_;rintro e wy ⟨rfl,hwY,gg⟩;have hbY:=hbX.grown gg HNE.out;have gY:=gX.trans gg;clear hwX hbX gX gg q1';go_wp2_with fail
        go_roundw
        case rel=>exact ⟨j + 1,by omega,num_succ j (by have:=H96.out;omega),by rw [HSN.out,dotN_snoc,encN_app];simpa [encN] using hwY,hbY,gY⟩
        case measure=>exact meas_succ j m hlt (by have:=H96.out;omega)
      · have hje : l.take j = l:=List.take_of_length_le (by rw [← HM.out];omega)
        have HJE:=Lib.hid hje;clear hje;go_wp2_with fail
        go_end0
        refine ⟨rfl,?_,gJ⟩;rw [HJE.out] at hwJ;rw [HLE.out,if_neg hk1,if_pos hk2]
        have e : bs ++ encN ([n,q,t,k,wk] ++ ([p0,p1,p2,p3,p4,p5,p6] ++ [m] ++ dotN l)) = us ++ Vint.enc m ++ encN (dotN l):=by rw [HAS.out];simp [encN]
        rw [e];exact hwJ
  have hq2 : ((k : Int) == 2) = false:=by rw [beq_eq_false_iff_ne];omega
  have w6e : w5 = w5:=rfl;obtain ⟨us,has⟩ : ∃ us,us = bs ++ Vint.enc n ++ Vint.enc q ++ Vint.enc t ++ Vint.enc k ++ Vint.enc wk:=⟨_,rfl⟩;rw [← has] at hw5;have HAS:=Lib.hid (show us = bs ++ encN ([n,q,t,k,wk] ++ []) by rw [has];simp [encN])
  have HLA:=Lib.hid (show us.length≤140737488352000 by
    rw [HAS.out,List.length_append]
    have:=encN_len ([n,q,t,k,wk] ++ [])
    have:=HL.out
    simp at *
    omega)
  clear has w6e;have cs : w5.cell? ⟨b,13,none⟩ = some (.slice A m c):=hb5.cell 13
  go_upto_region 15 with fail
  refine nameW ?_;intro wa hwa;obtain ⟨r,hr⟩ : ∃ r,r = w5.heap.size:=⟨_,rfl⟩;rw [← hr]
  have ka : Blk wa r 3 #[.int .i64 m]:=by rw [hwa,hr];exact Blk.new _ _ _
  have hwA : WrS wa g us:=by rw [hwa];exact hw5.alloc _
  have hbA : Blk wa b 50 #[.int .i64 n,.int .i64 q,.int .i64 t,.int .i64 k,.int .i64 wk,.int .i64 v,.int .i64 p0,.int .i64 p1,.int .i64 p2,.int .i64 p3,.int .i64 p4,.int .i64 p5,.int .i64 p6,.slice A m c]:=by rw [hwa];exact hb5.alloc _
  have gA : w.grownBy wa (some g):=by rw [hwa];exact only_alloc g5 _
  have hgr : g ≠ r:=by have:=hw5.lt;omega
  have HNR:=Lib.hid (show (some g : Option Nat) ≠ some r by simp;omega);clear hwa hr hw5 hb5 g5 cs hgr ck;go_wp2_with fail;refine (wnum_any g ⟨r,0,none⟩ us m _ hwA (ka.cell 0) (by have:=H96.out;omega) (by have:=HLA.out;omega)).mono ?_;rintro e wc ⟨rfl,hwC,gg⟩;have kc:=ka.grown gg HNR.out;have hbC:=hbA.grown gg HNE.out;have gC:=gA.trans gg;have cr : wc.cell? ⟨r,0,none⟩ = some (.int .i64 m):=kc.cell 0;have cs : wc.cell? ⟨b,13,none⟩ = some (.slice A m c):=hbC.cell 13;have hmd : decide ((96 : Int) < (m : Int)) = false:=decide_eq_false (by have:=H96.out;omega);clear hwA hbA gA gg ka;go_wp2_with fail
  go_region
  go_wp2_with fail
  go_loopw [93] (fun i wr=>∃ j : Nat,j≤m∧i = .int .i64 j∧WrS wr g (us ++ Vint.enc m ++ encN (dotN (l.take j)))∧Blk wr b 50 #[.int .i64 n,.int .i64 q,.int .i64 t,.int .i64 k,.int .i64 wk,.int .i64 v,.int .i64 p0,.int .i64 p1,.int .i64 p2,.int .i64 p3,.int .i64 p4,.int .i64 p5,.int .i64 p6,.slice A m c]∧w.grownBy wr (some g)) (fun i _=>m - (intOf i).toNat)
  case atStart =>
    have hwD : WrS wc.drew g (us ++ Vint.enc m):=hwC;exact ⟨0,by omega,rfl,by simpa [dotN,encN] using hwD,hbC,only_drew gC⟩
  case round =>
    clear hwC hbC gC kc cr cs;obtain ⟨j,hj,rfl,hwJ,hbJ,gJ⟩:=hrel;have cs : wr.cell? ⟨b,13,none⟩ = some (.slice A m c):=hbJ.cell 13
    by_cases hlt : j < m
    · have hjl : j < l.length:=by rw [← HM.out];exact hlt
      obtain ⟨ad,hA,hdt⟩:=HRD.out.2 j _ (List.getElem?_eq_getElem hjl);subst hA;have hdd:=HD.out _ (List.getElem_mem hjl);have hsn : l.take (j + 1) = l.take j ++ [l[j]]:=take_snoc l hjl
      generalize l[j] = d at *
      obtain ⟨x,y⟩:=d;obtain ⟨q5,q0,q1⟩:=hdt.below (only_Below gJ (Nat.le_refl _) (by have:=HGL.out;omega))
      simp only at q0 q1 hdd
      obtain ⟨⟨hx0,hx1⟩,hy0,hy1⟩:=hdd;obtain ⟨x,rfl⟩:=Int.eq_ofNat_of_zero_le hx0;obtain ⟨y,rfl⟩:=Int.eq_ofNat_of_zero_le hy0;have HSN:=Lib.hid hsn;have HX:=Lib.hid hx1;have HY:=Lib.hid hy1
      have hj0 : (0 : Int)≤(j : Int):=by omega
      have hjm : (j : Int) < (m : Int):=by omega
      clear hsn hx0 hx1 hy0 hy1 hdt
      have hlj : (us ++ Vint.enc m ++ encN (dotN (l.take j))).length≤140737488354000:=by
        have h1:=HLA.out;have h2:=enc_len6 m;have h3:=encN_len (dotN (l.take j));rw [dotN_len,List.length_take] at h3;have h4:=H96.out
        simp only [List.length_append]
        omega
      have HLJ:=Lib.hid hlj;clear hlj;go_wp2_with fail;refine (wnum_any g (ad.add (j * 2)) _ x _ hwJ q0 (by have:=HX.out;omega) (by have:=HLJ.out;omega)).mono ?_;rintro e wx ⟨rfl,hwX,gg⟩;have hbX:=hbJ.grown gg HNE.out;have gX:=gJ.trans gg;have q1' : wx.cell? ⟨(ad.add (j * 2)).block,(ad.add (j * 2)).off + 1,none⟩ = some (.int .i64 y):=((only_Below gg (Nat.le_refl g) (by have:=hwJ.lt;omega)).cell (p:=⟨(ad.add (j * 2)).block,(ad.add (j * 2)).off + 1,none⟩) q5).trans q1;have cs : wx.cell? ⟨b,13,none⟩ = some (.slice (some ad) m c):=hbX.cell 13;clear hwJ hbJ gJ gg q0 q1;go_wp2_with fail;refine (wnum_any g ⟨(ad.add (j * 2)).block,(ad.add (j * 2)).off + 1,none⟩ _ y _ hwX q1' (by have:=HY.out;omega) (by have:=HLJ.out;have:=enc_len6 x;simp only [List.length_append] at *;omega)).mono ?_;rintro e wy ⟨rfl,hwY,gg⟩;have hbY:=hbX.grown gg HNE.out;have gY:=gX.trans gg;clear hwX hbX gX gg q1';go_wp2_with fail
      go_roundw
      case rel=>exact ⟨j + 1,by omega,num_succ j (by have:=H96.out;omega),by rw [HSN.out,dotN_snoc,encN_app];simpa [encN] using hwY,hbY,gY⟩
      case measure=>exact meas_succ j m hlt (by have:=H96.out;omega)
    · have hje : l.take j = l:=List.take_of_length_le (by rw [← HM.out];omega)
      have HJE:=Lib.hid hje;clear hje;go_wp2_with fail
      go_end0
      refine ⟨rfl,?_,gJ⟩;rw [HJE.out] at hwJ;rw [HLE.out,if_neg hk1,if_neg hk2]
      have e : bs ++ encN ([n,q,t,k,wk] ++ ([] ++ [m] ++ dotN l)) = us ++ Vint.enc m ++ encN (dotN l):=by rw [HAS.out];simp [encN]
      rw [e];exact hwJ
end Go.Proofs.Ytcgalmnllegnbaa
