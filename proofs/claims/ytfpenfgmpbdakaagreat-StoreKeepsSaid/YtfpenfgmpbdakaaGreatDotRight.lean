import Derived.Test.YtfpenfgmpbdakaaGreatDotMem
namespace Go.Proofs.YtfpenfgmpbdakaaGreat
set_option linter.unusedVariables false
set_option linter.unusedSimpArgs false
set_option maxRecDepth 100000
open Go.RowKit
open Dot
set_option maxHeartbeats 2000000 in
theorem right_any (U : List Int) (hU : U.length = 8) (A : Option Addr) (n c : Nat) (l : List Dt) (w : World) (hl : RdD w w.heap.size A n l) :
    Calls Tryz.prog 141 #[.agg (uc U (.slice A n c))] w fun e w'=>e = .returned (.bool (rightB U l))∧Below w.heap.size w w':=by
  have HN:=Lib.hid hl.1;obtain ⟨R,hR⟩ : ∃ R,R = rightB U l:=⟨_,rfl⟩;have hri:=right_iff U l;rw [← hR] at hri ⊢;have HR:=Lib.hid hR;have HRI:=Lib.hid hri;clear hR hri;have HS:=Lib.hid (uc_size hU (.slice A n c))
  go_enter Tryz.func141,Tryz.ntmps141
  go_upto_region 1 with fail
  refine nameW ?_;intro wv hwv;obtain ⟨g,hg⟩ : ∃ g,g = w.heap.size:=⟨_,rfl⟩;rw [← hg]
  have k0 : Blk wv g 180 (uc U (.slice A n c)):=by rw [hwv,hg];exact Blk.new w _ _
  have hb0 : Below w.heap.size w wv:=by rw [hwv];exact (Below.refl _ _).alloc (Nat.le_refl _) _
  have hgw : w.heap.size≤g:=by omega
  have t8 : wv.cell? ⟨g,8,none⟩ = some (.slice A n c):=(k0.cell 8).trans (uc_last hU _)
  have hcon:=fun w' (hk : Blk w' g 180 (uc U (.slice A n c)))=>contains_any g U hU w' (fun i hi=>(hk.cell i).trans (uc_at hU _ hi))
  have HC:=Lib.hid hcon;have HU:=Lib.hid hU;clear hwv hg hcon hU
  by_cases hok : U.all numOk = true
  case neg =>
    have hok2 : U.all numOk = false:=by simpa using hok
    have hR : R = false:=by
      rw [← Bool.not_eq_true,HRI.out];intro h;rw [h.1] at hok2
      cases hok2
    subst hR;clear hok;go_wp2_with fail;refine (HC.out wv k0).mono ?_;rw [hok2];rintro e w1 ⟨rfl,rfl⟩;go_wp2_with fail;go_ret;exact ⟨rfl,hb0⟩
  have HOK:=Lib.hid hok
  by_cases hbig : 768 < n
  case pos =>
    have hR : R = false:=by
      rw [← Bool.not_eq_true,HRI.out];intro h
      have:=HN.out
      omega
    subst hR;have hd : decide ((768 : Int) < (n : Int)) = true:=decide_eq_true (by omega);go_wp2_with fail;refine (HC.out wv k0).mono ?_;rw [HOK.out];rintro e w1 ⟨rfl,rfl⟩;go_wp2_with fail;go_ret;exact ⟨rfl,hb0⟩
  have hd : decide ((768 : Int) < (n : Int)) = false:=decide_eq_false (by omega);go_wp2_with fail;refine (HC.out wv k0).mono ?_;rw [HOK.out];rintro e w1 ⟨rfl,rfl⟩;clear hok;go_wp2_with fail
  go_loopw [17] (fun i wr=>∃ k : Nat,k≤n∧i = .int .i64 k∧(∀ j,j < k→goodAt U l j = true)∧Blk wr g 180 (uc U (.slice A n c))∧Below w.heap.size w wr) (fun i _=>n - (intOf i).toNat)
  case atStart=>exact ⟨0,by omega,rfl,fun j hj=>by omega,k0,hb0⟩
  case round =>
    clear k0 hb0 t8;obtain ⟨k,hk,rfl,hall,k0,hbel⟩:=hrel;have HA:=Lib.hid hall;clear hall
    by_cases hlt : k < n
    · have hkl : k < l.length:=by rw [← HN.out];exact hlt
      obtain ⟨ad,rfl,hdt⟩:=(hl.below hbel).2 k _ (List.getElem?_eq_getElem hkl)
      have hgd : goodAt U l k = (mayB l[k] && decide (U.getD (l[k]).1.toNat 0 + 2≤(l[k]).2) && (decide (k = 0) || befB (l.getD (k - 1) (0,0)) l[k])):=by
        unfold goodAt
        rw [show l.getD k (0,0) = l[k] by rw [List.getD_eq_getElem?_getD,List.getElem?_eq_getElem hkl];rfl]
      generalize l[k] = d at *
      obtain ⟨x,q⟩:=d;obtain ⟨q5,q0,q1⟩:=hdt
      simp only at q0 q1 hgd
      have HG:=Lib.hid hgd;clear hgd;obtain ⟨wn,hwn⟩ : ∃ wn,wn = wr.alloc (.cells #[.int .i64 x,.int .i64 q] 42):=⟨_,rfl⟩;obtain ⟨gd,hgd⟩ : ∃ gd,gd = wr.heap.size:=⟨_,rfl⟩
      have kd : Blk wn gd 42 #[.int .i64 x,.int .i64 q]:=by rw [hwn,hgd];exact Blk.new wr _ _
      have bn : Below wr.heap.size wr wn:=by rw [hwn];exact (Below.refl _ _).alloc (Nat.le_refl _) _
      have k1:=k0.below bn k0.lt;have hb1:=hbel.trans (bn.mono hbel.size);have HW:=Lib.hid hwn;have HGD:=Lib.hid hgd
      have hgl : g < gd:=by rw [hgd];exact k0.lt
      clear hwn hgd bn
      go_upto_region 6 with fail
      rw [← HW.out,← HGD.out];clear q0 q1 k0 hbel;have t0 : wn.cell? ⟨gd,0,none⟩ = some (.int .i64 x):=kd.cell 0;have t1 : wn.cell? ⟨gd,1,none⟩ = some (.int .i64 q):=kd.cell 1;have t8 : wn.cell? ⟨g,8,none⟩ = some (.slice (some ad) n c):=(k1.cell 8).trans (uc_last HU.out _)
      by_cases hm : mayB (x,q) = true
      · have hmi:=(may_iff _).1 hm
        simp only at hmi
        obtain ⟨y,rfl⟩:=Int.eq_ofNat_of_zero_le hmi.1
        have hy : y < 8:=by omega
        have hmm:=Lib.hid hm;obtain ⟨u,hu⟩ : ∃ u,u = U.getD y 0:=⟨_,rfl⟩;have hub:=all_num HOK.out y
        have tu : wn.cell? ⟨g,y,none⟩ = some (.int .i64 u):=by rw [hu];exact (k1.cell y).trans (uc_at HU.out _ hy)
        have hg2 : goodAt U l k = (decide (u + 2≤q) && (decide (k = 0) || befB (l.getD (k - 1) (0,0)) ((y : Int),q))):=by
          rw [HG.out,hm,hu]
          rfl
        rw [← hu] at hub;have HG2:=Lib.hid hg2;clear hg2 hu HG
        have hwu : IntKind.i64.wrap (q - u) = q - u:=by rw [IntKind.wrap_i64];omega
        have hy0 : (0 : Int)≤(y : Int):=by omega
        have hy8 : (y : Int) < 8:=by omega
        by_cases hdu : q - u < 2
        · have hf : R = false:=by
            rw [HR.out];refine good_false hkl ?_;rw [HG2.out,decide_eq_false (by omega)]
            rfl
          subst hf;have hdd : decide (q - u < 2) = true:=decide_eq_true hdu;clear hdu
          have hmc : ∀ w',Calls Tryz.prog 132 #[.agg #[.int .i64 (y : Int),.int .i64 q]] w' fun e w''=>e = .returned (.bool true)∧Below w'.heap.size w' w'':=fun w'=>by have:=may_any (y : Int) q w';rwa [hm] at this
          have HMC:=Lib.hid hmc;clear hmc;refine wp_region_below (by kernel_rfl) (by kernel_rfl) ?_;intro T iT F hF hT
          have S0 : ∀ xf,(F xf).cell? ⟨gd,0,none⟩ = some (.int .i64 (y : Int)):=fun xf=>((hF xf).cell (p:=⟨gd,0,none⟩) kd.lt).trans t0
          have S1 : ∀ xf,(F xf).cell? ⟨gd,1,none⟩ = some (.int .i64 q):=fun xf=>((hF xf).cell (p:=⟨gd,1,none⟩) kd.lt).trans t1
          have S8 : ∀ xf,(F xf).cell? ⟨g,8,none⟩ = some (.slice (some ad) n c):=fun xf=>((hF xf).cell (p:=⟨g,8,none⟩) k1.lt).trans t8
          have SU : ∀ xf,(F xf).cell? ⟨g,y,none⟩ = some (.int .i64 u):=fun xf=>((hF xf).cell (p:=⟨g,y,none⟩) k1.lt).trans tu
          have HF:=Lib.hid hF;have HT:=Lib.hid hT;clear hF hT
          repeat (first
            | go_big_quiet_step ((first
                | (go_at_call 132;exact calls_below HF.out HT.out (HMC.out _)))))
          refine wpQuiet_nil ?_;intro w' hw';obtain ⟨qf,rfl⟩:=hw';have bF:=HF.out qf;clear HF HT S0 S1 S8;go_wp2_with fail;go_ret;exact ⟨rfl,hb1.trans (bF.mono hb1.size)⟩
        · have hdd : decide (q - u < 2) = false:=decide_eq_false hdu
          have hdd2 : decide (u + 2≤q) = true:=decide_eq_true (by omega);rw [hdd2] at HG2;clear hdu hdd2
          by_cases hk0 : k = 0
          · subst hk0
            have hmc : ∀ w',Calls Tryz.prog 132 #[.agg #[.int .i64 (y : Int),.int .i64 q]] w' fun e w''=>e = .returned (.bool true)∧Below w'.heap.size w' w'':=fun w'=>by have:=may_any (y : Int) q w';rwa [hm] at this
            have HMC:=Lib.hid hmc;clear hmc;refine wp_region_below (by kernel_rfl) (by kernel_rfl) ?_;intro T iT F hF hT
            have S0 : ∀ xf,(F xf).cell? ⟨gd,0,none⟩ = some (.int .i64 (y : Int)):=fun xf=>((hF xf).cell (p:=⟨gd,0,none⟩) kd.lt).trans t0
            have S1 : ∀ xf,(F xf).cell? ⟨gd,1,none⟩ = some (.int .i64 q):=fun xf=>((hF xf).cell (p:=⟨gd,1,none⟩) kd.lt).trans t1
            have S8 : ∀ xf,(F xf).cell? ⟨g,8,none⟩ = some (.slice (some ad) n c):=fun xf=>((hF xf).cell (p:=⟨g,8,none⟩) k1.lt).trans t8
            have SU : ∀ xf,(F xf).cell? ⟨g,y,none⟩ = some (.int .i64 u):=fun xf=>((hF xf).cell (p:=⟨g,y,none⟩) k1.lt).trans tu
            have HF:=Lib.hid hF;have HT:=Lib.hid hT;clear hF hT
            repeat (first
              | go_big_quiet_step ((first
                  | (go_at_call 132;exact calls_below HF.out HT.out (HMC.out _)))))
            refine wpQuiet_nil ?_;intro w' hw';obtain ⟨qf,rfl⟩:=hw';have bF:=HF.out qf;clear HF HT S0 S1 S8;go_wp2_with fail
            go_roundw
            case rel=>exact ⟨1,by omega,by rfl,fun j hj=>by
              obtain rfl : j = 0:=by omega
              rw [HG2.out];rfl,k1.below bF k1.lt,hb1.trans (bF.mono hb1.size)⟩
            case measure=>simp [intOf];omega
          · obtain ⟨m,hmk⟩ : ∃ m,k = m + 1:=⟨k - 1,by omega⟩
            have hml : m < l.length:=by omega
            have hkp : 0 < k:=by omega
            have hwk : IntKind.i64.wrap ((k : Int) - 1) = (m : Int):=by rw [IntKind.wrap_i64];omega
            have hm0 : (0 : Int)≤(m : Int):=by omega
            have hmn : (m : Int) < (n : Int):=by omega
            obtain ⟨ad2,hae,hdt2⟩:=(hl.below hb1).2 m _ (List.getElem?_eq_getElem hml)
            injection hae with hae
            subst hae;have hgp:=HA.out m (by omega)
            have hpe : l.getD m (0,0) = l[m]:=by rw [List.getD_eq_getElem?_getD,List.getElem?_eq_getElem hml];rfl
            have hpm1 : mayB l[m] = true:=by
              unfold goodAt at hgp
              rw [hpe] at hgp
              simp only [Bool.and_eq_true] at hgp
              exact hgp.1.1
            have hg3 : goodAt U l k = befB l[m] ((y : Int),q):=by
              rw [HG2.out,decide_eq_false hk0,show k - 1 = m by omega,hpe]
              rfl
            clear hgp hpe
            generalize l[m] = d at *
            obtain ⟨x2,q2⟩:=d;obtain ⟨p5,p0,p1⟩:=hdt2
            simp only at p0 p1
            have p6 : (ad.add (m * 2)).block < wn.heap.size:=Nat.lt_of_lt_of_le p5 hb1.size;have hz:=cmpZ_bef (x2,q2) ((y : Int),q);rw [← hg3] at hz;have HG3:=Lib.hid hg3;have hpm:=Lib.hid hpm1;clear hg3 hpm1 hmk
            generalize hcz : cmpZ (x2,q2) ((y : Int),q) = z at *
            have HCZ:=Lib.hid hcz;clear hcz
            by_cases hgk : goodAt U l k = true
            · rw [hgk] at hz
              have HGK:=Lib.hid hgk;clear hgk
              have hmc : ∀ w',Calls Tryz.prog 132 #[.agg #[.int .i64 (y : Int),.int .i64 q]] w' fun e w''=>e = .returned (.bool true)∧Below w'.heap.size w' w'':=fun w'=>by have:=may_any (y : Int) q w';rwa [hm] at this
              have HMC:=Lib.hid hmc;clear hmc
              have hcc : ∀ w',Calls Tryz.prog 145 #[.agg #[.int .i64 x2,.int .i64 q2],.agg #[.int .i64 (y : Int),.int .i64 q]] w' fun e w''=>e = .returned (.int .i64 z)∧Below w'.heap.size w' w'':=fun w'=>by have:=compare_any x2 q2 (y : Int) q w' hpm.out hmm.out;rwa [HCZ.out] at this
              have HCC:=Lib.hid hcc;clear hcc;refine wp_region_below (by kernel_rfl) (by kernel_rfl) ?_;intro T iT F hF hT
              have S0 : ∀ xf,(F xf).cell? ⟨gd,0,none⟩ = some (.int .i64 (y : Int)):=fun xf=>((hF xf).cell (p:=⟨gd,0,none⟩) kd.lt).trans t0
              have S1 : ∀ xf,(F xf).cell? ⟨gd,1,none⟩ = some (.int .i64 q):=fun xf=>((hF xf).cell (p:=⟨gd,1,none⟩) kd.lt).trans t1
              have S8 : ∀ xf,(F xf).cell? ⟨g,8,none⟩ = some (.slice (some ad) n c):=fun xf=>((hF xf).cell (p:=⟨g,8,none⟩) k1.lt).trans t8
              have SU : ∀ xf,(F xf).cell? ⟨g,y,none⟩ = some (.int .i64 u):=fun xf=>((hF xf).cell (p:=⟨g,y,none⟩) k1.lt).trans tu
              have SP : ∀ xf,(F xf).cell? (ad.add (m * 2)) = some (.int .i64 x2):=fun xf=>((hF xf).cell p6).trans p0
              have SQ : ∀ xf,(F xf).cell? ⟨(ad.add (m * 2)).block,(ad.add (m * 2)).off + 1,none⟩ = some (.int .i64 q2):=fun xf=>((hF xf).cell (p:=⟨(ad.add (m * 2)).block,(ad.add (m * 2)).off + 1,none⟩) p6).trans p1
              have HF:=Lib.hid hF;have HT:=Lib.hid hT;clear hF hT
              repeat (first
                | go_big_quiet_step ((first
                    | (go_at_call 132;exact calls_below HF.out HT.out (HMC.out _))
                    | (go_at_call 145;exact calls_below HF.out HT.out (HCC.out _)))))
              refine wpQuiet_nil ?_;intro w' hw';obtain ⟨qf,rfl⟩:=hw';have bF:=HF.out qf;clear HF HT S0 S1 S8;go_wp2_with fail
              go_roundw
              case rel=>exact ⟨k + 1,by omega,by go_num,fun j hj=>by
                by_cases e : j = k
                · subst e;exact HGK.out
                · exact HA.out j (by omega),k1.below bF k1.lt,hb1.trans (bF.mono hb1.size)⟩
              case measure=>simp [intOf];omega
            · have hgk2 : goodAt U l k = false:=by simpa using hgk
              rw [hgk2] at hz
              have hf : R = false:=by
                rw [HR.out];exact good_false hkl hgk2
              subst hf;clear hgk hgk2
              have hmc : ∀ w',Calls Tryz.prog 132 #[.agg #[.int .i64 (y : Int),.int .i64 q]] w' fun e w''=>e = .returned (.bool true)∧Below w'.heap.size w' w'':=fun w'=>by have:=may_any (y : Int) q w';rwa [hm] at this
              have HMC:=Lib.hid hmc;clear hmc
              have hcc : ∀ w',Calls Tryz.prog 145 #[.agg #[.int .i64 x2,.int .i64 q2],.agg #[.int .i64 (y : Int),.int .i64 q]] w' fun e w''=>e = .returned (.int .i64 z)∧Below w'.heap.size w' w'':=fun w'=>by have:=compare_any x2 q2 (y : Int) q w' hpm.out hmm.out;rwa [HCZ.out] at this
              have HCC:=Lib.hid hcc;clear hcc;refine wp_region_below (by kernel_rfl) (by kernel_rfl) ?_;intro T iT F hF hT
              have S0 : ∀ xf,(F xf).cell? ⟨gd,0,none⟩ = some (.int .i64 (y : Int)):=fun xf=>((hF xf).cell (p:=⟨gd,0,none⟩) kd.lt).trans t0
              have S1 : ∀ xf,(F xf).cell? ⟨gd,1,none⟩ = some (.int .i64 q):=fun xf=>((hF xf).cell (p:=⟨gd,1,none⟩) kd.lt).trans t1
              have S8 : ∀ xf,(F xf).cell? ⟨g,8,none⟩ = some (.slice (some ad) n c):=fun xf=>((hF xf).cell (p:=⟨g,8,none⟩) k1.lt).trans t8
              have SU : ∀ xf,(F xf).cell? ⟨g,y,none⟩ = some (.int .i64 u):=fun xf=>((hF xf).cell (p:=⟨g,y,none⟩) k1.lt).trans tu
              have SP : ∀ xf,(F xf).cell? (ad.add (m * 2)) = some (.int .i64 x2):=fun xf=>((hF xf).cell p6).trans p0
              have SQ : ∀ xf,(F xf).cell? ⟨(ad.add (m * 2)).block,(ad.add (m * 2)).off + 1,none⟩ = some (.int .i64 q2):=fun xf=>((hF xf).cell (p:=⟨(ad.add (m * 2)).block,(ad.add (m * 2)).off + 1,none⟩) p6).trans p1
              have HF:=Lib.hid hF;have HT:=Lib.hid hT;clear hF hT
              repeat (first
                | go_big_quiet_step ((first
                    | (go_at_call 132;exact calls_below HF.out HT.out (HMC.out _))
                    | (go_at_call 145;exact calls_below HF.out HT.out (HCC.out _)))))
              refine wpQuiet_nil ?_;intro w' hw';obtain ⟨qf,rfl⟩:=hw';have bF:=HF.out qf;clear HF HT S0 S1 S8;go_wp2_with fail;go_ret;exact ⟨rfl,hb1.trans (bF.mono hb1.size)⟩
      · have hm2 : mayB (x,q) = false:=by simpa using hm
        have hf : R = false:=by
          rw [HR.out];refine good_false hkl ?_;rw [HG.out,hm2]
          rfl
        subst hf;clear hm;have hm:=hm2
        have hmc : ∀ w',Calls Tryz.prog 132 #[.agg #[.int .i64 x,.int .i64 q]] w' fun e w''=>e = .returned (.bool false)∧Below w'.heap.size w' w'':=fun w'=>by have:=may_any x q w';rwa [hm] at this
        have HMC:=Lib.hid hmc;clear hmc;refine wp_region_below (by kernel_rfl) (by kernel_rfl) ?_;intro T iT F hF hT
        have S0 : ∀ xf,(F xf).cell? ⟨gd,0,none⟩ = some (.int .i64 x):=fun xf=>((hF xf).cell (p:=⟨gd,0,none⟩) kd.lt).trans t0
        have S1 : ∀ xf,(F xf).cell? ⟨gd,1,none⟩ = some (.int .i64 q):=fun xf=>((hF xf).cell (p:=⟨gd,1,none⟩) kd.lt).trans t1
        have S8 : ∀ xf,(F xf).cell? ⟨g,8,none⟩ = some (.slice (some ad) n c):=fun xf=>((hF xf).cell (p:=⟨g,8,none⟩) k1.lt).trans t8
        skip
        have HF:=Lib.hid hF;have HT:=Lib.hid hT;clear hF hT
        repeat (first
          | go_big_quiet_step ((first
              | (go_at_call 132;exact calls_below HF.out HT.out (HMC.out _)))))
        refine wpQuiet_nil ?_;intro w' hw';obtain ⟨qf,rfl⟩:=hw';have bF:=HF.out qf;clear HF HT S0 S1 S8;go_wp2_with fail;go_ret;exact ⟨rfl,hb1.trans (bF.mono hb1.size)⟩
    · have hR : R = true:=by
        rw [HRI.out];refine ⟨HOK.out,by have:=HN.out;omega,fun i hi=>HA.out i (by have:=HN.out;omega)⟩
      subst hR;go_wp2_with fail;go_ret;exact ⟨rfl,hbel⟩
end Go.Proofs.YtfpenfgmpbdakaaGreat
