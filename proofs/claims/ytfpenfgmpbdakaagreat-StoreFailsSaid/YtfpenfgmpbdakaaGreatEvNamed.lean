import Derived.Test.YtfpenfgmpbdakaaGreatEvPol
import Derived.Test.YtfpenfgmpbdakaaGreatDotAdd
namespace Go.Proofs.YtfpenfgmpbdakaaGreat
set_option linter.unusedVariables false
set_option linter.unusedSimpArgs false
set_option maxRecDepth 100000
open Go.RowKit
open Dot Evt
theorem has_empty (n q : Nat) : hasG (uptoS noG) [] n q = false:=by
  rw [upto_no]
  unfold hasG
  by_cases h : 1≤q
  · have : decide ((q : Int)≤(List.replicate 8 (0 : Int)).getD n 0) = false:=by
      rw [List.getD_eq_getElem?_getD,List.getElem?_replicate]
      split <;> simp <;> omega
    rw [this]
    simp
  · rw [decide_eq_false h]
    simp
theorem add_empty (d : Dt) : addE (uptoS noG) [] d = if mayB d = true then 0 else 2:=by
  unfold addE
  by_cases h : mayB d = true
  · rw [if_pos h,if_pos h,if_neg]
    unfold hasB
    rw [has_empty]
    simp
  · rw [if_neg h,if_neg h]
abbrev zs9 : Array Value:=#[.int .i64 0,.int .i64 0,.int .i64 0,.int .i64 0,.int .i64 0,.int .i64 0,.int .i64 0,.int .i64 0,.slice none 0 0]
theorem zs9_eq : uc (uptoS noG) (.slice none 0 0) = zs9:=by kernel_rfl
theorem zs9_one : zs9.all (·.oneCell') = true:=by kernel_rfl
theorem add0_any (n q : Int) (w : World) : Calls Tryz.prog 124 #[.agg zs9,.agg #[.int .i64 n,.int .i64 q]] w fun e w'=>∃ sc : Array Value,sc.size = 9∧sc.all (·.oneCell') = true∧e = .returned (.tuple #[.agg sc,.int .i64 (if mayB (n,q) = true then 0 else 2)])∧Below w.heap.size w w':=by
  have h:=add_any ⟨uptoS noG,none,0,0,[]⟩ n q w (by rw [upto_no];rfl) (RdD.nil _ _ _)
  simp only at h
  rw [zs9_eq] at h;refine h.mono ?_;rintro e w1 ⟨A,m,c,rfl,ho,hb⟩;exact ⟨_,uc_size (show (uptoS (addG (uptoS noG) [] (n,q))).length = 8 by unfold uptoS;simp) _,uc_one rfl,by rw [add_empty],hb⟩
theorem name_at {own : Dt} {l : List Dt} {i : Nat} (hi : i < l.length) (h : nameAt own l i = false) : namedB own l = false:=by
  rw [← Bool.not_eq_true,named_iff];intro h';rw [h' i hi] at h
  cases h
theorem num_succ (k : Nat) (h : k≤4611686018427387904) : Value.int .i64 (wrap64 ((k : Int) + 1)) = .int .i64 ((k + 1 : Nat) : Int):=by
  rw [IntWalk.wrap64_in _ ⟨by omega,by omega⟩,Int.natCast_add]
  rfl
theorem meas_succ (k m : Nat) (h : k < m) (h1 : k≤4611686018427387904) : m - (intOf (.int .i64 (wrap64 ((k : Int) + 1)))).toNat < m - (intOf (.int .i64 (k : Int))).toNat:=by
  rw [num_succ k h1]
  simp only [intOf]
  omega
set_option maxRecDepth 100000 in
set_option maxHeartbeats 1000000 in
theorem named_any (n q : Int) (A : Option Addr) (m c : Nat) (l : List Dt) (w : World) (hl : RdD w w.heap.size A m l) (h96 : m≤96) :
    Calls Tryz.prog 125 #[.agg #[.int .i64 n,.int .i64 q],.slice A m c] w fun e w'=>e = .returned (.bool (namedB (n,q) l))∧Below w.heap.size w w':=by
  obtain ⟨R,hR⟩ : ∃ R,R = namedB (n,q) l:=⟨_,rfl⟩;rw [← hR];have HR:=Lib.hid hR;have HM:=Lib.hid hl.1;have H96:=Lib.hid h96;clear h96;clear hR;have ZS:=Lib.hid (show zs9.size = 9 from rfl);have Z1:=Lib.hid zs9_one
  have hz1 : (zeroValue 180).run Tryz.prog w = .ok (.agg zs9) w:=by kernel_rfl
  clear hz1
  go_enter Tryz.func125,Tryz.ntmps125
  go_upto_region 1 with fail
  refine nameW ?_;intro wv hwv;obtain ⟨b,hb⟩ : ∃ b,b = w.heap.size:=⟨_,rfl⟩;rw [← hb]
  have kd : Blk wv b 42 #[.int .i64 n,.int .i64 q]:=by rw [hwv,hb];exact Blk.new w _ _
  have gb : Below w.heap.size w wv:=by rw [hwv];exact (Below.refl _ _).alloc (Nat.le_refl _) _
  have hwb : b < wv.heap.size:=kd.lt
  have hbw : w.heap.size≤b:=by omega
  clear hwv hb;have hlv : RdD wv w.heap.size A m l:=hl.below gb;clear hl;obtain ⟨B0,hB0⟩ : ∃ B0,B0 = w.heap.size:=⟨_,rfl⟩;rw [← hB0] at hlv hbw;have HB0:=Lib.hid hB0;clear hB0
  go_upto_region 3 with fail
  refine nameW ?_;intro w1 hw1
  have k0 : Blk w1 wv.heap.size 180 zs9:=by rw [hw1];exact Blk.new _ _ _
  have kd1 : Blk w1 b 42 #[.int .i64 n,.int .i64 q]:=by rw [hw1];exact kd.alloc _
  have gb1 : Below B0 w w1:=by rw [hw1,HB0.out];exact gb.alloc gb.size _
  obtain ⟨g,hg⟩ : ∃ g,g = wv.heap.size:=⟨_,rfl⟩;rw [← hg] at k0 ⊢
  have hgb : b < g:=by omega
  have hlv1 : RdD w1 B0 A m l:=hlv.below (by rw [hw1];exact (Below.refl _ _).alloc (by have:=gb.size;rw [HB0.out];exact this) _);clear hw1 kd gb hg hwb hlv
  go_loopw [13] (fun i wr=>∃ k : Nat,k≤m∧i = .int .i64 k∧(∀ j,j < k→nameAt (n,q) l j = true)∧Blk wr g 180 zs9∧Blk wr b 42 #[.int .i64 n,.int .i64 q]∧RdD wr B0 A m l∧Below B0 w wr) (fun i _=>m - (intOf i).toNat)
  case atStart=>exact ⟨0,by omega,rfl,fun j hj=>by omega,k0,kd1,hlv1,gb1⟩
  case round =>
    clear k0 kd1 hlv1 gb1;obtain ⟨k,hk,rfl,hall,k0,kd,hl,hbel⟩:=hrel;have HA:=Lib.hid hall;clear hall
    by_cases hlt : k < m
    · have hkl : k < l.length:=by rw [← HM.out];exact hlt
      obtain ⟨ad,rfl,hdt⟩:=hl.2 k _ (List.getElem?_eq_getElem hkl)
      have hgd : nameAt (n,q) l k = (mayB l[k] && !decide (l[k] = (n,q)) && (decide (k = 0) || befB (l.getD (k - 1) (0,0)) l[k])):=by
        unfold nameAt
        rw [show l.getD k (0,0) = l[k] by rw [List.getD_eq_getElem?_getD,List.getElem?_eq_getElem hkl];rfl]
      generalize l[k] = d at *
      obtain ⟨x,y⟩:=d;obtain ⟨q5,q0,q1⟩:=hdt
      simp only at q0 q1 hgd
      have HG:=Lib.hid hgd;clear hgd;obtain ⟨wn,hwn⟩ : ∃ wn,wn = wr.alloc (.cells #[.int .i64 x,.int .i64 y] 42):=⟨_,rfl⟩;obtain ⟨gd,hgd⟩ : ∃ gd,gd = wr.heap.size:=⟨_,rfl⟩
      have kx : Blk wn gd 42 #[.int .i64 x,.int .i64 y]:=by rw [hwn,hgd];exact Blk.new wr _ _
      have bn : Below wr.heap.size wr wn:=by rw [hwn];exact (Below.refl _ _).alloc (Nat.le_refl _) _
      have k1:=k0.below bn k0.lt;have kd1:=kd.below bn kd.lt;have hb1:=hbel.trans (bn.mono (by have:=hbel.size;have:=HB0.out;omega));have hl1:=hl.below (bn.mono (by have:=hbel.size;have:=HB0.out;omega));have HW:=Lib.hid hwn;have HGD:=Lib.hid hgd;clear hwn hgd bn k0 kd hl
      go_upto_region 5 with fail
      rw [← HW.out,← HGD.out];have t0 : wn.cell? ⟨gd,0,none⟩ = some (.int .i64 x):=kx.cell 0;have t1 : wn.cell? ⟨gd,1,none⟩ = some (.int .i64 y):=kx.cell 1;have o0 : wn.cell? ⟨b,0,none⟩ = some (.int .i64 n):=kd1.cell 0;have o1 : wn.cell? ⟨b,1,none⟩ = some (.int .i64 q):=kd1.cell 1
      --CASES
      by_cases hx : x = n
      · by_cases hy : y = q
        · have hgk : nameAt (n,q) l k = false:=by rw [HG.out,hx,hy];simp
          have HGK:=Lib.hid hgk;clear hgk;subst hx;subst hy;refine wp_region_below (by kernel_rfl) (by kernel_rfl) ?_;intro T iT F hF hT
          have S0 : ∀ xf,(F xf).cell? ⟨gd,0,none⟩ = some (.int .i64 x):=fun xf=>((hF xf).cell (p:=⟨gd,0,none⟩) kx.lt).trans t0
          have S1 : ∀ xf,(F xf).cell? ⟨gd,1,none⟩ = some (.int .i64 y):=fun xf=>((hF xf).cell (p:=⟨gd,1,none⟩) kx.lt).trans t1
          have S2 : ∀ xf,(F xf).cell? ⟨b,0,none⟩ = some (.int .i64 x):=fun xf=>((hF xf).cell (p:=⟨b,0,none⟩) kd1.lt).trans o0
          have S3 : ∀ xf,(F xf).cell? ⟨b,1,none⟩ = some (.int .i64 y):=fun xf=>((hF xf).cell (p:=⟨b,1,none⟩) kd1.lt).trans o1
          have HF:=Lib.hid hF;have HT:=Lib.hid hT;clear hF hT
          repeat (first
            | go_big_quiet_step (fail))
          refine wpQuiet_nil ?_;intro w' hw';obtain ⟨qf,rfl⟩:=hw';have bF:=HF.out qf;have kF:=k1.below bF k1.lt;have kdF:=kd1.below bF kd1.lt;have kxF:=kx.below bF kx.lt;have hbF:=hb1.trans (bF.mono (by have:=hb1.size;have:=HB0.out;omega));have hlF:=hl1.below (bF.mono (by have:=hb1.size;have:=HB0.out;omega));clear HF HT S0 S1 S2 S3 t0 t1 o0 o1;go_wp2_with fail;go_ret;exact ⟨by rw [HR.out,name_at hkl HGK.out];rfl,by rw [← HB0.out];exact hbF⟩
        · subst hx
          have HNO:=Lib.hid (show decide ((x,y) = (x,q)) = false by rw [decide_eq_false_iff_not];intro h;exact hy (congrArg Prod.snd h))
          by_cases hk0 : k = 0
          · subst hk0
            refine wp_region_below (by kernel_rfl) (by kernel_rfl) ?_;intro T iT F hF hT
            have S0 : ∀ xf,(F xf).cell? ⟨gd,0,none⟩ = some (.int .i64 x):=fun xf=>((hF xf).cell (p:=⟨gd,0,none⟩) kx.lt).trans t0
            have S1 : ∀ xf,(F xf).cell? ⟨gd,1,none⟩ = some (.int .i64 y):=fun xf=>((hF xf).cell (p:=⟨gd,1,none⟩) kx.lt).trans t1
            have S2 : ∀ xf,(F xf).cell? ⟨b,0,none⟩ = some (.int .i64 x):=fun xf=>((hF xf).cell (p:=⟨b,0,none⟩) kd1.lt).trans o0
            have S3 : ∀ xf,(F xf).cell? ⟨b,1,none⟩ = some (.int .i64 q):=fun xf=>((hF xf).cell (p:=⟨b,1,none⟩) kd1.lt).trans o1
            have HF:=Lib.hid hF;have HT:=Lib.hid hT;clear hF hT
            repeat (first
              | go_big_quiet_step (fail))
            refine wpQuiet_nil ?_;intro w' hw';obtain ⟨qf,rfl⟩:=hw';have bF:=HF.out qf;have kF:=k1.below bF k1.lt;have kdF:=kd1.below bF kd1.lt;have kxF:=kx.below bF kx.lt;have hbF:=hb1.trans (bF.mono (by have:=hb1.size;have:=HB0.out;omega));have hlF:=hl1.below (bF.mono (by have:=hb1.size;have:=HB0.out;omega));clear HF HT S0 S1 S2 S3 t0 t1 o0 o1
            generalize F qf = wf at *
            obtain ⟨tx0,tx1⟩ : wf.cell? ⟨gd,0,none⟩ = some (.int .i64 x)∧wf.cell? ⟨gd,1,none⟩ = some (.int .i64 y):=⟨kxF.cell 0,kxF.cell 1⟩;have hsz : wf.heap.size = wf.heap.size:=rfl;have ha0:=add0_any x y wf
            cases hm : mayB (x,y)
            case false =>
              have hgk : nameAt (x,q) l 0 = false:=by rw [HG.out,hm];rfl
              have HGK:=Lib.hid hgk;rw [hm] at ha0;clear hgk hm
              go_wp2_with first
                | ((with_reducible refine wpList_ld rowS kF ZS.out ?_ ?_);rotate_left;(rfl))
              refine ha0.mono ?_;rintro e w2 ⟨sc,s9,s1,rfl,b2⟩;have hb2:=hbF.trans (b2.mono (by have:=hbF.size;have:=HB0.out;omega));have S9:=Lib.hid s9;have SO:=Lib.hid s1;clear s9 s1
              go_wp2_with ((with_reducible refine wpList_st rowS (Blk.new _ _ _) S9.out ?_ SO.out ?_ ?_ ?_);(rfl);rotate_left;(rfl);(rfl);intro w3 k3 g3 z3)
              have hb3:=(hb2.alloc (by have:=hb2.size;have:=HB0.out;omega) _).grown g3 (by have:=hb2.size;have:=HB0.out;simp;omega) (fun r hr=>by injection hr with hr;have:=hb2.size;have:=HB0.out;omega);go_wp2_with fail;go_ret;exact ⟨by rw [HR.out,name_at hkl HGK.out];rfl,by rw [← HB0.out];exact hb3⟩
            case true =>
              have hgk : nameAt (x,q) l 0 = true:=by rw [HG.out,hm];rw [HNO.out];rfl
              have HGK:=Lib.hid hgk;rw [hm] at ha0;clear hgk hm
              go_wp2_with first
                | ((with_reducible refine wpList_ld rowS kF ZS.out ?_ ?_);rotate_left;(rfl))
              refine ha0.mono ?_;rintro e w2 ⟨sc,s9,s1,rfl,b2⟩;have hb2:=hbF.trans (b2.mono (by have:=hbF.size;have:=HB0.out;omega));have hl2:=hlF.below (b2.mono (by have:=hbF.size;have:=HB0.out;omega));have k2:=kF.below b2 kF.lt;have kd2:=kdF.below b2 kdF.lt;have S9:=Lib.hid s9;have SO:=Lib.hid s1;clear s9 s1
              go_wp2_with ((with_reducible refine wpList_st rowS (Blk.new _ _ _) S9.out ?_ SO.out ?_ ?_ ?_);(rfl);rotate_left;(rfl);(rfl);intro w3 k3 g3 z3)
              have hb3:=(hb2.alloc (by have:=hb2.size;have:=HB0.out;omega) _).grown g3 (by have:=hb2.size;have:=HB0.out;simp;omega) (fun r hr=>by injection hr with hr;have:=hb2.size;have:=HB0.out;omega);have bx : Below w2.heap.size w2 w3:=((Below.refl _ _).alloc (Nat.le_refl _) _).grown g3 (by simp) (fun r hr=>by injection hr with hr;omega);go_wp2_with fail
              go_roundw
              case rel=>exact ⟨1,by omega,rfl,fun i hi=>by
                by_cases e : i = 0
                · subst e;exact HGK.out
                · exact HA.out i (by omega),k2.below bx k2.lt,kd2.below bx kd2.lt,hl2.below (bx.mono (by have:=hb2.size;have:=HB0.out;omega)),hb3⟩
              case measure=>exact (by simp only [intOf];omega)
          · obtain ⟨j,hmk⟩ : ∃ j,k = j + 1:=⟨k - 1,by omega⟩
            have hml : j < l.length:=by omega
            have hkp : 0 < k:=by omega
            have hwk : IntKind.i64.wrap ((k : Int) - 1) = (j : Int):=by rw [IntKind.wrap_i64];have:=H96.out;omega
            have hm0 : (0 : Int)≤(j : Int):=by omega
            have hmn : (j : Int) < (m : Int):=by omega
            obtain ⟨ad2,hae,hdt2⟩:=hl1.2 j _ (List.getElem?_eq_getElem hml)
            injection hae with hae
            subst hae
            have hpe : l.getD j (0,0) = l[j]:=by rw [List.getD_eq_getElem?_getD,List.getElem?_eq_getElem hml];rfl
            have hg3 : nameAt (x,q) l k = (mayB (x,y) && befB l[j] (x,y)):=by
              rw [HG.out,HNO.out,decide_eq_false hk0,show k - 1 = j by omega,hpe]
              cases mayB (x,y) <;> rfl
            clear hpe
            generalize l[j] = d at *
            obtain ⟨x2,y2⟩:=d;obtain ⟨p5,p0,p1⟩:=hdt2
            simp only at p0 p1
            have p6 : (ad.add (j * 2)).block < wn.heap.size:=Nat.lt_of_lt_of_le p5 (by have:=hb1.size;have:=HB0.out;omega);clear HG;have HG:=Lib.hid hg3;clear hg3 hmk
            have hcc : ∀ w',Calls Tryz.prog 136 #[.agg #[.int .i64 x2,.int .i64 y2],.agg #[.int .i64 x,.int .i64 y]] w' fun e w''=>e = .returned (.bool (befB (x2,y2) (x,y)))∧Below w'.heap.size w' w'':=fun w'=>ebefore_any x2 y2 x y w'
            cases hbf : befB (x2,y2) (x,y)
            case false =>
              have hgk : nameAt (x,q) l k = false:=by rw [HG.out,hbf];cases mayB (x,y) <;> rfl
              have HGK:=Lib.hid hgk;rw [hbf] at hcc;have HCC:=Lib.hid hcc;clear hgk hbf hcc;refine wp_region_below (by kernel_rfl) (by kernel_rfl) ?_;intro T iT F hF hT
              have S0 : ∀ xf,(F xf).cell? ⟨gd,0,none⟩ = some (.int .i64 x):=fun xf=>((hF xf).cell (p:=⟨gd,0,none⟩) kx.lt).trans t0
              have S1 : ∀ xf,(F xf).cell? ⟨gd,1,none⟩ = some (.int .i64 y):=fun xf=>((hF xf).cell (p:=⟨gd,1,none⟩) kx.lt).trans t1
              have S2 : ∀ xf,(F xf).cell? ⟨b,0,none⟩ = some (.int .i64 x):=fun xf=>((hF xf).cell (p:=⟨b,0,none⟩) kd1.lt).trans o0
              have S3 : ∀ xf,(F xf).cell? ⟨b,1,none⟩ = some (.int .i64 q):=fun xf=>((hF xf).cell (p:=⟨b,1,none⟩) kd1.lt).trans o1
              have SP : ∀ xf,(F xf).cell? (ad.add (j * 2)) = some (.int .i64 x2):=fun xf=>((hF xf).cell p6).trans p0
              have SQ : ∀ xf,(F xf).cell? ⟨(ad.add (j * 2)).block,(ad.add (j * 2)).off + 1,none⟩ = some (.int .i64 y2):=fun xf=>((hF xf).cell (p:=⟨(ad.add (j * 2)).block,(ad.add (j * 2)).off + 1,none⟩) p6).trans p1
              have HF:=Lib.hid hF;have HT:=Lib.hid hT;clear hF hT
              repeat (first
                | go_big_quiet_step ((go_at_call 136;exact calls_below HF.out HT.out (HCC.out _))))
              refine wpQuiet_nil ?_;intro w' hw';obtain ⟨qf,rfl⟩:=hw';have bF:=HF.out qf;have kF:=k1.below bF k1.lt;have kdF:=kd1.below bF kd1.lt;have kxF:=kx.below bF kx.lt;have hbF:=hb1.trans (bF.mono (by have:=hb1.size;have:=HB0.out;omega));have hlF:=hl1.below (bF.mono (by have:=hb1.size;have:=HB0.out;omega));clear HF HT S0 S1 S2 S3 t0 t1 o0 o1;go_wp2_with fail;go_ret;exact ⟨by rw [HR.out,name_at hkl HGK.out];rfl,by rw [← HB0.out];exact hbF⟩
            case true =>
              have HBF:=Lib.hid hbf;rw [hbf] at hcc;have HCC:=Lib.hid hcc;clear hbf hcc;refine wp_region_below (by kernel_rfl) (by kernel_rfl) ?_;intro T iT F hF hT
              have S0 : ∀ xf,(F xf).cell? ⟨gd,0,none⟩ = some (.int .i64 x):=fun xf=>((hF xf).cell (p:=⟨gd,0,none⟩) kx.lt).trans t0
              have S1 : ∀ xf,(F xf).cell? ⟨gd,1,none⟩ = some (.int .i64 y):=fun xf=>((hF xf).cell (p:=⟨gd,1,none⟩) kx.lt).trans t1
              have S2 : ∀ xf,(F xf).cell? ⟨b,0,none⟩ = some (.int .i64 x):=fun xf=>((hF xf).cell (p:=⟨b,0,none⟩) kd1.lt).trans o0
              have S3 : ∀ xf,(F xf).cell? ⟨b,1,none⟩ = some (.int .i64 q):=fun xf=>((hF xf).cell (p:=⟨b,1,none⟩) kd1.lt).trans o1
              have SP : ∀ xf,(F xf).cell? (ad.add (j * 2)) = some (.int .i64 x2):=fun xf=>((hF xf).cell p6).trans p0
              have SQ : ∀ xf,(F xf).cell? ⟨(ad.add (j * 2)).block,(ad.add (j * 2)).off + 1,none⟩ = some (.int .i64 y2):=fun xf=>((hF xf).cell (p:=⟨(ad.add (j * 2)).block,(ad.add (j * 2)).off + 1,none⟩) p6).trans p1
              have HF:=Lib.hid hF;have HT:=Lib.hid hT;clear hF hT
              repeat (first
                | go_big_quiet_step ((go_at_call 136;exact calls_below HF.out HT.out (HCC.out _))))
              refine wpQuiet_nil ?_;intro w' hw';obtain ⟨qf,rfl⟩:=hw';have bF:=HF.out qf;have kF:=k1.below bF k1.lt;have kdF:=kd1.below bF kd1.lt;have kxF:=kx.below bF kx.lt;have hbF:=hb1.trans (bF.mono (by have:=hb1.size;have:=HB0.out;omega));have hlF:=hl1.below (bF.mono (by have:=hb1.size;have:=HB0.out;omega));clear HF HT S0 S1 S2 S3 t0 t1 o0 o1
              generalize F qf = wf at *
              obtain ⟨tx0,tx1⟩ : wf.cell? ⟨gd,0,none⟩ = some (.int .i64 x)∧wf.cell? ⟨gd,1,none⟩ = some (.int .i64 y):=⟨kxF.cell 0,kxF.cell 1⟩;have hsz : wf.heap.size = wf.heap.size:=rfl;have ha0:=add0_any x y wf
              cases hm : mayB (x,y)
              case false =>
                have hgk : nameAt (x,q) l k = false:=by rw [HG.out,hm];rfl
                have HGK:=Lib.hid hgk;rw [hm] at ha0;clear hgk hm
                go_wp2_with first
                  | ((with_reducible refine wpList_ld rowS kF ZS.out ?_ ?_);rotate_left;(rfl))
                refine ha0.mono ?_;rintro e w2 ⟨sc,s9,s1,rfl,b2⟩;have hb2:=hbF.trans (b2.mono (by have:=hbF.size;have:=HB0.out;omega));have S9:=Lib.hid s9;have SO:=Lib.hid s1;clear s9 s1
                go_wp2_with ((with_reducible refine wpList_st rowS (Blk.new _ _ _) S9.out ?_ SO.out ?_ ?_ ?_);(rfl);rotate_left;(rfl);(rfl);intro w3 k3 g3 z3)
                have hb3:=(hb2.alloc (by have:=hb2.size;have:=HB0.out;omega) _).grown g3 (by have:=hb2.size;have:=HB0.out;simp;omega) (fun r hr=>by injection hr with hr;have:=hb2.size;have:=HB0.out;omega);go_wp2_with fail;go_ret;exact ⟨by rw [HR.out,name_at hkl HGK.out];rfl,by rw [← HB0.out];exact hb3⟩
              case true =>
                have hgk : nameAt (x,q) l k = true:=by rw [HG.out,hm];rw [HBF.out];rfl
                have HGK:=Lib.hid hgk;rw [hm] at ha0;clear hgk hm
                go_wp2_with first
                  | ((with_reducible refine wpList_ld rowS kF ZS.out ?_ ?_);rotate_left;(rfl))
                refine ha0.mono ?_;rintro e w2 ⟨sc,s9,s1,rfl,b2⟩;have hb2:=hbF.trans (b2.mono (by have:=hbF.size;have:=HB0.out;omega));have hl2:=hlF.below (b2.mono (by have:=hbF.size;have:=HB0.out;omega));have k2:=kF.below b2 kF.lt;have kd2:=kdF.below b2 kdF.lt;have S9:=Lib.hid s9;have SO:=Lib.hid s1;clear s9 s1
                go_wp2_with ((with_reducible refine wpList_st rowS (Blk.new _ _ _) S9.out ?_ SO.out ?_ ?_ ?_);(rfl);rotate_left;(rfl);(rfl);intro w3 k3 g3 z3)
                have hb3:=(hb2.alloc (by have:=hb2.size;have:=HB0.out;omega) _).grown g3 (by have:=hb2.size;have:=HB0.out;simp;omega) (fun r hr=>by injection hr with hr;have:=hb2.size;have:=HB0.out;omega);have bx : Below w2.heap.size w2 w3:=((Below.refl _ _).alloc (Nat.le_refl _) _).grown g3 (by simp) (fun r hr=>by injection hr with hr;omega);go_wp2_with fail
                go_roundw
                case rel=>exact ⟨k + 1,by omega,num_succ k (by have:=H96.out;omega),fun i hi=>by
                  by_cases e : i = k
                  · subst e;exact HGK.out
                  · exact HA.out i (by omega),k2.below bx k2.lt,kd2.below bx kd2.lt,hl2.below (bx.mono (by have:=hb2.size;have:=HB0.out;omega)),hb3⟩
                case measure=>exact meas_succ k m hlt (by have:=H96.out;omega)
      · skip
        have HNO:=Lib.hid (show decide ((x,y) = (n,q)) = false by rw [decide_eq_false_iff_not];intro h;exact hx (congrArg Prod.fst h))
        by_cases hk0 : k = 0
        · subst hk0
          refine wp_region_below (by kernel_rfl) (by kernel_rfl) ?_;intro T iT F hF hT
          have S0 : ∀ xf,(F xf).cell? ⟨gd,0,none⟩ = some (.int .i64 x):=fun xf=>((hF xf).cell (p:=⟨gd,0,none⟩) kx.lt).trans t0
          have S1 : ∀ xf,(F xf).cell? ⟨gd,1,none⟩ = some (.int .i64 y):=fun xf=>((hF xf).cell (p:=⟨gd,1,none⟩) kx.lt).trans t1
          have S2 : ∀ xf,(F xf).cell? ⟨b,0,none⟩ = some (.int .i64 n):=fun xf=>((hF xf).cell (p:=⟨b,0,none⟩) kd1.lt).trans o0
          have S3 : ∀ xf,(F xf).cell? ⟨b,1,none⟩ = some (.int .i64 q):=fun xf=>((hF xf).cell (p:=⟨b,1,none⟩) kd1.lt).trans o1
          have HF:=Lib.hid hF;have HT:=Lib.hid hT;clear hF hT
          repeat (first
            | go_big_quiet_step (fail))
          refine wpQuiet_nil ?_;intro w' hw';obtain ⟨qf,rfl⟩:=hw';have bF:=HF.out qf;have kF:=k1.below bF k1.lt;have kdF:=kd1.below bF kd1.lt;have kxF:=kx.below bF kx.lt;have hbF:=hb1.trans (bF.mono (by have:=hb1.size;have:=HB0.out;omega));have hlF:=hl1.below (bF.mono (by have:=hb1.size;have:=HB0.out;omega));clear HF HT S0 S1 S2 S3 t0 t1 o0 o1
          generalize F qf = wf at *
          obtain ⟨tx0,tx1⟩ : wf.cell? ⟨gd,0,none⟩ = some (.int .i64 x)∧wf.cell? ⟨gd,1,none⟩ = some (.int .i64 y):=⟨kxF.cell 0,kxF.cell 1⟩;have hsz : wf.heap.size = wf.heap.size:=rfl;have ha0:=add0_any x y wf
          cases hm : mayB (x,y)
          case false =>
            have hgk : nameAt (n,q) l 0 = false:=by rw [HG.out,hm];rfl
            have HGK:=Lib.hid hgk;rw [hm] at ha0;clear hgk hm
            go_wp2_with first
              | ((with_reducible refine wpList_ld rowS kF ZS.out ?_ ?_);rotate_left;(rfl))
            refine ha0.mono ?_;rintro e w2 ⟨sc,s9,s1,rfl,b2⟩;have hb2:=hbF.trans (b2.mono (by have:=hbF.size;have:=HB0.out;omega));have S9:=Lib.hid s9;have SO:=Lib.hid s1;clear s9 s1
            go_wp2_with ((with_reducible refine wpList_st rowS (Blk.new _ _ _) S9.out ?_ SO.out ?_ ?_ ?_);(rfl);rotate_left;(rfl);(rfl);intro w3 k3 g3 z3)
            have hb3:=(hb2.alloc (by have:=hb2.size;have:=HB0.out;omega) _).grown g3 (by have:=hb2.size;have:=HB0.out;simp;omega) (fun r hr=>by injection hr with hr;have:=hb2.size;have:=HB0.out;omega);go_wp2_with fail;go_ret;exact ⟨by rw [HR.out,name_at hkl HGK.out];rfl,by rw [← HB0.out];exact hb3⟩
          case true =>
            have hgk : nameAt (n,q) l 0 = true:=by rw [HG.out,hm];rw [HNO.out];rfl
            have HGK:=Lib.hid hgk;rw [hm] at ha0;clear hgk hm
            go_wp2_with first
              | ((with_reducible refine wpList_ld rowS kF ZS.out ?_ ?_);rotate_left;(rfl))
            refine ha0.mono ?_;rintro e w2 ⟨sc,s9,s1,rfl,b2⟩;have hb2:=hbF.trans (b2.mono (by have:=hbF.size;have:=HB0.out;omega));have hl2:=hlF.below (b2.mono (by have:=hbF.size;have:=HB0.out;omega));have k2:=kF.below b2 kF.lt;have kd2:=kdF.below b2 kdF.lt;have S9:=Lib.hid s9;have SO:=Lib.hid s1;clear s9 s1
            go_wp2_with ((with_reducible refine wpList_st rowS (Blk.new _ _ _) S9.out ?_ SO.out ?_ ?_ ?_);(rfl);rotate_left;(rfl);(rfl);intro w3 k3 g3 z3)
            have hb3:=(hb2.alloc (by have:=hb2.size;have:=HB0.out;omega) _).grown g3 (by have:=hb2.size;have:=HB0.out;simp;omega) (fun r hr=>by injection hr with hr;have:=hb2.size;have:=HB0.out;omega);have bx : Below w2.heap.size w2 w3:=((Below.refl _ _).alloc (Nat.le_refl _) _).grown g3 (by simp) (fun r hr=>by injection hr with hr;omega);go_wp2_with fail
            go_roundw
            case rel=>exact ⟨1,by omega,rfl,fun i hi=>by
              by_cases e : i = 0
              · subst e;exact HGK.out
              · exact HA.out i (by omega),k2.below bx k2.lt,kd2.below bx kd2.lt,hl2.below (bx.mono (by have:=hb2.size;have:=HB0.out;omega)),hb3⟩
            case measure=>exact (by simp only [intOf];omega)
        · obtain ⟨j,hmk⟩ : ∃ j,k = j + 1:=⟨k - 1,by omega⟩
          have hml : j < l.length:=by omega
          have hkp : 0 < k:=by omega
          have hwk : IntKind.i64.wrap ((k : Int) - 1) = (j : Int):=by rw [IntKind.wrap_i64];have:=H96.out;omega
          have hm0 : (0 : Int)≤(j : Int):=by omega
          have hmn : (j : Int) < (m : Int):=by omega
          obtain ⟨ad2,hae,hdt2⟩:=hl1.2 j _ (List.getElem?_eq_getElem hml)
          injection hae with hae
          subst hae
          have hpe : l.getD j (0,0) = l[j]:=by rw [List.getD_eq_getElem?_getD,List.getElem?_eq_getElem hml];rfl
          have hg3 : nameAt (n,q) l k = (mayB (x,y) && befB l[j] (x,y)):=by
            rw [HG.out,HNO.out,decide_eq_false hk0,show k - 1 = j by omega,hpe]
            cases mayB (x,y) <;> rfl
          clear hpe
          generalize l[j] = d at *
          obtain ⟨x2,y2⟩:=d;obtain ⟨p5,p0,p1⟩:=hdt2
          simp only at p0 p1
          have p6 : (ad.add (j * 2)).block < wn.heap.size:=Nat.lt_of_lt_of_le p5 (by have:=hb1.size;have:=HB0.out;omega);clear HG;have HG:=Lib.hid hg3;clear hg3 hmk
          have hcc : ∀ w',Calls Tryz.prog 136 #[.agg #[.int .i64 x2,.int .i64 y2],.agg #[.int .i64 x,.int .i64 y]] w' fun e w''=>e = .returned (.bool (befB (x2,y2) (x,y)))∧Below w'.heap.size w' w'':=fun w'=>ebefore_any x2 y2 x y w'
          cases hbf : befB (x2,y2) (x,y)
          case false =>
            have hgk : nameAt (n,q) l k = false:=by rw [HG.out,hbf];cases mayB (x,y) <;> rfl
            have HGK:=Lib.hid hgk;rw [hbf] at hcc;have HCC:=Lib.hid hcc;clear hgk hbf hcc;refine wp_region_below (by kernel_rfl) (by kernel_rfl) ?_;intro T iT F hF hT
            have S0 : ∀ xf,(F xf).cell? ⟨gd,0,none⟩ = some (.int .i64 x):=fun xf=>((hF xf).cell (p:=⟨gd,0,none⟩) kx.lt).trans t0
            have S1 : ∀ xf,(F xf).cell? ⟨gd,1,none⟩ = some (.int .i64 y):=fun xf=>((hF xf).cell (p:=⟨gd,1,none⟩) kx.lt).trans t1
            have S2 : ∀ xf,(F xf).cell? ⟨b,0,none⟩ = some (.int .i64 n):=fun xf=>((hF xf).cell (p:=⟨b,0,none⟩) kd1.lt).trans o0
            have S3 : ∀ xf,(F xf).cell? ⟨b,1,none⟩ = some (.int .i64 q):=fun xf=>((hF xf).cell (p:=⟨b,1,none⟩) kd1.lt).trans o1
            have SP : ∀ xf,(F xf).cell? (ad.add (j * 2)) = some (.int .i64 x2):=fun xf=>((hF xf).cell p6).trans p0
            have SQ : ∀ xf,(F xf).cell? ⟨(ad.add (j * 2)).block,(ad.add (j * 2)).off + 1,none⟩ = some (.int .i64 y2):=fun xf=>((hF xf).cell (p:=⟨(ad.add (j * 2)).block,(ad.add (j * 2)).off + 1,none⟩) p6).trans p1
            have HF:=Lib.hid hF;have HT:=Lib.hid hT;clear hF hT
            repeat (first
              | go_big_quiet_step ((go_at_call 136;exact calls_below HF.out HT.out (HCC.out _))))
            refine wpQuiet_nil ?_;intro w' hw';obtain ⟨qf,rfl⟩:=hw';have bF:=HF.out qf;have kF:=k1.below bF k1.lt;have kdF:=kd1.below bF kd1.lt;have kxF:=kx.below bF kx.lt;have hbF:=hb1.trans (bF.mono (by have:=hb1.size;have:=HB0.out;omega));have hlF:=hl1.below (bF.mono (by have:=hb1.size;have:=HB0.out;omega));clear HF HT S0 S1 S2 S3 t0 t1 o0 o1;go_wp2_with fail;go_ret;exact ⟨by rw [HR.out,name_at hkl HGK.out];rfl,by rw [← HB0.out];exact hbF⟩
          case true =>
            have HBF:=Lib.hid hbf;rw [hbf] at hcc;have HCC:=Lib.hid hcc;clear hbf hcc;refine wp_region_below (by kernel_rfl) (by kernel_rfl) ?_;intro T iT F hF hT
            have S0 : ∀ xf,(F xf).cell? ⟨gd,0,none⟩ = some (.int .i64 x):=fun xf=>((hF xf).cell (p:=⟨gd,0,none⟩) kx.lt).trans t0
            have S1 : ∀ xf,(F xf).cell? ⟨gd,1,none⟩ = some (.int .i64 y):=fun xf=>((hF xf).cell (p:=⟨gd,1,none⟩) kx.lt).trans t1
            have S2 : ∀ xf,(F xf).cell? ⟨b,0,none⟩ = some (.int .i64 n):=fun xf=>((hF xf).cell (p:=⟨b,0,none⟩) kd1.lt).trans o0
            have S3 : ∀ xf,(F xf).cell? ⟨b,1,none⟩ = some (.int .i64 q):=fun xf=>((hF xf).cell (p:=⟨b,1,none⟩) kd1.lt).trans o1
            have SP : ∀ xf,(F xf).cell? (ad.add (j * 2)) = some (.int .i64 x2):=fun xf=>((hF xf).cell p6).trans p0
            have SQ : ∀ xf,(F xf).cell? ⟨(ad.add (j * 2)).block,(ad.add (j * 2)).off + 1,none⟩ = some (.int .i64 y2):=fun xf=>((hF xf).cell (p:=⟨(ad.add (j * 2)).block,(ad.add (j * 2)).off + 1,none⟩) p6).trans p1
            have HF:=Lib.hid hF;have HT:=Lib.hid hT;clear hF hT
            repeat (first
              | go_big_quiet_step ((go_at_call 136;exact calls_below HF.out HT.out (HCC.out _))))
            refine wpQuiet_nil ?_;intro w' hw';obtain ⟨qf,rfl⟩:=hw';have bF:=HF.out qf;have kF:=k1.below bF k1.lt;have kdF:=kd1.below bF kd1.lt;have kxF:=kx.below bF kx.lt;have hbF:=hb1.trans (bF.mono (by have:=hb1.size;have:=HB0.out;omega));have hlF:=hl1.below (bF.mono (by have:=hb1.size;have:=HB0.out;omega));clear HF HT S0 S1 S2 S3 t0 t1 o0 o1
            generalize F qf = wf at *
            obtain ⟨tx0,tx1⟩ : wf.cell? ⟨gd,0,none⟩ = some (.int .i64 x)∧wf.cell? ⟨gd,1,none⟩ = some (.int .i64 y):=⟨kxF.cell 0,kxF.cell 1⟩;have hsz : wf.heap.size = wf.heap.size:=rfl;have ha0:=add0_any x y wf
            cases hm : mayB (x,y)
            case false =>
              have hgk : nameAt (n,q) l k = false:=by rw [HG.out,hm];rfl
              have HGK:=Lib.hid hgk;rw [hm] at ha0;clear hgk hm
              go_wp2_with first
                | ((with_reducible refine wpList_ld rowS kF ZS.out ?_ ?_);rotate_left;(rfl))
              refine ha0.mono ?_;rintro e w2 ⟨sc,s9,s1,rfl,b2⟩;have hb2:=hbF.trans (b2.mono (by have:=hbF.size;have:=HB0.out;omega));have S9:=Lib.hid s9;have SO:=Lib.hid s1;clear s9 s1
              go_wp2_with ((with_reducible refine wpList_st rowS (Blk.new _ _ _) S9.out ?_ SO.out ?_ ?_ ?_);(rfl);rotate_left;(rfl);(rfl);intro w3 k3 g3 z3)
              have hb3:=(hb2.alloc (by have:=hb2.size;have:=HB0.out;omega) _).grown g3 (by have:=hb2.size;have:=HB0.out;simp;omega) (fun r hr=>by injection hr with hr;have:=hb2.size;have:=HB0.out;omega);go_wp2_with fail;go_ret;exact ⟨by rw [HR.out,name_at hkl HGK.out];rfl,by rw [← HB0.out];exact hb3⟩
            case true =>
              have hgk : nameAt (n,q) l k = true:=by rw [HG.out,hm];rw [HBF.out];rfl
              have HGK:=Lib.hid hgk;rw [hm] at ha0;clear hgk hm
              go_wp2_with first
                | ((with_reducible refine wpList_ld rowS kF ZS.out ?_ ?_);rotate_left;(rfl))
              refine ha0.mono ?_;rintro e w2 ⟨sc,s9,s1,rfl,b2⟩;have hb2:=hbF.trans (b2.mono (by have:=hbF.size;have:=HB0.out;omega));have hl2:=hlF.below (b2.mono (by have:=hbF.size;have:=HB0.out;omega));have k2:=kF.below b2 kF.lt;have kd2:=kdF.below b2 kdF.lt;have S9:=Lib.hid s9;have SO:=Lib.hid s1;clear s9 s1
              go_wp2_with ((with_reducible refine wpList_st rowS (Blk.new _ _ _) S9.out ?_ SO.out ?_ ?_ ?_);(rfl);rotate_left;(rfl);(rfl);intro w3 k3 g3 z3)
              have hb3:=(hb2.alloc (by have:=hb2.size;have:=HB0.out;omega) _).grown g3 (by have:=hb2.size;have:=HB0.out;simp;omega) (fun r hr=>by injection hr with hr;have:=hb2.size;have:=HB0.out;omega);have bx : Below w2.heap.size w2 w3:=((Below.refl _ _).alloc (Nat.le_refl _) _).grown g3 (by simp) (fun r hr=>by injection hr with hr;omega);go_wp2_with fail
              go_roundw
              case rel=>exact ⟨k + 1,by omega,num_succ k (by have:=H96.out;omega),fun i hi=>by
                by_cases e : i = k
                · subst e;exact HGK.out
                · exact HA.out i (by omega),k2.below bx k2.lt,kd2.below bx kd2.lt,hl2.below (bx.mono (by have:=hb2.size;have:=HB0.out;omega)),hb3⟩
              case measure=>exact meas_succ k m hlt (by have:=H96.out;omega)
    · have hR : R = true:=by
        rw [HR.out,named_iff]
        exact fun i hi=>HA.out i (by have:=HM.out;omega)
      subst hR;go_wp2_with fail;go_ret;exact ⟨rfl,by rw [← HB0.out];exact hbel⟩
end Go.Proofs.YtfpenfgmpbdakaaGreat
