import Derived.Test.YtfpenfgmpbdakaaGreatFrameMust
import Derived.Deep.DeepCutAuto
import Derived.Deep.RegionWith
namespace Go.Proofs.YtfpenfgmpbdakaaGreat
set_option linter.unusedVariables false
set_option linter.unusedSimpArgs false
set_option maxRecDepth 100000
open Go.RowKit
namespace Frame
theorem dec_nil : dec [] = .error 3:=rfl
theorem dec_form {v : UInt8} {t : List UInt8} (hv : v ≠ 1) : dec (v :: t) = .error 4:=by
  unfold dec
  simp only [if_pos hv]
theorem dec_int {t : List UInt8} {x : Nat} (h : Vint.dec t = .error x) : dec (1 :: t) = .error x:=by
  unfold dec
  simp only [h]
  exact if_neg (by simp)
theorem dec_size {t r : List UInt8} {k : Nat} (h : Vint.dec t = .ok (k,r)) (hk : 4096 < k) : dec (1 :: t) = .error 6:=by
  unfold dec
  simp only [h]
  rw [if_neg (by simp),if_pos hk]
theorem dec_short {t r : List UInt8} {k : Nat} (h : Vint.dec t = .ok (k,r)) (hk : k≤4096) (hr : r.length < k + 4) : dec (1 :: t) = .error 3:=by
  unfold dec
  simp only [h]
  rw [if_neg (by simp),if_neg (by omega),if_pos hr]
theorem dec_sum {t r : List UInt8} {k : Nat} (h : Vint.dec t = .ok (k,r)) (hk : k≤4096) (hr : k + 4≤r.length) (hs : (r.drop k).take 4 ≠ be (Crc.sum ((1 :: t).take ((1 :: t).length - r.length + k)))) : dec (1 :: t) = .error 5:=by
  unfold dec
  simp only [h]
  rw [if_neg (by simp),if_neg (by omega),if_neg (by omega),if_neg hs]
theorem dec_good {t r : List UInt8} {k : Nat} (h : Vint.dec t = .ok (k,r)) (hk : k≤4096) (hr : k + 4≤r.length) (hs : (r.drop k).take 4 = be (Crc.sum ((1 :: t).take ((1 :: t).length - r.length + k)))) : dec (1 :: t) = .ok (r.take k,r.drop (k + 4)):=by
  unfold dec
  simp only [h]
  rw [if_neg (by simp),if_neg (by omega),if_neg (by omega),if_pos hs]
def ReadF (w : World) (B : Nat) (bs : List UInt8) (e : Ending) (w' : World) : Prop :=
  Below w.heap.size w w'∧match dec bs with
    | .ok (x,_)=>∃ A' c',e = .returned (.tuple #[.slice A' x.length c',.int .i64 ((frm x).length : Nat)])∧RdB w' B A' x.length x
    | .error y=>e = .panicked [{ v:=flt y,recovered:=false }]
theorem ReadF.bad {w w' : World} {B : Nat} {bs : List UInt8} {e : Ending} {y : Nat} (h : dec bs = .error y) (he : e = .panicked [{ v:=flt y,recovered:=false }]) (hb : Below w.heap.size w w') : ReadF w B bs e w':=by
  unfold ReadF
  rw [h];exact ⟨hb,he⟩
set_option maxRecDepth 100000 in
set_option maxHeartbeats 400000 in
theorem read_any (A : Option Addr) (n c : Nat) (bs : List UInt8) (B : Nat) (w : World) (hb : RdB w B A n bs) (hB : B≤w.heap.size) (hl : n≤140737488355000) (hc : n≤c) (hm : c≤maxLen) :
    Calls Tryz.prog 94 #[.slice A n c] w (ReadF w B bs):=by
  obtain rfl:=hb.1
  unfold maxLen at hm
  rcases bs with _ | ⟨v,t⟩
  · go_enter Tryz.func94,Tryz.ntmps94
    go_wp2_with fail;refine (must_no (by first | rfl | (simp;done) | (simp;omega)) _ _).mono ?_;rintro e w1 ⟨rfl,rfl⟩;go_wp2_with fail;exact ⟨rfl,ReadF.bad dec_nil rfl (Below.refl _ _)⟩
  have hd0 : decide ((0 : Int) < ((v :: t).length : Int)) = true:=decide_eq_true (by simp);obtain ⟨a,rfl,hab,hv0⟩:=hb.at_ (k:=0) (by simp)
  have hv1 : w.cell? a = some (bv v):=by simpa [go_sem] using hv0
  clear hv0
  by_cases hv : v ≠ 1
  · have hq : ((v.toNat : Int) == 1) = false:=by
      rw [beq_eq_false_iff_ne];intro e;exact hv (UInt8.toNat_inj.1 (by show v.toNat = 1;omega))
    go_enter Tryz.func94,Tryz.ntmps94
    go_wp2_with fail;refine (must_yes (by first | rfl | (simp;done) | (simp;omega)) _ _).mono ?_;rintro e w1 ⟨rfl,rfl⟩;go_wp2_with fail;refine (must_no (by first | rfl | (simp;done) | (simp;omega)) _ _).mono ?_;rintro e w1 ⟨rfl,rfl⟩;go_wp2_with fail;exact ⟨rfl,ReadF.bad (dec_form hv) rfl (Below.refl _ _)⟩
  have hv:=Decidable.not_not.1 hv
  have hq : ((v.toNat : Int) == 1) = true:=by rw [hv];rfl
  have HV:=Lib.hid hv;clear hv;obtain ⟨L,hL⟩ : ∃ L,L = (v :: t).length:=⟨_,rfl⟩;rw [← hL] at hb hl hc hd0 ⊢
  have hLt : t.length + 1 = L:=by rw [hL];simp
  have hd1 : decide (0 < L) = true:=decide_eq_true (by omega);clear hL
  go_enter Tryz.func94,Tryz.ntmps94
  go_wp2_with fail;refine (must_yes (by first | rfl | (simp;done) | (simp;omega)) _ _).mono ?_;rintro e w1 ⟨rfl,rfl⟩;go_wp2_with fail;refine (must_yes (by first | rfl | (simp;done) | (simp;omega)) _ _).mono ?_;rintro e w1 ⟨rfl,rfl⟩;have hbt:=hb.drop 1;rw [List.drop_one,List.tail_cons] at hbt;have HBT:=Lib.hid hbt;clear hbt
  go_upto_region 3 with fail
  go_cut [4] (fun p wx=>∃ (g : Nat) (A1 : Option Addr) (c1 : Nat),p = .pointer (some ⟨g,0,none⟩)∧w.heap.size≤g∧Rdr wx g A1 t.length c1 t 0∧Below w.heap.size w wx)
  case first =>
    by_cases hc1 : c = 1
    · subst hc1
      obtain rfl : t = []:=List.eq_nil_of_length_eq_zero (by omega)
      obtain rfl : L = 1:=by omega
      go_wp2_with fail;refine (new_any _ _ _ [] 0 _ (RdB.nil _ _ _) (by omega) (by omega)).mono ?_;rintro e w1 ⟨A1,c1,g,rfl,hg,hR,hb1⟩;go_wp2_with fail;go_meet;exact ⟨g,A1,c1,rfl,hg,hR,hb1⟩
    · go_wp2_with fail
      refine (new_any _ _ _ t B _ HBT.out hB (by omega)).mono ?_;rintro e w1 ⟨A1,c1,g,rfl,hg,hR,hb1⟩;go_wp2_with fail;go_meet;exact ⟨g,A1,c1,rfl,hg,hR,hb1⟩
  case rest =>
    obtain ⟨g,A1,c1,rfl,hg,hR,hb1⟩:=hcut;go_wp2_with fail;refine (int_any _ _ _ _ _ _ _ hR).mono ?_;rintro e w2 ⟨rfl,hg2,A2,c2,hR2⟩;have hb2 : Below w.heap.size w w2:=hb1.trans (only_Below hg2 hg hb1.size)
    rename_i w1
    have HR:=Lib.hid hR;clear hR hg2 hb1
    rcases hdt : Vint.dec t with x | ⟨k,r⟩
    · rw [Vint.intM_bad hdt] at hR2 ⊢
      simp only at hR2 ⊢
      have hx : x ≠ 0:=by have:=Vint.dec_err hdt;omega
      have hq0 : ((x : Int) == 0) = false:=by rw [beq_eq_false_iff_ne];omega
      have HD:=Lib.hid hdt;clear hdt;go_wp2_with fail;refine (err_any _ _ _ _ _ _ _ hR2).mono ?_;rintro e w3 ⟨rfl,rfl⟩;go_wp2_with fail;refine (err_any _ _ _ _ _ _ _ hR2).mono ?_;rintro e w3 ⟨rfl,rfl⟩;go_wp2_with fail;refine (must_no (by first | rfl | (simp;done) | (simp;omega)) _ _).mono ?_;rintro e w3 ⟨rfl,rfl⟩;go_wp2_with fail;refine ⟨rfl,ReadF.bad ?_ rfl hb2⟩;rw [HV.out];exact dec_int HD.out
    · rw [Vint.intM_ok hdt] at hR2 ⊢
      simp only at hR2 ⊢
      have hkt:=(Vint.dec_ok hdt).2;have hrl:=(Vint.dec_ok_lt hdt).1
      unfold Vint.top at hkt
      obtain ⟨q,hq9⟩ : ∃ q,q = r.length:=⟨_,rfl⟩;rw [← hq9] at hR2 hrl;have HQ:=Lib.hid hq9;have HD:=Lib.hid hdt;clear hdt hq9;go_wp2_with fail;refine (err_any _ _ _ _ _ _ _ hR2).mono ?_;rintro e w3 ⟨rfl,rfl⟩;go_wp2_with fail;refine (err_any _ _ _ _ _ _ _ hR2).mono ?_;rintro e w3 ⟨rfl,rfl⟩;go_wp2_with fail;refine (must_yes (by first | rfl | (simp;done) | (simp;omega)) _ _).mono ?_;rintro e w3 ⟨rfl,rfl⟩
      by_cases hk : 4096 < k
      · have hdk : decide (k≤4096) = false:=decide_eq_false (by omega)
        go_wp2_with fail;refine (must_no (by first | rfl | (simp;done) | (simp;omega)) _ _).mono ?_;rintro e w3 ⟨rfl,rfl⟩;go_wp2_with fail;refine ⟨rfl,ReadF.bad ?_ rfl hb2⟩;rw [HV.out];exact dec_size HD.out hk
      have hdk : decide (k≤4096) = true:=decide_eq_true (by omega);go_wp2_with fail;refine (must_yes (by first | rfl | (simp;done) | (simp;omega)) _ _).mono ?_;rintro e w3 ⟨rfl,rfl⟩;go_wp2_with fail;refine (left_any _ _ _ _ _ _ _ hR2).mono ?_;rintro e w3 ⟨rfl,rfl⟩;obtain ⟨H,hH⟩ : ∃ H,H + q = L:=⟨L - q,by omega⟩
      have ew : IntKind.i64.wrap ((L : Int) - (q : Int)) = (H : Int):=by rw [IntWalk.i64_in _ (by omega)];omega
      go_wp2_with fail;refine (left_any _ _ _ _ _ _ _ hR2).mono ?_;rintro e w3 ⟨rfl,rfl⟩
      by_cases hs : q < k + 4
      · have hdk : decide ((k : Int) + 4≤(q : Int)) = false:=decide_eq_false (by omega)
        go_wp2_with fail;refine (must_no (by first | rfl | (simp;done) | (simp;omega)) _ _).mono ?_;rintro e w3 ⟨rfl,rfl⟩;go_wp2_with fail;refine ⟨rfl,ReadF.bad ?_ rfl hb2⟩;rw [HV.out];exact dec_short HD.out (by omega) (by rw [← HQ.out];omega)
      obtain ⟨E,hE⟩ : ∃ E,H + k = E:=⟨_,rfl⟩
      have eHk : (H : Int) + (k : Int) = (E : Int):=by omega
      have ew4 : IntKind.i64.wrap ((E : Int) + 4) = ((E + 4 : Nat) : Int):=by rw [IntWalk.i64_in _ (by omega)];rfl
      have hcE : E + 4≤c:=by omega
      have hdk2 : decide ((k : Int) + 4≤(q : Int)) = true:=decide_eq_true (by omega);go_wp2_with fail;refine (must_yes (by first | rfl | (simp;done) | (simp;omega)) _ _).mono ?_;rintro e w3 ⟨rfl,rfl⟩
      have hEL : E + 4≤L:=by omega
      have hbw : RdB w2.drew B (some a) L (v :: t):=hb.below (hb2.mono hB).drew;have rd52 : RdB w2.drew B (some a) E ((v :: t).take E):=hbw.take (by omega)
      have hdr : ((v :: t).drop E).take 4 = (r.drop k).take 4:=by
        have e1:=(Vint.dec_ok HD.out).1;have l1:=congrArg List.length e1;rw [List.length_append,← HQ.out] at l1;rw [← hE,← List.drop_drop]
        congr 2
        have e2 : v :: t = (v :: Vint.enc k) ++ r:=by rw [e1];rfl
        rw [e2,show H = (v :: Vint.enc k).length by rw [List.length_cons];omega,List.drop_left]
      have rd49 : RdB w2.drew B (some (a.add E)) 4 ((r.drop k).take 4):=by
        rw [← hdr];exact (hbw.drop E).take (by omega)
      have rdX : RdB w2.drew B (some (a.add H)) k (r.take k):=by
        have e1:=(Vint.dec_ok HD.out).1;have l1:=congrArg List.length e1;rw [List.length_append,← HQ.out] at l1
        have e2 : (v :: t).drop H = r:=by
          have e2 : v :: t = (v :: Vint.enc k) ++ r:=by rw [e1];rfl
          rw [e2,show H = (v :: Vint.enc k).length by rw [List.length_cons];omega,List.drop_left]
        have:=(hbw.drop H).take (k:=k) (by omega)
        rw [e2] at this;exact this
      have hsum : (v :: t).length - r.length + k = E:=by
        rw [← HQ.out,List.length_cons,hLt]
        omega
      have HSU:=Lib.hid hsum;clear hdr hsum;obtain ⟨X,hX⟩ : ∃ X,X = (r.drop k).take 4:=⟨_,rfl⟩;rw [← hX] at rd49;obtain ⟨P,hP⟩ : ∃ P,P = (v :: t).take E:=⟨_,rfl⟩;rw [← hP] at rd52;have HX:=Lib.hid hX;have HP:=Lib.hid hP;clear hX hP;have hBw : B≤w2.drew.heap.size:=Nat.le_trans hB hb2.size
      go_upto_region 10 with fail
      obtain ⟨E4,hE4⟩ : ∃ E4,E4 = E + 4:=⟨_,rfl⟩;have ew5 : IntKind.i64.wrap (E4 : Int) = (E4 : Int):=IntWalk.i64_in _ (by omega)
      have eE5 : (E : Int) + 4 = (E4 : Int):=by omega
      have le5 : E4≤c:=by omega
      have le6 : E≤E4:=by omega
      have le7 : E4 - E = 4:=by omega
      have le8 : ¬ c = E:=by omega
      have le9 : E≤c:=by omega
      have leA : H≤E:=by omega
      have leB : ¬ c = H:=by omega
      have leC : E - H = k:=by omega
      have HE4:=Lib.hid hE4;clear ew4 hE4;refine wp_region_any (by kernel_rfl) ?_
      try (change wpAny _ _ _ _ _ _ _ (World.drew _))
      refine wpAny_take (i:=0) (v:=?rv250) rfl (by kernel_rfl) (by kernel_rfl) (by kernel_rfl) (fun _ _ _ h=>h) (Or.inl ⟨by rfl,?ry250⟩) ?_
      case ry250=>((intro w;go_simp);(try with_reducible rfl))
      simp only [Act.put,List.getElem_toArray,List.getElem_cons_zero,List.getElem_cons_succ,List.setIfInBounds_toArray,List.set_cons_succ,List.set_cons_zero]
      refine wpAny_take (i:=1) (v:=?rv253) rfl (by kernel_rfl) (by kernel_rfl) (by kernel_rfl) (fun _ _ _ h=>h) (Or.inl ⟨by rfl,?ry253⟩) ?_
      case ry253=>((intro w;go_simp);(try with_reducible rfl))
      simp only [Act.put,List.getElem_toArray,List.getElem_cons_zero,List.getElem_cons_succ,List.setIfInBounds_toArray,List.set_cons_succ,List.set_cons_zero]
      refine wpAny_take (i:=2) (v:=?rv256) rfl (by kernel_rfl) (by kernel_rfl) (by kernel_rfl) (fun _ _ _ h=>h) (Or.inl ⟨by rfl,?ry256⟩) ?_
      case ry256=>((intro w;go_simp);(try with_reducible rfl))
      simp only [Act.put,List.getElem_toArray,List.getElem_cons_zero,List.getElem_cons_succ,List.setIfInBounds_toArray,List.set_cons_succ,List.set_cons_zero]
      refine wpAny_take (i:=3) (v:=?rv259) rfl (by kernel_rfl) (by kernel_rfl) (by kernel_rfl) (fun _ _ _ h=>h) (Or.inl ⟨by rfl,?ry259⟩) ?_
      case ry259=>((intro w;go_simp);(try with_reducible rfl))
      simp only [Act.put,List.getElem_toArray,List.getElem_cons_zero,List.getElem_cons_succ,List.setIfInBounds_toArray,List.set_cons_succ,List.set_cons_zero]
      refine wpAny_take (i:=4) (v:=?rv262) rfl (by kernel_rfl) (by kernel_rfl) (by kernel_rfl) (fun _ _ _ h=>h) (Or.inl ⟨by rfl,?ry262⟩) ?_
      case ry262=>((intro w;go_simp);(try with_reducible rfl))
      simp only [Act.put,List.getElem_toArray,List.getElem_cons_zero,List.getElem_cons_succ,List.setIfInBounds_toArray,List.set_cons_succ,List.set_cons_zero]
      refine wpAny_take (i:=5) (v:=?rv265) rfl (by kernel_rfl) (by kernel_rfl) (by kernel_rfl) (fun _ _ _ h=>h) (Or.inl ⟨by rfl,?ry265⟩) ?_
      case ry265=>((intro w;go_simp);(try with_reducible rfl))
      simp only [Act.put,List.getElem_toArray,List.getElem_cons_zero,List.getElem_cons_succ,List.setIfInBounds_toArray,List.set_cons_succ,List.set_cons_zero]
      refine wpAny_take (i:=6) (v:=?rv268) rfl (by kernel_rfl) (by kernel_rfl) (by kernel_rfl) (fun _ _ _ h=>h) (Or.inl ⟨by rfl,?ry268⟩) ?_
      case ry268=>((intro w;go_simp);(try with_reducible rfl))
      simp only [Act.put,List.getElem_toArray,List.getElem_cons_zero,List.getElem_cons_succ,List.setIfInBounds_toArray,List.set_cons_succ,List.set_cons_zero]
      refine wpAny_take (i:=7) (v:=?rv271) rfl (by kernel_rfl) (by kernel_rfl) (by kernel_rfl) (fun _ _ _ h=>h) (Or.inl ⟨by rfl,?ry271⟩) ?_
      case ry271=>((intro w;go_simp);(try with_reducible rfl))
      simp only [Act.put,List.getElem_toArray,List.getElem_cons_zero,List.getElem_cons_succ,List.setIfInBounds_toArray,List.set_cons_succ,List.set_cons_zero]
      refine wpAny_ready (rs:=[8]) (by kernel_rfl) (by simp) ?_;refine AllReady.cons rfl (fun K hK=>?_) AllReady.nil;go_simp;refine (sum_any _ _ _ _ _ _ rd52 hBw (by unfold maxLen;omega)).mono ?_;rintro e w3 ⟨A3,n3,c3,rfl,o3,b3⟩;have rd49b:=rd49.below (b3.mono hBw);have rdXb:=rdX.below (b3.mono hBw);have hb3 : Below w.heap.size w w3:=hb2.drew.trans (b3.mono hb2.size);obtain rfl:=o3.1;refine hK _ _ ?_;clear hK K;refine wpAny_ready (rs:=[9]) (by kernel_rfl) (by simp) ?_;refine AllReady.cons rfl (fun K hK=>?_) AllReady.nil;go_simp;refine (equal_any _ _ _ _ _ _ _ _ _ _ _ rd49b o3.rd (by omega) rfl).mono ?_;rintro e w4 ⟨rfl,m4,rfl⟩;have hb4:=below_drewN hb3 m4;have rdXc : RdB (w3.drewN m4) B (some (a.add H)) k (r.take k):=rdXb
      generalize w3.drewN m4 = w4 at *
      refine hK _ _ ?_;clear hK K;refine wpAny_ready (rs:=[10]) (by kernel_rfl) (by simp) ?_;refine AllReady.cons rfl (fun K hK=>?_) AllReady.nil
      by_cases hxs : X = be (Crc.sum P)
      · have HXS:=Lib.hid hxs
        clear hxs;go_simp;refine (must_yes (by exact decide_eq_true HXS.out) _ _).mono ?_;rintro e w5 ⟨rfl,rfl⟩;refine hK _ _ ?_;clear hK K;refine wpAny_done (by kernel_rfl) ?_ _;go_wp2_with fail;go_ret2
        have hdec : dec (v :: t) = .ok (r.take k,r.drop (k + 4)):=by
          rw [HV.out];refine dec_good HD.out (by omega) (by rw [← HQ.out];omega) ?_;rw [← HX.out,HXS.out,HP.out,← HSU.out,HV.out]
        have hrk : (r.take k).length = k:=by rw [List.length_take,← HQ.out];omega
        have hfl : (frm (r.take k)).length = E4:=by
          have:=congrArg List.length (dec_ok hdec).1
          rw [List.length_append,List.length_drop,← HQ.out,List.length_cons] at this
          have:=HE4.out
          omega
        refine ⟨hb4,?_⟩;rw [hdec];refine ⟨some (a.add H),c - H,?_,?_⟩
        · rw [hrk,hfl]
          rfl
        · rw [hrk]
          exact rdXc
      · have HXS:=Lib.hid hxs
        clear hxs;go_simp;refine (must_no (by exact decide_eq_false HXS.out) _ _).mono ?_;rintro e w5 ⟨rfl,rfl⟩;refine ⟨rfl,ReadF.bad ?_ rfl hb4⟩;rw [HV.out];refine dec_sum HD.out (by omega) (by rw [← HQ.out];omega) ?_;rw [← HX.out];intro e
        apply HXS.out
        rw [e,HP.out,← HSU.out,HV.out]
end Frame
end Go.Proofs.YtfpenfgmpbdakaaGreat
