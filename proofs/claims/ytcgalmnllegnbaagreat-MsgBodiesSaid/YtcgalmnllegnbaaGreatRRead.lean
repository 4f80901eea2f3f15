import Derived.Test.YtcgalmnllegnbaaGreatBytes
import Derived.Test.YtcgalmnllegnbaaGreatStop
import Derived.Test.YtcgalmnllegnbaaGreatVintMath
namespace Go.Proofs.YtcgalmnllegnbaaGreat
set_option linter.unusedVariables false
set_option linter.unusedSimpArgs false
set_option maxRecDepth 100000
open Go.RowKit
namespace Vint
theorem decF_nil {i n : Nat} (hi : i < 6) : decF (6 - i) i n [] = .error 3:=by
  obtain ⟨k,hk⟩ : ∃ k,6 - i = k + 1:=⟨5 - i,by omega⟩;rw [hk];rfl
theorem decF_more {i n : Nat} (hi : i < 6) {c : UInt8} (r : List UInt8) (hc : 128≤c.toNat) : decF (6 - i) i n (c :: r) = decF (6 - (i + 1)) (i + 1) (n + (c.toNat % 128) * 128 ^ i) r:=by
  obtain ⟨k,hk⟩ : ∃ k,6 - i = k + 1:=⟨5 - i,by omega⟩;rw [hk,show 6 - (i + 1) = k by omega]
  conv=>lhs;unfold decF
  rw [if_pos hc]
theorem decF_bad {i n : Nat} (hi : i < 6) {c : UInt8} (r : List UInt8) (hc : c.toNat < 128) (h : top < n + c.toNat * 128 ^ i∨(c.toNat = 0∧0 < i)) : decF (6 - i) i n (c :: r) = .error 4:=by
  obtain ⟨k,hk⟩ : ∃ k,6 - i = k + 1:=⟨5 - i,by omega⟩;rw [hk]
  unfold decF
  rw [if_neg (by omega),if_pos h]
theorem decF_good {i n : Nat} (hi : i < 6) {c : UInt8} (r : List UInt8) (hc : c.toNat < 128) (h1 : n + c.toNat * 128 ^ i≤top) (h2 : c.toNat ≠ 0∨i = 0) : decF (6 - i) i n (c :: r) = .ok (n + c.toNat * 128 ^ i,r):=by
  obtain ⟨k,hk⟩ : ∃ k,6 - i = k + 1:=⟨5 - i,by omega⟩;rw [hk]
  unfold decF
  rw [if_neg (by omega),if_neg (by omega)]
theorem pow128 {i : Nat} (hi : i < 6) : 1≤128 ^ i∧128 ^ i≤34359738368:=by
  match i,hi with
  | 0,_=>decide
  | 1,_=>decide
  | 2,_=>decide
  | 3,_=>decide
  | 4,_=>decide
  | 5,_=>decide
end Vint
def RRd (w : World) (g : Nat) (A : Option Addr) (n c at' e : Nat) : Prop:=Blk w g 68 #[.slice A n c,.int .i64 (at' : Nat),.int .i64 (e : Nat)]
def RInt (w : World) (g : Nat) (A : Option Addr) (n c at' : Nat) (bs : List UInt8) (e : Ending) (w' : World) : Prop :=
  w.grownBy w' (some g)∧match Vint.dec (bs.drop at') with
    | .ok (m,r)=>e = .returned (.int .i64 (m : Nat))∧RRd w' g A n c (n - r.length) 0
    | .error x=>e = .returned (.int .i64 0)∧RRd w' g A n c at' x
theorem RInt.good {w w' : World} {g : Nat} {A : Option Addr} {n c at' : Nat} {bs : List UInt8} {e : Ending} {m : Nat} {r : List UInt8} (hd : Vint.dec (bs.drop at') = .ok (m,r)) (he : e = .returned (.int .i64 (m : Nat))) (hr : RRd w' g A n c (n - r.length) 0) (hg : w.grownBy w' (some g)) : RInt w g A n c at' bs e w':=by
  refine ⟨hg,?_⟩;rw [hd];exact ⟨he,hr⟩
theorem RInt.bad {w w' : World} {g : Nat} {A : Option Addr} {n c at' : Nat} {bs : List UInt8} {e : Ending} {x : Nat} (hd : Vint.dec (bs.drop at') = .error x) (he : e = .returned (.int .i64 0)) (hr : RRd w' g A n c at' x) (hg : w.grownBy w' (some g)) : RInt w g A n c at' bs e w':=by
  refine ⟨hg,?_⟩;rw [hd];exact ⟨he,hr⟩
theorem rint_fail (g : Nat) (A : Option Addr) (n c at' e : Nat) (w : World) (hR : RRd w g A n c at' e) (he : e ≠ 0) :
    Calls Tryz.prog 26 #[.pointer (some ⟨g,0,none⟩)] w fun r w'=>r = .returned (.int .i64 0)∧w = w':=by
  have c2 : w.cell? ⟨g,2,none⟩ = some (.int .i64 (e : Nat)):=hR.cell 2
  have hq : ((e : Int) != 0) = true:=by rw [bne_iff_ne];omega
  go_enter Tryz.func26,Tryz.ntmps26
  go_wp2_with fail;go_ret;exact ⟨rfl,rfl⟩
set_option maxRecDepth 100000 in
set_option maxHeartbeats 1000000 in
theorem rint_any (g : Nat) (A : Option Addr) (n c at' : Nat) (bs : List UInt8) (B : Nat) (w : World) (hR : RRd w g A n c at' 0) (hb : RdB w B A n bs) (ha : at'≤n) (hn : n≤1000000000000) :
    Calls Tryz.prog 26 #[.pointer (some ⟨g,0,none⟩)] w (RInt w g A n c at' bs):=by
  have c0 : w.cell? ⟨g,0,none⟩ = some (.slice A n c):=hR.cell 0;have c1 : w.cell? ⟨g,1,none⟩ = some (.int .i64 (at' : Nat)):=hR.cell 1;have c2 : w.cell? ⟨g,2,none⟩ = some (.int .i64 0):=hR.cell 2;have f1:=hR.free 1;have f2:=hR.free 2;obtain rfl:=hb.1
  go_enter Tryz.func26,Tryz.ntmps26
  go_wp2_with fail
  go_loopw [3,4,5,6] (fun v p s j wr=>∃ (i m nn P : Nat),i≤6∧j = .int .i64 i∧v = .int .i64 nn∧p = .int .i64 P∧s = .int .i64 0∧P = 128 ^ i∧nn < P∧at' + i≤bs.length∧Vint.dec (bs.drop at') = Vint.decF (6 - i) i nn (bs.drop (at' + i))∧wr = w.drewN m) (fun _ _ _ j _=>6 - (intOf j).toNat)
  case atStart=>exact ⟨0,0,0,1,by omega,rfl,rfl,rfl,rfl,rfl,by omega,ha,rfl,rfl⟩
  case round =>
    obtain ⟨i,m,nn,P,hi,rfl,rfl,rfl,rfl,hP,hnn,hai,hdec,rfl⟩:=hrel;have HP:=Lib.hid hP;have HD:=Lib.hid hdec;clear hP hdec;obtain ⟨q,hq⟩ : ∃ q,at' + i = q:=⟨_,rfl⟩
    by_cases h6 : i < 6
    · have hPb:=Vint.pow128 h6
      rw [← HP.out] at hPb;have hP1:=hPb.1;have hP2:=hPb.2;clear hPb
      have ew : IntKind.i64.wrap ((at' : Int) + (i : Int)) = (q : Int):=by rw [IntWalk.i64_in _ (by omega)];omega
      by_cases hql : q < bs.length
      · obtain ⟨a,rfl,_,hcell⟩:=hb.at_ hql
        obtain ⟨x,hx⟩ : ∃ x,x = bs[q]:=⟨_,rfl⟩;rw [← hx] at hcell
        have hdr : bs.drop q = x :: bs.drop (q + 1):=by rw [hx];exact List.drop_eq_getElem_cons hql
        have HDR:=Lib.hid hdr;have HQ:=Lib.hid hq;clear hx hdr hq;have hxb:=x.toNat_lt;have hd6 : decide ((i : Int) < 6) = true:=decide_eq_true (by omega);have hdq : decide (bs.length≤q) = false:=decide_eq_false (by omega);obtain ⟨V,hV⟩ : ∃ V,V = x.toNat % 128 * P:=⟨_,rfl⟩
        have hVb : V≤127 * P:=by rw [hV];exact Nat.mul_le_mul_right _ (by omega)
        have em : IntKind.i64.wrap ((x.toNat : Int) % 128 * (P : Int)) = (V : Int):=by
          have e : (x.toNat : Int) % 128 * (P : Int) = (V : Int):=by rw [hV];push_cast;rfl
          rw [e,IntWalk.i64_in _ (by omega)]
        have HV:=Lib.hid hV;clear hV
        by_cases hc : 128≤x.toNat
        · have hd : decide ((x.toNat : Int) < 128) = false:=decide_eq_false (by omega)
          go_wp2_with fail
          go_quiet (fail)
          go_wp2_with fail
          go_quiet (fail)
          go_wp2_with fail
          go_roundw
          case rel =>
            refine ⟨i + 1,_,nn + V,P * 128,by omega,by go_num,by go_num,by go_num,rfl,by rw [HP.out,Nat.pow_succ],by omega,by have:=HQ.out;omega,?_,rfl⟩;rw [HD.out,show at' + (i + 1) = q + 1 by have:=HQ.out;omega,HQ.out,HDR.out,Vint.decF_more h6 _ hc,← HP.out,← HV.out]
          case measure=>simp [intOf];omega
        have hd : decide ((x.toNat : Int) < 128) = true:=decide_eq_true (by omega)
        have hVx : V = x.toNat * P:=by rw [HV.out,Nat.mod_eq_of_lt (by omega)]
        have HVX:=Lib.hid hVx;clear hVx;obtain ⟨N,hN⟩ : ∃ N,N = nn + V:=⟨_,rfl⟩
        have eN : IntKind.i64.wrap ((nn : Int) + (V : Int)) = (N : Int):=by rw [IntWalk.i64_in _ (by omega)];omega
        have HN:=Lib.hid hN;clear hN
        have hs0 : ((i : Int) + 1 == 0) = false:=by rw [beq_eq_false_iff_ne];omega
        by_cases hbig : Vint.top < N
        · have hdt : decide ((1099511627776 : Int) < (N : Int)) = true:=decide_eq_true (by unfold Vint.top at hbig;omega)
          have hdec : Vint.dec (bs.drop at') = .error 4:=by
            rw [HD.out,HQ.out,HDR.out];exact Vint.decF_bad h6 _ (by omega) (.inl (by rw [← HP.out,← HVX.out,← HN.out];exact hbig))
          have HDD:=Lib.hid hdec;clear hdec hbig;go_wp2_with fail
          go_quiet (fail)
          go_wp2_with fail
          go_quiet (fail)
          go_wp2_with fail
          go_quiet (fail)
          go_wp2_with fail;go_ret;exact RInt.bad HDD.out rfl (hR.set_ 2 (.int .i64 4)) (only_set (only_drewN (World.grownBy.refl _ _) _) _)
        have hdt : decide ((1099511627776 : Int) < (N : Int)) = false:=decide_eq_false (by unfold Vint.top at hbig;omega);obtain ⟨q1,hq1⟩ : ∃ q1,q1 = q + 1:=⟨_,rfl⟩
        have e1 : IntKind.i64.wrap ((at' : Int) + ((i : Int) + 1)) = (q1 : Int):=by rw [IntWalk.i64_in _ (by omega)];have:=HQ.out;omega
        have e2 : IntKind.i64.wrap ((q1 : Int) - 1) = (q : Int):=by rw [IntWalk.i64_in _ (by omega)];omega
        have hfin : bs.length - (bs.drop (q + 1)).length = q1:=by rw [List.length_drop];omega
        have HF:=Lib.hid hfin;have HQ1:=Lib.hid hq1;clear hfin hq1
        by_cases hgood : x.toNat ≠ 0∨i = 0
        · have hdec : Vint.dec (bs.drop at') = .ok (N,bs.drop (q + 1)):=by
            rw [HD.out,HQ.out,HDR.out,HN.out,HVX.out,HP.out];exact Vint.decF_good h6 _ (by omega) (by rw [← HP.out,← HVX.out,← HN.out];omega) hgood
          have HDD:=Lib.hid hdec;clear hdec hbig
          by_cases hi0 : i = 0
          · subst hi0
            clear hgood
            have hqa : at' = q:=by have:=HQ.out;omega
            subst hqa
            have e1' : IntKind.i64.wrap ((at' : Int) + 1) = (q1 : Int):=by rw [IntWalk.i64_in _ (by omega)];have:=HQ1.out;omega
            go_wp2_with fail
            go_quiet (fail)
            go_wp2_with fail
            go_quiet (fail)
            go_wp2_with fail
            go_quiet (fail)
            go_wp2_with fail;go_ret;have hs:=hR.set_ 1 (.int .i64 (q1 : Nat));refine RInt.good HDD.out rfl ?_ (only_set (only_drewN (World.grownBy.refl _ _) _) _);rw [HF.out];exact hs
          · have hx0 : x.toNat ≠ 0:=by omega
            have hi1 : 0 < i:=by omega
            have hi2 : decide ((1 : Int) < (i : Int) + 1) = true:=decide_eq_true (by omega);have hi3 : decide (0 < (i : Int)) = true:=decide_eq_true (by omega);have hi4 : decide (0 < i) = true:=decide_eq_true (by omega)
            have hxq : ((x.toNat : Int) == 0) = false:=by rw [beq_eq_false_iff_ne];omega
            clear hgood;go_wp2_with fail
            go_quiet (fail)
            go_wp2_with fail
            go_quiet (fail)
            go_wp2_with fail
            go_quiet (fail)
            go_wp2_with fail;go_ret;have hs:=hR.set_ 1 (.int .i64 (q1 : Nat));refine RInt.good HDD.out rfl ?_ (only_set (only_drewN (World.grownBy.refl _ _) _) _);rw [HF.out];exact hs
        · have hx0 : x.toNat = 0:=by omega
          have hi1 : 0 < i:=by omega
          have hi2 : decide ((1 : Int) < (i : Int) + 1) = true:=decide_eq_true (by omega);have hi3 : decide (0 < (i : Int)) = true:=decide_eq_true (by omega);have hi4 : decide (0 < i) = true:=decide_eq_true (by omega)
          have hdec : Vint.dec (bs.drop at') = .error 4:=by
            rw [HD.out,HQ.out,HDR.out];exact Vint.decF_bad h6 _ (by omega) (.inr ⟨hx0,hi1⟩)
          have HDD:=Lib.hid hdec
          have hxq : ((x.toNat : Int) == 0) = true:=by rw [beq_iff_eq];omega
          clear hdec hbig hgood hx0;go_wp2_with fail
          go_quiet (fail)
          go_wp2_with fail
          go_quiet (fail)
          go_wp2_with fail
          go_quiet (fail)
          go_wp2_with fail;go_ret;exact RInt.bad HDD.out rfl (hR.set_ 2 (.int .i64 4)) (only_set (only_drewN (World.grownBy.refl _ _) _) _)
      · have hqe : bs.length≤q:=by omega
        have hdec : Vint.dec (bs.drop at') = .error 3:=by
          rw [HD.out,List.drop_eq_nil_of_le (by omega),Vint.decF_nil h6]
        have HDD:=Lib.hid hdec;clear hdec hq;have hd6 : decide ((i : Int) < 6) = true:=decide_eq_true (by omega);have hdq : decide (bs.length≤q) = true:=decide_eq_true (by omega);go_wp2_with fail
        go_quiet (fail)
        go_wp2_with fail;go_ret;exact RInt.bad HDD.out rfl (hR.set_ 2 (.int .i64 3)) (only_set (only_drewN (World.grownBy.refl _ _) _) _)
    · obtain rfl : i = 6:=by omega
      have hdec : Vint.dec (bs.drop at') = .error 4:=HD.out;have HDD:=Lib.hid hdec;clear hdec hq;go_wp2_with fail
      go_quiet (fail)
      go_wp2_with fail;go_ret;exact RInt.bad HDD.out rfl (hR.set_ 2 (.int .i64 4)) (only_set (only_drewN (World.grownBy.refl _ _) _) _)
end Go.Proofs.YtcgalmnllegnbaaGreat
