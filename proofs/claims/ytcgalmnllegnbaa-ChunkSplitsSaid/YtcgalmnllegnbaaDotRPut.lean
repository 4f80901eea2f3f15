import Derived.Test.YtcgalmnllegnbaaDotPut
import Derived.Test.YtcgalmnllegnbaaRefPut
namespace Go.Proofs.Ytcgalmnllegnbaa
set_option linter.unusedVariables false
set_option linter.unusedSimpArgs false
set_option maxRecDepth 100000
open Go.RowKit
open Dot
theorem encs_app (a b : List Int) : encs (a ++ b) = encs a ++ encs b:=by unfold encs;rw [List.flatMap_append]
theorem encs_one (x : Int) : encs [x] = Vint.enc x.toNat:=by simp [encs]
theorem encs_two (x y : Int) : encs [x,y] = Vint.enc x.toNat ++ Vint.enc y.toNat:=by simp [encs]
set_option maxRecDepth 100000 in
set_option maxHeartbeats 2000000 in
theorem drput_any (U : List Int) (A0 : Option Addr) (n0 c0 : Nat) (l0 : List Dt) (w : World) (hU : U.length = 8) (hr : RdD w w.heap.size A0 n0 l0) :
    Calls Try.prog 39 #[.agg (uc U (.slice A0 n0 c0))] w (GiveBE w (if rightB U l0 = true then encs (putL U l0) else []) (if rightB U l0 = true then 0 else 2)):=by
  have HU:=Lib.hid hU;have HS:=Lib.hid (uc_size hU (.slice A0 n0 c0))
  have hra:=fun w' (hb : Below w.heap.size w w')=>rright_any U hU A0 n0 c0 l0 w' ((hr.below hb).more hb.size)
  have hix:=fun w (k : Nat) (hk : k < 8)=>run_index8 w U hU k hk
  have HIX:=Lib.hid hix;have HUL:=Lib.hid (show (U.map (Value.int .i64)).length = 8 by rw [List.length_map,hU]);have HRA:=Lib.hid hra;clear hra hix;have HN:=Lib.hid hr.1;obtain ⟨sc,hsc⟩ : ∃ sc,sc = uc U (.slice A0 n0 c0):=⟨_,rfl⟩;rw [← hsc] at HS HRA ⊢;have HSC:=Lib.hid hsc;clear hsc
  obtain ⟨BS,hBS⟩ : ∃ BS,BS = if rightB U l0 = true then encs (putL U l0) else []:=⟨_,rfl⟩
  obtain ⟨E,hE⟩ : ∃ E,E = if rightB U l0 = true then 0 else 2:=⟨_,rfl⟩
  rw [← hBS,← hE];have HBS:=Lib.hid hBS;have HE:=Lib.hid hE;clear hBS hE
  go_enter Try.func39,Try.ntmps39
  go_upto_region 1 with fail
  refine nameW ?_;intro wv hwv;obtain ⟨b,hb⟩ : ∃ b,b = w.heap.size:=⟨_,rfl⟩;rw [← hb]
  have kb : Blk wv b 84 sc:=by rw [hwv,hb];exact Blk.new w _ _
  have gb : Below w.heap.size w wv:=by rw [hwv];exact (Below.refl _ _).alloc (Nat.le_refl _) _
  have hbw : w.heap.size≤b:=by omega
  clear hwv hb
  go_wp2_with ((with_reducible refine wpList_ld rowRS kb HS.out ?_ ?_);rotate_left;(rfl))
  refine (HRA.out _ gb).mono ?_;rintro e w1 ⟨rfl,h1⟩
  replace gb:=gb.trans (h1.mono gb.size)
  replace kb:=kb.below h1 kb.lt
  clear h1 wv
  rename World=>wv
  cases hright : rightB U l0
  case false =>
    have hBS2 : BS = []:=by rw [HBS.out,hright];rfl
    have hE2 : E = 2:=by rw [HE.out,hright];rfl
    clear HRA HBS HE;subst hBS2 hE2;go_wp2_with fail;go_ret2;exact ⟨none,0,0,rfl,OwnB.nil _ _,gb⟩
  case true =>
  have hBS2 : BS = encs (putL U l0):=by rw [HBS.out,hright];rfl
  have hE2 : E = 0:=by rw [HE.out,hright];rfl
  clear HBS HE;have HBS:=Lib.hid hBS2;clear hBS2;subst hE2;have hbd:=putL_bd hright;have hbe:=(right_iff _ _).1 hright
  have hn7 : n0≤768:=by rw [HN.out];exact hbe.2.1
  have hub : ∀ x ∈ U,0≤x∧x≤1099511627776:=fun x hx=>hbd x (by unfold putL;simp [hx])
  have hnb : ∀ x ∈ nums l0,0≤x∧x≤1099511627776:=fun x hx=>hbd x (by unfold putL;simp [hx])
  have HUB:=Lib.hid hub;have HNB:=Lib.hid hnb;clear hbd hbe hright HRA hub hnb;have hrv:=hr.below gb;have t8 : wv.cell? ⟨b,8,none⟩ = some (.slice A0 n0 c0):=(kb.cell 8).trans (by rw [HSC.out];exact uc_last HU.out _);have hbv:=kb.lt;rw [HSC.out] at kb;have hrg:=uc_range kb;have T8:=Lib.hid t8;clear hr kb t8
  go_upto_region 4 with fail
  go_upto_region 5 with ((with_reducible refine wpList_ldm row8 hrg HUL.out ?_ ?_);rotate_left;(rfl))
  rw [show (U.map (Value.int .i64)).toArray = uI U from rfl];clear hrg;obtain ⟨wo,rfl⟩ : ∃ wo,wo = wv:=⟨_,rfl⟩
  go_loopw [4,14] (fun t i wr=>∃ (j : Nat) (A : Option Addr) (nb cb : Nat),j≤8∧i = .int .i64 j∧t = .slice A nb cb∧OwnB wr wo.heap.size A nb cb (encs (U.take j))∧Below wo.heap.size wo wr) (fun _ i _=>8 - (intOf i).toNat)
  case atStart=>exact ⟨0,none,0,0,by omega,rfl,rfl,OwnB.nil _ _,Below.refl _ _⟩
  case round =>
  obtain ⟨j,A,nb,cb,hj,rfl,rfl,ob,bl⟩:=hrel
  by_cases hlt : j < 8
  case pos =>
    have hjl : j < U.length:=by rw [HU.out];exact hlt
    have hx1:=fun w=>HIX.out w j hlt
    have hgd : U.getD j 0 = U[j]:=by rw [List.getD_eq_getElem?_getD,List.getElem?_eq_getElem hjl];rfl
    simp only [hgd] at hx1
    have hxb:=HUB.out _ (List.getElem_mem hjl);have hes:=encs_snoc U hjl;have HES:=Lib.hid hes;have hel:=encs_len (U.take j)
    have hnb : nb≤48:=by
      have h1:=ob.1;have h2 : (U.take j).length≤j:=List.length_take_le _ _
      omega
    clear hes hel hgd
    generalize U[j] = x at *
    obtain ⟨x,rfl⟩:=Int.eq_ofNat_of_zero_le hxb.1;rw [Int.toNat_natCast] at HES;have hkd : decide ((j : Int) < 8) = true:=decide_eq_true (by omega);go_wp2_with fail;refine (rput_ok A nb cb _ x wr.heap.size wr ob.rd (Nat.le_refl _) (by omega) (by omega)).mono ?_;rintro e w4 ⟨A4,n4,c4,rfl,o4,b4⟩
    have O4 : OwnB w4 wo.heap.size A4 n4 c4 (encs (U.take (j + 1))):=by rw [HES.out];exact o4.mono bl.size
    have B4:=bl.trans (b4.mono bl.size);have HO:=Lib.hid O4;clear O4 o4 b4 ob bl;go_wp2_with fail
    go_roundw
    case rel=>exact ⟨j + 1,A4,n4,c4,by omega,by go_num,rfl,HO.out,B4⟩
    case measure=>simp [intOf];omega
  case neg =>
  obtain rfl : j = 8:=by omega
  rw [show U.take 8 = U from List.take_of_length_le (by rw [HU.out];exact Nat.le_refl _)] at ob
  have hnb : nb≤48:=by
    have h1:=ob.1;have h2:=encs_len U;rw [HU.out] at h2
    omega
  have t8 : wr.cell? ⟨b,8,none⟩ = some (.slice A0 n0 c0):=(bl.cell (p:=⟨b,8,none⟩) hbv).trans T8.out;go_wp2_with fail;refine (rput_ok A nb cb _ n0 wr.heap.size wr ob.rd (Nat.le_refl _) (by omega) (by omega)).mono ?_;rintro e w4 ⟨A4,n4,c4,rfl,o4,b4⟩
  have O4 : OwnB w4 wo.heap.size A4 n4 c4 (encs (U ++ [((n0 : Nat) : Int)] ++ nums (l0.take 0))):=by
    rw [encs_app,encs_app,encs_one,Int.toNat_natCast,show encs (nums (l0.take 0)) = [] from rfl,List.append_nil];exact o4.mono bl.size
  have B4:=bl.trans (b4.mono bl.size);have t84 : w4.cell? ⟨b,8,none⟩ = some (.slice A0 n0 c0):=(B4.cell (p:=⟨b,8,none⟩) hbv).trans T8.out;have hUl:=HU.out;clear o4 b4 ob bl t8 hnb;go_wp2_with fail;clear t84
  go_loopw [4,35] (fun t i wr=>∃ (k : Nat) (A : Option Addr) (nb cb : Nat),k≤n0∧i = .int .i64 k∧t = .slice A nb cb∧OwnB wr wo.heap.size A nb cb (encs (U ++ [((n0 : Nat) : Int)] ++ nums (l0.take k)))∧Below wo.heap.size wo wr) (fun _ i _=>n0 - (intOf i).toNat)
  case atStart=>exact ⟨0,A4,n4,c4,by omega,rfl,rfl,O4,B4⟩
  case round =>
    clear O4 B4;obtain ⟨k,A,nb,cb,hk,rfl,rfl,ob,bl⟩:=hrel
    by_cases hlt : k < n0
    · have hkl : k < l0.length:=by rw [← HN.out];exact hlt
      obtain ⟨ad,rfl,hdt⟩:=(hrv.below (bl.mono gb.size)).2 k _ (List.getElem?_eq_getElem hkl)
      have hsn : nums (l0.take (k + 1)) = nums (l0.take k) ++ [l0[k].1,l0[k].2]:=by rw [take_snoc l0 hkl,nums_snoc]
      have hm1 : l0[k].1 ∈ nums l0:=by unfold nums;rw [List.mem_flatMap];exact ⟨_,List.getElem_mem hkl,by simp⟩
      have hm2 : l0[k].2 ∈ nums l0:=by unfold nums;rw [List.mem_flatMap];exact ⟨_,List.getElem_mem hkl,by simp⟩
      have hx1:=HNB.out _ hm1;have hx2:=HNB.out _ hm2;have hel:=encs_len (U ++ [((n0 : Nat) : Int)] ++ nums (l0.take k))
      have hnb : nb≤15000:=by
        have h1:=ob.1;rw [List.length_append,List.length_append,nums_len,HU.out] at hel;have h2 : (l0.take k).length≤k:=List.length_take_le _ _;rw [List.length_singleton] at hel
        omega
      clear hm1 hm2 hel
      generalize l0[k] = d at *
      obtain ⟨x,q⟩:=d;obtain ⟨q5,q0,q1⟩:=hdt
      simp only at q0 q1 hsn hx1 hx2
      obtain ⟨x,rfl⟩:=Int.eq_ofNat_of_zero_le hx1.1;obtain ⟨q,rfl⟩:=Int.eq_ofNat_of_zero_le hx2.1;have HSN:=Lib.hid hsn;clear hsn;obtain ⟨wn,hwn⟩ : ∃ wn,wn = wr.alloc (.cells #[.int .i64 (x : Nat),.int .i64 (q : Nat)] 46):=⟨_,rfl⟩;obtain ⟨gd,hgd⟩ : ∃ gd,gd = wr.heap.size:=⟨_,rfl⟩
      have kn : Blk wn gd 46 #[.int .i64 (x : Nat),.int .i64 (q : Nat)]:=by rw [hwn,hgd];exact Blk.new wr _ _
      have o1 : OwnB wn wo.heap.size A nb cb (encs (U ++ [((n0 : Nat) : Int)] ++ nums (l0.take k))):=by rw [hwn];exact ob.alloc _
      have b1 : Below wo.heap.size wo wn:=by rw [hwn];exact bl.alloc bl.size _
      have HW:=Lib.hid hwn;have HGD:=Lib.hid hgd
      have hk0 : (0 : Int)≤(k : Int):=by omega
      have hk1 : (k : Int) < (n0 : Int):=by omega
      clear hwn hgd ob bl
      go_upto_region 13 with fail
      rw [← HW.out,← HGD.out];have t0 : wn.cell? ⟨gd,0,none⟩ = some (.int .i64 (x : Nat)):=kn.cell 0;clear q0 q1 q5;go_wp2_with fail;refine (rput_ok A nb cb _ x wn.heap.size wn o1.rd (Nat.le_refl _) (by omega) (by omega)).mono ?_;rintro e w4 ⟨A4,n4,c4,rfl,o4,b4⟩;have kn4:=kn.below b4 kn.lt;have t1 : w4.cell? ⟨gd,1,none⟩ = some (.int .i64 (q : Nat)):=kn4.cell 1
      have hn4 : n4≤15010:=by
        have h1:=o4.1;have h2:=o1.1;have h3:=Vint.enc_length x;rw [List.length_append] at h1
        omega
      have bw4:=b1.trans (b4.mono b1.size);clear kn b4 t0 o1;go_wp2_with fail;refine (rput_ok A4 n4 c4 _ q w4.heap.size w4 o4.rd (Nat.le_refl _) (by omega) (by omega)).mono ?_;rintro e w5 ⟨A5,n5,c5,rfl,o5,b5⟩
      have O5 : OwnB w5 wo.heap.size A5 n5 c5 (encs (U ++ [((n0 : Nat) : Int)] ++ nums (l0.take (k + 1)))):=by
        rw [HSN.out,← List.append_assoc,encs_app,encs_two,Int.toNat_natCast,Int.toNat_natCast,← List.append_assoc];exact o5.mono bw4.size
      have B5:=bw4.trans (b5.mono bw4.size);have HO:=Lib.hid O5;clear O5 o5 b5 t1 kn4 o4 bw4 b1;go_wp2_with fail
      go_roundw
      case rel=>exact ⟨k + 1,A5,n5,c5,by omega,by go_num,rfl,HO.out,B5⟩
      case measure=>simp [intOf];omega
    · obtain rfl : k = n0:=by omega
      rw [List.take_of_length_le (l:=l0) (by have:=HN.out;omega)] at ob;go_wp2_with fail;go_ret2;exact ⟨A,nb,cb,rfl,by rw [HBS.out];unfold putL;rw [← HN.out];exact ob.mono gb.size,gb.trans (bl.mono gb.size)⟩
end Go.Proofs.Ytcgalmnllegnbaa
