import Derived.Test.YtfpenfgmpbdakaaGreatDotHas
namespace Go.Proofs.YtfpenfgmpbdakaaGreat
set_option linter.unusedVariables false
set_option linter.unusedSimpArgs false
set_option maxRecDepth 100000
open Go.RowKit
open Dot
def addE (U : List Int) (l : List Dt) (d : Dt) : Int:=if mayB d = true then if hasB U l d = true then 9 else 0 else 2
def addG (U : List Int) (l : List Dt) (d : Dt) : Grid:=if mayB d = true∧hasB U l d = false then putG (hasG U l) d else noG
theorem upto_no : uptoS noG = List.replicate 8 0:=by kernel_rfl
theorem more_no : moreS noG = []:=by kernel_rfl
def AddEnd (w : World) (U : List Int) (l : List Dt) (d : Dt) (e : Ending) (w' : World) : Prop:=∃ A m c,e = .returned (.tuple #[.agg (uc (uptoS (addG U l d)) (.slice A m c)),.int .i64 (addE U l d)])∧OwnD w' w.heap.size A m c (moreS (addG U l d))∧Below w.heap.size w w'
set_option maxRecDepth 100000 in
set_option maxHeartbeats 2000000 in
theorem add_any (s : SetV) (n q : Int) (w : World) (hU : s.U.length = 8) (hr : RdD w w.heap.size s.A s.n s.l) :
    Calls Tryz.prog 124 #[.agg (uc s.U (.slice s.A s.n s.c)),.agg #[.int .i64 n,.int .i64 q]] w (AddEnd w s.U s.l (n,q)):=by
  unfold AddEnd
  obtain ⟨E,hE⟩ : ∃ E,E = addE s.U s.l (n,q):=⟨_,rfl⟩;obtain ⟨G,hG⟩ : ∃ G,G = addG s.U s.l (n,q):=⟨_,rfl⟩;rw [← hE,← hG];have HS:=Lib.hid (uc_size hU (.slice s.A s.n s.c));obtain ⟨sc,hsc⟩ : ∃ sc,sc = uc s.U (.slice s.A s.n s.c):=⟨_,rfl⟩;rw [← hsc] at HS ⊢;have hb1:=build1 hU s.A s.n s.c;rw [← hsc] at hb1;have HB1:=Lib.hid hb1;have HSC:=Lib.hid hsc;clear hsc hb1;obtain ⟨zc,hzc⟩ : ∃ zc,zc = uc (uptoS noG) (.slice none 0 0):=⟨_,rfl⟩
  have hzl : zc = #[.int .i64 0,.int .i64 0,.int .i64 0,.int .i64 0,.int .i64 0,.int .i64 0,.int .i64 0,.int .i64 0,.slice none 0 0]:=by rw [hzc];kernel_rfl
  have hz1 : (zeroValue 180).run Tryz.prog w = .ok (.agg zc) w:=by rw [hzc];kernel_rfl
  have ZS:=Lib.hid (show zc.size = 9 by rw [hzl];rfl);have Z1:=Lib.hid (show zc.all (·.oneCell') = true by rw [hzc];exact uc_one rfl);have ZS2:=Lib.hid (show (#[.int .i64 0,.int .i64 0,.int .i64 0,.int .i64 0,.int .i64 0,.int .i64 0,.int .i64 0,.int .i64 0,.slice none 0 0] : Array Value).size = 9 from rfl);have Z12:=Lib.hid (show (#[.int .i64 0,.int .i64 0,.int .i64 0,.int .i64 0,.int .i64 0,.int .i64 0,.int .i64 0,.int .i64 0,.slice none 0 0] : Array Value).all (·.oneCell') = true by rw [← hzl,hzc];exact uc_one rfl);have HZC:=Lib.hid hzc;have HZL:=Lib.hid hzl;clear hzc hzl hz1
  go_enter Tryz.func124,Tryz.ntmps124
  go_upto_region 1 with fail
  refine nameW ?_;intro wv hwv;obtain ⟨b,hb⟩ : ∃ b,b = w.heap.size:=⟨_,rfl⟩;rw [← hb]
  have kb : Blk wv b 180 sc:=by rw [hwv,hb];exact ((Blk.new w _ _).alloc _).alloc _
  have kd : Blk wv (b + 1) 42 #[.int .i64 n,.int .i64 q]:=by
    have h:=(Blk.new (w.alloc (.cells sc 180)) 42 #[.int .i64 n,.int .i64 q]).alloc (.cells zc 180);rw [HZL.out] at h;rw [hwv,hb]
    simpa using h
  have kz : Blk wv (b + 1 + 1) 180 zc:=by
    have h:=Blk.new ((w.alloc (.cells sc 180)).alloc (.cells #[.int .i64 n,.int .i64 q] 42)) 180 zc;rw [HZL.out] at h ⊢;rw [hwv,hb]
    simpa using h
  have gb : Below w.heap.size w wv:=by rw [hwv];exact (((Below.refl _ _).alloc (Nat.le_refl _) _).alloc (by simp) _).alloc (by simp;omega) _
  have hrv : RdD wv w.heap.size s.A s.n s.l:=hr.below gb
  have hbw : w.heap.size≤b:=by omega
  have t0 : wv.cell? ⟨b + 1,0,none⟩ = some (.int .i64 n):=kd.cell 0;have t1 : wv.cell? ⟨b + 1,1,none⟩ = some (.int .i64 q):=kd.cell 1;clear hwv hb;go_wp2_with fail;refine (may_any n q wv).mono ?_;rintro e w1 ⟨rfl,h1⟩;have kb1:=kb.below h1 kb.lt;have kd1:=kd.below h1 kd.lt;have kz1:=kz.below h1 kz.lt;have b1:=gb.trans (h1.mono gb.size);have hr1:=hrv.below (h1.mono gb.size);clear kb kd kz gb t0 t1 h1 hrv
  by_cases hm : mayB (n,q) = true
  case neg =>
    have hm2 : mayB (n,q) = false:=by simpa using hm
    have hE2 : E = 2:=by rw [hE];unfold addE;rw [hm2];rfl
    have hG2 : G = noG:=by rw [hG];unfold addG;rw [hm2];rfl
    rw [hm2];clear hE hG hm;subst hE2;subst hG2
    go_wp2_with ((with_reducible refine wpList_st rowS kz1 ZS2.out ZS.out Z12.out ?_ ?_ ?_);rotate_left;(rfl);(rfl);intro w7 k7 g7 z7)
    rw [← HZL.out,HZC.out] at k7;have b7:=b1.grown g7 b1.size (fun q hq=>by injection hq;omega);exact bodyPost_ret (v:=.tuple #[.agg (uc (uptoS noG) (.slice none 0 0)),.int .i64 2]) (results_blk2 rfl rowS k7 (by rw [← HZC.out];exact ZS.out) rfl rfl) rfl ⟨none,0,0,rfl,by rw [more_no];exact OwnD.nil _ _,b7⟩
  rw [hm]
  have hHG : hasB s.U s.l (n,q) = hasG s.U s.l n.toNat q.toNat:=by unfold hasB;rw [hm];rfl
  have hmi:=(may_iff _).1 hm
  simp only at hmi
  obtain ⟨y,rfl⟩:=Int.eq_ofNat_of_zero_le hmi.1;obtain ⟨p,rfl⟩:=Int.eq_ofNat_of_zero_le (show 0≤q by omega)
  have hy : y < 8:=by omega
  have hp : p < 98:=by omega
  have hy0 : (0 : Int)≤(y : Int):=by omega
  have hy8 : (y : Int) < 8:=by omega
  have hp0 : (0 : Int)≤(p : Int):=by omega
  have hp8 : (p : Int) < 98:=by omega
  simp only [Int.toNat_natCast] at hHG
  have hrow:=(rowset_one s hU (hr1.more b1.size) (Nat.le_refl _) 180 (0,0)).more (B':=(w1.alloc (.cells sc 180)).heap.size) (by simp);rw [← HSC.out] at hrow;have HM:=Lib.hid hm;have HE:=Lib.hid hE;have HG:=Lib.hid hG;have HH:=Lib.hid hHG;clear hE hG hHG hm hmi
  go_upto_region 3 with fail
  go_wp2_with first
    | ((with_reducible refine wpList_ld rowS kb1 HS.out ?_ ?_);rotate_left;(rfl))
    | ((refine wpList_bs (v:=.slice (some ⟨w1.heap.size,0,none⟩) 1 1) (w':=w1.alloc (.cells sc 180)) rfl 194 1 #[(0,.tmp 11)] rfl ?_ ?_);(simp only [List.map_toArray,List.map_cons,List.map_nil];exact HB1.out w1))
  refine (of_any [s] 1 w1.heap.size _ rfl (by decide) hrow).mono ?_;rintro e w2 ⟨rfl,k2,h2⟩;rw [lays_one] at k2;have bx : Below w1.heap.size w1 (w1.alloc (.cells sc 180)):=(Below.refl _ _).alloc (Nat.le_refl _) _;have by2:=bx.trans (h2.mono (by simp));have kd2:=kd1.below by2 kd1.lt;have kz2:=kz1.below by2 kz1.lt;have b2:=b1.trans (by2.mono b1.size);obtain ⟨g,hg⟩ : ∃ g,g = (w1.alloc (.cells sc 180)).heap.size:=⟨_,rfl⟩;rw [← hg] at k2 ⊢
  have hgb : b + 1 + 1 < g:=by have:=kz1.lt;rw [hg];simp;omega
  clear hg hrow kb1 kd1 kz1 b1 h2 bx by2 hr1;have hcell:=has_at k2 hy hp;have t0 : w2.cell? ⟨b + 1,0,none⟩ = some (.int .i64 (y : Nat)):=kd2.cell 0;have t1 : w2.cell? ⟨b + 1,1,none⟩ = some (.int .i64 (p : Nat)):=kd2.cell 1
  cases hh : hasG s.U s.l y p
  case true =>
    have hE2 : E = 9:=by rw [HE.out];unfold addE;rw [HM.out,HH.out,hh];rfl
    have hG2 : G = noG:=by rw [HG.out];unfold addG;rw [HH.out,hh];simp
    rw [hh] at hcell;clear HE HG;subst hE2;subst hG2
    go_upto_region 4 with fail
    go_region_held3 (fun w'=>w'.cell? ⟨b + 1,0,none⟩ = some (.int .i64 (y : Nat))∧w'.cell? ⟨b + 1,1,none⟩ = some (.int .i64 (p : Nat))∧w'.cell? ⟨g,y * 98 + p,none⟩ = some (.bool true))
      (first | go_keep)
      (first | fail)
    have kz3:=kz2.drew;have b3:=b2.drew;clear kz2 b2 t0 t1
    go_wp2_with ((with_reducible refine wpList_st rowS kz3 ZS2.out ZS.out Z12.out ?_ ?_ ?_);rotate_left;(rfl);(rfl);intro w7 k7 g7 z7)
    rw [← HZL.out,HZC.out] at k7;have b7:=b3.grown g7 b3.size (fun q hq=>by injection hq;omega);exact bodyPost_ret (v:=.tuple #[.agg (uc (uptoS noG) (.slice none 0 0)),.int .i64 9]) (results_blk2 rfl rowS k7 (by rw [← HZC.out];exact ZS.out) rfl rfl) rfl ⟨none,0,0,rfl,by rw [more_no];exact OwnD.nil _ _,b7⟩
  case false =>
    have hE2 : E = 0:=by rw [HE.out];unfold addE;rw [HM.out,HH.out,hh];rfl
    have hG2 : G = putG (hasG s.U s.l) ((y : Int),(p : Int)):=by rw [HG.out];unfold addG;rw [HM.out,HH.out,hh];simp
    rw [hh] at hcell;clear HE HG;subst hE2;subst hG2
    go_upto_region 4 with fail
    go_region_held3 (fun w'=>w'.cell? ⟨b + 1,0,none⟩ = some (.int .i64 (y : Nat))∧w'.cell? ⟨b + 1,1,none⟩ = some (.int .i64 (p : Nat))∧w'.cell? ⟨g,y * 98 + p,none⟩ = some (.bool false))
      (first | go_keep)
      (first | fail)
    go_wp2_with fail;refine (put_any g y p _ _ hy hp k2.drew).mono ?_;rintro e w3 ⟨rfl,k3,g3⟩;have kz3:=(kz2.drew).grown g3 (by intro h;injection h with h;omega);have b3:=b2.drew.grown g3 b2.size (fun q hq=>by injection hq;omega);clear kz2 b2 t0 t1 kd2 k2 g3;go_wp2_with fail;refine (close_any g _ w3 k3).mono ?_;rintro e w4 ⟨A,m,c,rfl,o4,h4⟩;have kz4:=kz3.below h4 kz3.lt;have b4:=b3.trans (h4.mono b3.size);have HSG:=Lib.hid (uc_size (show (uptoS (putG (hasG s.U s.l) ((y : Int),(p : Int)))).length = 8 by simp [uptoS]) (.slice A m c));have H1G:=Lib.hid (uc_one (U:=uptoS (putG (hasG s.U s.l) ((y : Int),(p : Int)))) (s:=.slice A m c) rfl);have hbw3 : w.heap.size≤w3.heap.size:=b3.size;have hne : b + 1 + 1 < w3.heap.size:=kz3.lt;clear kz3 b3 k3 h4
    go_wp2_with ((with_reducible refine wpList_st rowS kz4 HSG.out ZS.out H1G.out ?_ ?_ ?_);rotate_left;(rfl);(rfl);intro w7 k7 g7 z7)
    have b7:=b4.grown g7 b4.size (fun q hq=>by injection hq;omega);have o7:=(o4.mono hbw3).grown g7 (.inr (fun h=>by have:=(o4.lt _ h).1;omega));exact bodyPost_ret (v:=.tuple #[.agg (uc (uptoS (putG (hasG s.U s.l) ((y : Int),(p : Int)))) (.slice A m c)),.int .i64 0]) (results_blk2 rfl rowS k7 HSG.out rfl rfl) rfl ⟨A,m,c,rfl,o7,b7⟩
end Go.Proofs.YtfpenfgmpbdakaaGreat
