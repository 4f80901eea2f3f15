import Derived.Test.YtfpenfgmpbdakaaGreatDotLay
namespace Go.Proofs.YtfpenfgmpbdakaaGreat
set_option linter.unusedVariables false
set_option linter.unusedSimpArgs false
set_option maxRecDepth 100000
open Go.RowKit
open Dot
structure SetV where
  U : List Int
  A : Option Addr
  n : Nat
  c : Nat
  l : List Dt
def SetV.cs (s : SetV) : List Value:=s.U.map (Value.int .i64) ++ [.slice s.A s.n s.c]
def SetV.v (s : SetV) : Value:=.agg (uc s.U (.slice s.A s.n s.c))
def laysG (G : Grid) (ss : List SetV) : Grid:=ss.foldl (fun G s=>orG G (hasG s.U s.l)) G
theorem laysG_snoc (G : Grid) (l : List SetV) (s : SetV) : laysG G (l ++ [s]) = orG (laysG G l) (hasG s.U s.l):=by unfold laysG;rw [List.foldl_append];rfl
def RowSet (w : World) (B bs : Nat) (ss : List SetV) : Prop:=bs < w.heap.size∧∀ (i : Nat) (s : SetV),ss[i]? = some s→w.rangeAt bs (i * 9) s.cs∧s.U.length = 8∧RdD w B s.A s.n s.l
theorem range_keep {w w' : World} {b o B : Nat} {cs : List Value} (h : w.rangeAt b o cs) (hb : Below B w w') (hB : b < B) : w'.rangeAt b o cs:=fun j v hv=>(hb.cell (p:=⟨b,o + j,none⟩) hB).trans (h j v hv)
theorem RowSet.below {w w' : World} {B bs B2 : Nat} {ss : List SetV} (h : RowSet w B bs ss) (hb : Below B2 w w') (h1 : bs < B2) (h2 : B≤B2) : RowSet w' B bs ss :=
  ⟨Nat.lt_of_lt_of_le h.1 hb.size,fun i s hs=>by
    obtain ⟨k1,k2,k3⟩:=h.2 i s hs
    exact ⟨range_keep k1 hb h1,k2,k3.below (hb.mono h2)⟩⟩
theorem RowSet.more {w : World} {B B' bs : Nat} {ss : List SetV} (h : RowSet w B bs ss) (hB : B≤B') : RowSet w B' bs ss :=
  ⟨h.1,fun i s hs=>by
    obtain ⟨k1,k2,k3⟩:=h.2 i s hs
    exact ⟨k1,k2,k3.more hB⟩⟩
set_option maxHeartbeats 2000000 in
theorem of_any (ss : List SetV) (m bs : Nat) (w : World) (hm : m = ss.length) (hm2 : m≤1000) (hR : RowSet w w.heap.size bs ss) :
    Calls Tryz.prog 133 #[.slice (some ⟨bs,0,none⟩) m m] w fun e w'=>e = .returned (.pointer (some ⟨w.heap.size,0,none⟩))∧Blk w' w.heap.size 196 (gc (laysG noG ss))∧Below w.heap.size w w':=by
  have HM:=Lib.hid hm;have hz:=zvalG
  go_enter Tryz.func133,Tryz.ntmps133
  go_wp2_with fail;refine nameW ?_;intro wv hwv;obtain ⟨g,hg⟩ : ∃ g,g = w.heap.size:=⟨_,rfl⟩;rw [← hg]
  have kg : Blk wv g 196 (gc noG):=by rw [hwv,hg];exact Blk.new w _ _
  have gb : Below g w wv:=by rw [hwv,hg];exact (Below.refl _ _).alloc (Nat.le_refl _) _
  rw [← hg] at hR
  have hgw : g≤w.heap.size:=by omega
  have hbg : bs < g:=by rw [hg];exact hR.1
  have HGE:=Lib.hid hg;clear hwv hg hz hm
  go_loopw [10] (fun i wr=>∃ k : Nat,k≤m∧i = .int .i64 k∧Blk wr g 196 (gc (laysG noG (ss.take k)))∧Below g w wr) (fun i _=>m - (intOf i).toNat)
  case atStart=>exact ⟨0,by omega,rfl,kg,gb⟩
  case round =>
    clear kg gb;obtain ⟨k,hk,rfl,kg,gb⟩:=hrel
    by_cases hlt : k < m
    · have hkl : k < ss.length:=by rw [← HM.out];exact hlt
      obtain ⟨hrg,hU,hrd⟩:=(hR.below gb hbg (Nat.le_refl _)).2 k _ (List.getElem?_eq_getElem hkl);have htk : ss.take (k + 1) = ss.take k ++ [ss[k]]:=take_snoc ss hkl;have hsn:=laysG_snoc noG (ss.take k) ss[k];rw [← htk] at hsn
      generalize ss[k] = s at *
      have HSN:=Lib.hid hsn
      have hcl : s.cs.length = 9:=by unfold SetV.cs;rw [List.length_append,List.length_map,hU];rfl
      have HCL:=Lib.hid hcl;have HSZ:=Lib.hid (uc_size hU (.slice s.A s.n s.c));have h1c:=uc_one (U:=s.U) (s:=.slice s.A s.n s.c) rfl
      have hk0 : (0 : Int)≤(k : Int):=by omega
      have hkm : (k : Int) < (m : Int):=by omega
      obtain ⟨sc,hsc⟩ : ∃ sc,sc = uc s.U (.slice s.A s.n s.c):=⟨_,rfl⟩
      have hsc2 : s.cs.toArray = sc:=by rw [hsc];rfl
      rw [← hsc] at HSZ h1c;have HSC:=Lib.hid hsc;have HSC2:=Lib.hid hsc2;have H1C:=Lib.hid h1c;obtain ⟨L,hL⟩ : ∃ L,L = s.cs:=⟨_,rfl⟩;rw [← hL] at hrg HCL HSC2;clear htk hsn hcl hsc hsc2 h1c hL
      go_upto_region 4 with fail
      go_upto_region 5 with first
        | ((with_reducible refine wpList_ldm rowS hrg HCL.out ?_ ?_);rotate_left;(rfl);rw [HSC2.out])
        | ((with_reducible refine wpList_st rowS (Blk.new _ _ _) HSZ.out ?_ H1C.out ?_ ?_ ?_);(rfl);rotate_left;(rfl);(rfl);intro w6 k6 g6 z6)
      have bA : Below wr.heap.size wr w6:=(((Below.refl _ _).alloc (Nat.le_refl _) _).grown g6 (by simp) (fun q hq=>by injection hq with hq;omega));have hgr : g≤wr.heap.size:=Nat.le_of_lt kg.lt;have kg6:=kg.below bA kg.lt;have gb6:=gb.trans (bA.mono hgr);have hrd6:=hrd.below (bA.mono hgr);obtain ⟨gr,hgr2⟩ : ∃ gr,gr = wr.heap.size:=⟨_,rfl⟩;rw [← hgr2] at k6 ⊢;clear hgr2 g6 z6 bA kg gb hrg hrd
      go_wp2_with ((with_reducible refine wpList_ld rowS k6 HSZ.out ?_ ?_);rotate_left;(rfl))
      rw [HSC.out];refine (lay_any g _ s.U hU s.A s.n s.c s.l w6 kg6 hrd6).mono ?_;rw [← HSN.out];rintro e w7 ⟨rfl,k7,g7⟩;have gb7:=gb6.trans (below_grown g7 (Nat.le_refl _) (Nat.le_of_lt kg6.lt));clear k6 kg6 gb6 g7;go_wp2_with fail
      go_roundw
      case rel =>
        exact ⟨k + 1,by omega,by go_num,k7,gb7⟩
      case measure=>simp [intOf];omega
    · have hkn : k = ss.length:=by have:=HM.out;omega
      rw [hkn,List.take_length] at kg;have hkd : decide ((k : Int) < (m : Int)) = false:=decide_eq_false (by omega);go_wp2_with fail;go_ret;obtain rfl:=HGE.out;exact ⟨rfl,kg,gb⟩
theorem has_at {w : World} {g : Nat} {G : Grid} (h : Blk w g 196 (gc G)) {n q : Nat} (hn : n < 8) (hq : q < 98) : w.cell? ⟨g,n * 98 + q,none⟩ = some (.bool (G n q)):=(h.cell _).trans (gc_at G hn hq)
theorem lays_one (s : SetV) : laysG noG [s] = hasG s.U s.l:=by
  funext n q
  simp [laysG,orG,noG]
theorem rowset_one {w : World} {B : Nat} (s : SetV) (h : s.U.length = 8) (hr : RdD w B s.A s.n s.l) (hB : B≤w.heap.size) (t : TypeId) (mk : Nat × Nat) : RowSet (w.alloc (.cells (uc s.U (.slice s.A s.n s.c)) t mk)) B w.heap.size [s]:=by
  refine ⟨by simp,fun i u hi=>?_⟩;have hb : Below w.heap.size w (w.alloc (.cells (uc s.U (.slice s.A s.n s.c)) t mk)):=(Below.refl _ _).alloc (Nat.le_refl _) _
  cases i with
  | zero =>
    simp at hi
    subst hi;refine ⟨fun j v hv=>?_,h,hr.below (hb.mono hB)⟩;rw [Nat.zero_mul,Nat.zero_add,World.cell?_alloc_mark]
    unfold uc
    rw [List.getElem?_toArray];exact hv
  | succ i=>simp at hi
end Go.Proofs.YtfpenfgmpbdakaaGreat
