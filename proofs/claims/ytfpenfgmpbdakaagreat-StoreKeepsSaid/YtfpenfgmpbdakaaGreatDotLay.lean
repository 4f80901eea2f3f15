import Derived.Test.YtfpenfgmpbdakaaGreatDotGrid
import Derived.Test.YtfpenfgmpbdakaaGreatDotLdm
namespace Go.Proofs.YtfpenfgmpbdakaaGreat
set_option linter.unusedVariables false
set_option linter.unusedSimpArgs false
set_option maxRecDepth 100000
open Go.RowKit
open Dot
def layG (G : Grid) (U : List Int) (k q : Nat) : Grid:=fun n p=>G n p || (decide (1≤p) && ((decide (n < k) && decide ((p : Int)≤U.getD n 0)) || (decide (n = k) && decide (p≤q))))
theorem layG_start (G : Grid) (U : List Int) : layG G U 0 0 = G:=by
  funext n p
  unfold layG
  by_cases h : 1≤p
  · rw [decide_eq_false (show ¬ n < 0 by omega),decide_eq_false (show ¬ p≤0 by omega)];simp
  · rw [decide_eq_false h];simp
theorem layG_put (G : Grid) (U : List Int) (k q : Nat) : putG (layG G U k q) ((k : Int),((q + 1 : Nat) : Int)) = layG G U k (q + 1):=by
  funext n p
  rw [Bool.eq_iff_iff]
  unfold putG layG
  simp only [Bool.or_eq_true,Bool.and_eq_true,decide_eq_true_eq]
  constructor
  · rintro ((h | ⟨h1,h2 | h2⟩) | h)
    · exact .inl h
    · exact .inr ⟨h1,.inl h2⟩
    · exact .inr ⟨h1,.inr (by omega)⟩
    · exact .inr ⟨by omega,.inr (by omega)⟩
  · rintro (h | ⟨h1,h2 | h2⟩)
    · exact .inl (.inl h)
    · exact .inl (.inr ⟨h1,.inl h2⟩)
    · by_cases e : p≤q
      · exact .inl (.inr ⟨h1,.inr (by omega)⟩)
      · exact .inr (by omega)
theorem layG_next (G : Grid) (U : List Int) (k q : Nat) (h : U.getD k 0 = (q : Int)) : layG G U k q = layG G U (k + 1) 0:=by
  funext n p
  rw [Bool.eq_iff_iff]
  unfold layG
  simp only [Bool.or_eq_true,Bool.and_eq_true,decide_eq_true_eq]
  constructor
  · rintro (h2 | ⟨h1,h2 | h2⟩)
    · exact .inl h2
    · exact .inr ⟨h1,.inl (by omega)⟩
    · exact .inr ⟨h1,.inl ⟨by omega,by rw [h2.1,h];omega⟩⟩
  · rintro (h2 | ⟨h1,h2 | h2⟩)
    · exact .inl h2
    · by_cases e : n = k
      · subst e
        rw [h] at h2;exact .inr ⟨h1,.inr (by omega)⟩
      · exact .inr ⟨h1,.inl (by omega)⟩
    · omega
theorem putsG_at (l : List Dt) (G : Grid) (n p : Nat) : putsG G l n p = true↔G n p = true∨((n : Int),(p : Int)) ∈ l:=by
  induction l generalizing G with
  | nil=>simp [putsG]
  | cons d l ih =>
    rw [show putsG G (d :: l) = putsG (putG G d) l from rfl,ih];obtain ⟨x,q⟩:=d
    unfold putG
    simp only [Bool.or_eq_true,Bool.and_eq_true,decide_eq_true_eq,List.mem_cons,Prod.mk.injEq]
    constructor
    · rintro ((h | h) | h)
      · exact .inl h
      · exact .inr (.inl h)
      · exact .inr (.inr h)
    · rintro (h | h | h)
      · exact .inl (.inl h)
      · exact .inl (.inr h)
      · exact .inr h
theorem good_may {U : List Int} {l : List Dt} {i : Nat} {d : Dt} (h : goodAt U l i = true) (hd : l[i]? = some d) : mayB d = true:=by
  unfold goodAt at h
  rw [show l.getD i (0,0) = d by rw [List.getD_eq_getElem?_getD,hd];rfl] at h
  simp only [Bool.and_eq_true] at h
  exact h.1.1
theorem lay_all (G : Grid) (U : List Int) (hU : U.length = 8) (l : List Dt) (h : rightB U l = true) : putsG (layG G U 8 0) l = orG G (hasG U l):=by
  funext n p
  have hr:=(right_iff U l).1 h;rw [Bool.eq_iff_iff,putsG_at]
  unfold orG layG hasG
  simp only [Bool.or_eq_true,Bool.and_eq_true,decide_eq_true_eq,List.contains_iff_mem,h,true_and]
  constructor
  · rintro ((h1 | ⟨h1,h2 | h2⟩) | h1)
    · exact .inl h1
    · have:=all_num hr.1 n
      exact .inr ⟨⟨⟨h2.1,h1⟩,by omega⟩,.inl h2.2⟩
    · omega
    · obtain ⟨i,hi,he⟩:=List.getElem_of_mem h1
      have:=(may_iff _).1 (good_may (hr.2.2 i hi) (List.getElem?_eq_getElem hi))
      rw [he] at this
      simp only at this
      exact .inr ⟨⟨⟨by omega,by omega⟩,by omega⟩,.inr h1⟩
  · rintro (h1 | ⟨⟨⟨h1,h2⟩,h3⟩,h4 | h4⟩)
    · exact .inl (.inl h1)
    · exact .inl (.inr ⟨h2,.inl ⟨h1,h4⟩⟩)
    · exact .inr h4
theorem lay_none (G : Grid) (U : List Int) (l : List Dt) (h : rightB U l = false) : orG G (hasG U l) = G:=by
  funext n p
  unfold orG hasG
  rw [h]
  simp
def uI (U : List Int) : Array Value:=(U.map (Value.int .i64)).toArray
theorem run_index8 (w : World) (U : List Int) (hU : U.length = 8) (k : Nat) (hk : k < 8) : (Instr.index 178 (.agg (uI U)) (.int .i64 (k : Nat))).run Tryz.prog w = .ok (.int .i64 (U.getD k 0)) w:=by
  have hsz : (sizeOf 3).run Tryz.prog w = .ok 1 w:=by kernel_rfl
  have hag : (isAgg 3).run Tryz.prog w = .ok false w:=by kernel_rfl
  have hx : (uI U)[k]? = some (.int .i64 (U.getD k 0)):=by
    unfold uI
    rw [List.getElem?_toArray,List.getElem?_map,List.getD_eq_getElem?_getD,List.getElem?_eq_getElem (by omega)]
    rfl
  simp only [Instr.index,asIntOf,Sem.run_bind,Sem.run_pure,Result.andThen_ok,run_underlying Tryz.underlying178,hsz]
  rw [if_pos (by omega)]
  simp [part,hag,hsz,hx]
theorem uc_range {w : World} {b : Nat} {t : TypeId} {U : List Int} {s : Value} (h : Blk w b t (uc U s)) : w.rangeAt b 0 (U.map (Value.int .i64)):=fun j v hv=>by
  have hj : j < (U.map (Value.int .i64)).length:=(List.getElem?_eq_some_iff.1 hv).1;rw [Nat.zero_add,h.cell]
  unfold uc
  rw [List.getElem?_toArray,List.getElem?_append_left hj];exact hv
set_option maxHeartbeats 2000000 in
theorem lay_any (g : Nat) (G : Grid) (U : List Int) (hU : U.length = 8) (A : Option Addr) (n c : Nat) (l : List Dt) (w : World) (hG : Blk w g 196 (gc G)) (hl : RdD w g A n l) :
    Calls Tryz.prog 138 #[.pointer (some ⟨g,0,none⟩),.agg (uc U (.slice A n c))] w fun e w'=>e = .returned (.tuple #[])∧Blk w' g 196 (gc (orG G (hasG U l)))∧w.grownBy w' (some g):=by
  have HN:=Lib.hid hl.1;have HS:=Lib.hid (uc_size hU (.slice A n c));have hgw : g < w.heap.size:=hG.lt
  go_enter Tryz.func138,Tryz.ntmps138
  go_upto_region 1 with fail
  refine nameW ?_;intro wv hwv;obtain ⟨b,hb⟩ : ∃ b,b = w.heap.size:=⟨_,rfl⟩;rw [← hb]
  have kb : Blk wv b 180 (uc U (.slice A n c)):=by rw [hwv,hb];exact Blk.new w _ _
  have kg : Blk wv g 196 (gc G):=by rw [hwv];exact hG.alloc _
  have gb : w.grownBy wv (some g):=by rw [hwv];exact grown_alloc w _ _
  have hgb : g < b:=by rw [hb];exact hgw
  clear hwv hb
  go_wp2_with ((with_reducible refine wpList_ld rowS kb HS.out ?_ ?_);rotate_left;(rfl))
  refine (right_any U hU A n c l wv ((hl.below (below_grown gb (Nat.le_refl _) (by omega))).more (by have:=kg.lt;omega))).mono ?_;rintro e w1 ⟨rfl,h1⟩;have kb1:=kb.below h1 kb.lt;have kg1:=kg.below h1 kg.lt;have gb1:=grown_trans gb (grown_below h1 (some g));clear kb kg gb h1
  by_cases hr : rightB U l = true
  case neg =>
    have hr2 : rightB U l = false:=by simpa using hr
    have hfin:=lay_none G U l hr2;rw [hr2];have HFIN:=Lib.hid hfin;clear hfin hr;go_wp2_with fail
    (try simp only [Exit.inBlock,Exit.then])
    refine bodyPost_ret (results_none rfl _ _ _) rfl ?_;exact ⟨rfl,by rw [HFIN.out];exact kg1,gb1⟩
  have hfin:=lay_all G U hU l hr;have hri:=(right_iff U l).1 hr;rw [hr]
  have hn768 : n≤768:=by have:=HN.out;omega
  have hall : ∀ (i : Nat) (d : Dt),l[i]? = some d→mayB d = true:=fun i d hd=>good_may (hri.2.2 i (List.getElem?_eq_some_iff.1 hd).1) hd
  have HR1:=Lib.hid hri.1;have HFIN:=Lib.hid hfin;have HALL:=Lib.hid hall
  have hix:=fun w (k : Nat) (hk : k < 8)=>run_index8 w U hU k hk
  have HIX:=Lib.hid hix;have hrg:=uc_range kb1
  have hUl : (U.map (Value.int .i64)).length = 8:=by rw [List.length_map,hU]
  have HUL:=Lib.hid hUl;have t8 : w1.cell? ⟨b,8,none⟩ = some (.slice A n c):=(kb1.cell 8).trans (uc_last hU _);have HT8:=Lib.hid t8;clear hfin hri hall hr hix hUl t8
  go_upto_region 2 with fail
  go_upto_region 3 with ((with_reducible refine wpList_ldm row8 hrg HUL.out ?_ ?_);rotate_left;(rfl))
  rw [show (U.map (Value.int .i64)).toArray = uI U from rfl];have hst:=layG_start G U;rw [← hst] at kg1;have HB:=Lib.hid kb1;clear hrg hst kb1
  go_loopw [12] (fun i wr=>∃ k : Nat,k≤8∧i = .int .i64 k∧Blk wr g 196 (gc (layG G U k 0))∧w.grownBy wr (some g)∧Blk wr b 180 (uc U (.slice A n c))) (fun i _=>8 - (intOf i).toNat)
  case atStart=>exact ⟨0,by omega,rfl,kg1,gb1,HB.out⟩
  case round =>
    clear kg1 gb1 HT8 HB;obtain ⟨k,hk,rfl,kg,gb,kb⟩:=hrel
    by_cases hlt : k < 8
    · have hku:=all_num HR1.out k
      have hi:=fun w=>HIX.out w k hlt
      have hnx:=layG_next G U k;obtain ⟨v,hv⟩:=Int.eq_ofNat_of_zero_le hku.1;have hnx2:=hnx v hv;rw [hv] at hi hku;have HNX:=Lib.hid hnx2;clear hnx hnx2 hv;have hkd : decide ((k : Int) < 8) = true:=decide_eq_true (by omega)
      go_upto_region 6 with fail
      go_loopw [17] (fun i wr=>∃ q : Nat,q≤v∧i = .int .i64 q∧Blk wr g 196 (gc (layG G U k q))∧w.grownBy wr (some g)∧Blk wr b 180 (uc U (.slice A n c))) (fun i _=>v - (intOf i).toNat)
      case atStart=>exact ⟨0,by omega,rfl,kg,gb,kb⟩
      case round =>
        clear kg gb kb;obtain ⟨q,hq,rfl,kg,gb,kb⟩:=hrel
        by_cases hqv : q < v
        · have hpt:=layG_put G U k q
          have HPT:=Lib.hid hpt;have hqd : decide ((q : Int) < (v : Int)) = true:=decide_eq_true (by omega)
          have hwq : IntKind.i64.wrap ((q : Int) + 1) = ((q + 1 : Nat) : Int):=by rw [IntKind.wrap_i64];omega
          have HWQ:=Lib.hid hwq;clear hpt;go_wp2_with fail;rw [show ((q : Int) + 1) = ((q + 1 : Nat) : Int) from rfl];refine (put_any g k (q + 1) _ wr hlt (by omega) kg).mono ?_;rw [HPT.out];rintro e w5 ⟨rfl,k5,g5⟩;have gb5:=grown_trans gb g5;have kb5:=kb.grown g5 (by intro h;injection h with h;omega);clear kg gb kb g5;go_wp2_with fail
          go_roundw
          case rel=>exact ⟨q + 1,by omega,by go_num,k5,gb5,kb5⟩
          case measure=>simp [intOf];omega
        · have hqe : q = v:=by omega
          subst hqe;rw [HNX.out] at kg
          have hqd : decide ((q : Int) < (q : Int)) = false:=by simp
          go_wp2_with fail
          go_roundw
          case rel=>exact ⟨k + 1,by omega,by go_num,kg,gb,kb⟩
          case measure=>simp [intOf];omega
    · have hke : k = 8:=by omega
      subst hke;have t8 : wr.cell? ⟨b,8,none⟩ = some (.slice A n c):=(kb.cell 8).trans (uc_last hU _);have hlb:=hl.below (below_grown gb (Nat.le_refl _) (by omega));go_wp2_with fail;refine (each_put g n c A l _ wr kg hlb hn768 HALL.out).mono ?_;rw [HFIN.out];rintro e w5 ⟨rfl,k5,g5⟩;have gb5:=grown_trans gb g5;clear kg gb kb g5 t8;go_wp2_with fail
      go_end0
      exact ⟨rfl,k5,gb5⟩
end Go.Proofs.YtfpenfgmpbdakaaGreat
