import Derived.Test.YtfpenfgmpbdakaaGreatDotClo
namespace Go.Proofs.YtfpenfgmpbdakaaGreat
set_option linter.unusedVariables false
set_option linter.unusedSimpArgs false
set_option maxRecDepth 100000
open Go.RowKit
open Dot
def upT (G : Grid) (n q : Nat) : List Int:=(List.range 8).map fun j=>if j < n then (lead (G j) 98 : Int) else if j = n then (lead (G n) q : Int) else 0
theorem upT_len (G : Grid) (n q : Nat) : (upT G n q).length = 8:=by simp [upT]
theorem upT_get (G : Grid) (n q : Nat) {j : Nat} (hj : j < 8) : (upT G n q)[j]? = some (if j < n then (lead (G j) 98 : Int) else if j = n then (lead (G n) q : Int) else 0):=by
  unfold upT
  rw [List.getElem?_map,List.getElem?_range hj]
  rfl
theorem upT_at (G : Grid) (n q : Nat) (hn : n < 8) : (upT G n q).getD n 0 = lead (G n) q:=by
  rw [List.getD_eq_getElem?_getD,upT_get G n q hn]
  simp
theorem upT_ext {l : List Int} {G : Grid} {n q : Nat} (hl : l.length = 8) (h : ∀ j,j < 8→l[j]? = some (if j < n then (lead (G j) 98 : Int) else if j = n then (lead (G n) q : Int) else 0)) : l = upT G n q:=by
  apply List.ext_getElem?
  intro j
  by_cases hj : j < 8
  · rw [h j hj,upT_get G n q hj]
  · rw [List.getElem?_eq_none (by omega),List.getElem?_eq_none (by rw [upT_len];omega)]
theorem upT_start (G : Grid) : List.replicate 8 0 = upT G 0 0:=upT_ext rfl fun j hj=>by
  rw [List.getElem?_replicate,if_pos hj,if_neg (by omega)]
  split
  · simp [lead]
  · rfl
theorem upT_next (G : Grid) (n : Nat) : upT G n 98 = upT G (n + 1) 0:=upT_ext (upT_len _ _ _) fun j hj=>by
  rw [upT_get G n 98 hj]
  by_cases h1 : j < n
  · rw [if_pos h1,if_pos (by omega)]
  · by_cases h2 : j = n
    · subst h2
      rw [if_neg (by omega),if_pos rfl,if_pos (by omega)]
    · rw [if_neg h1,if_neg h2,if_neg (by omega)]
      by_cases h3 : j = n + 1
      · rw [if_pos h3];simp [lead]
      · rw [if_neg h3]
theorem upT_all (G : Grid) : upT G 8 0 = uptoS G:=by
  unfold upT uptoS
  refine List.map_congr_left fun j hj=>?_
  rw [if_pos (by simpa using hj)]
theorem upT_same (G : Grid) (n q : Nat) (h : lead (G n) (q + 1) = lead (G n) q) : upT G n (q + 1) = upT G n q:=by unfold upT;rw [h]
theorem upT_set (G : Grid) (n q : Nat) (hn : n < 8) (h : lead (G n) (q + 1) = q) : (upT G n q).set n (q : Int) = upT G n (q + 1):=upT_ext (by rw [List.length_set,upT_len]) fun j hj=>by
  by_cases e : n = j
  · subst e
    rw [List.getElem?_set_self (by rw [upT_len];omega),if_neg (by omega),if_pos rfl,h]
  · rw [List.getElem?_set_ne e,upT_get G n q hj]
    by_cases h1 : j < n
    · rw [if_pos h1,if_pos h1]
    · rw [if_neg h1,if_neg h1,if_neg (fun h=>e h.symm),if_neg (fun h=>e h.symm)]
theorem numb_snoc (n : Nat) (l : List Nat) (q : Nat) : numb n (l ++ [q]) = numb n l ++ [((n : Int),(q : Int))]:=by unfold numb;rw [List.map_append];rfl
def CloI (w0 : World) (base g gs : Nat) (G : Grid) (n q : Nat) (w : World) : Prop:=q≤98∧n≤8∧Blk w g 196 (gc G)∧∃ A m c,Blk w gs 180 (uc (upT G n q) (.slice A m c))∧OwnD w base A m c (moreTo G n ++ numb n (rest (G n) q))∧A.map (·.block) ≠ some gs∧Below base w0 w
theorem clo_step (w0 : World) (base g gs : Nat) (G : Grid) (h1 : g < base) (h2 : base≤gs) (n q : Nat) (w : World) (hn : n < 8) (hq : q < 98) (hg : G n q = true) (hI : CloI w0 base g gs G n q w) :
    Calls Tryz.prog 140 #[.agg #[.int .i64 (n : Nat),.int .i64 (q : Nat)],.pointer (some ⟨gs,0,none⟩)] w fun e w'=>e = .returned (.tuple #[])∧CloI w0 base g gs G n (q + 1) w':=by
  obtain ⟨_,_,kg,A,m,c,ks,oD,hne,hb⟩:=hI;have hat:=upT_at G n q hn;have hle:=lead_le (G n) q
  by_cases hl : q = lead (G n) q + 1
  · have e1 : lead (G n) (q + 1) = q:=by rw [lead,if_pos ⟨hg,hl⟩]
    have e2 : rest (G n) (q + 1) = rest (G n) q:=by rw [rest,if_neg (by simp [← hl])]
    refine (clo_up gs n q _ (upT_len G n q) _ w hn hq (by rw [hat];omega) ks).mono ?_;rintro e w' ⟨rfl,k,gr⟩;rw [upT_set G n q hn e1] at k;refine ⟨rfl,by omega,by omega,kg.grown gr (by intro h;injection h with h;omega),A,m,c,k,?_,hne,hb.grown gr (Nat.le_of_lt (Nat.lt_of_le_of_lt h2 ks.lt)) (fun x hx=>by injection hx;omega)⟩;rw [e2];exact oD.grown gr (.inr hne)
  · have e1 : lead (G n) (q + 1) = lead (G n) q:=by rw [lead,if_neg (fun h=>hl h.2)]
    have e2 : rest (G n) (q + 1) = rest (G n) q ++ [q]:=by rw [rest,if_pos ⟨hg,hl⟩]
    have hm : m≤1000:=by
      have:=oD.1
      have h3:=moreTo_len G n;have h4:=rest_len (G n) q;rw [List.length_append,numb_len] at this
      omega
    refine (clo_app gs n q m c base A _ _ (upT_len G n q) w hn hq (by rw [hat];omega) (by rw [hat];omega) ks oD hne h2 hm).mono ?_;rintro e w' ⟨rfl,A',c',k,o,hne',b⟩;refine ⟨rfl,by omega,by omega,kg.below b h1,A',m + 1,c',?_,?_,hne',hb.trans b⟩
    · rw [upT_same G n q e1];exact k
    · rw [e2,numb_snoc,← List.append_assoc];exact o
theorem clo_skip (w0 : World) (base g gs : Nat) (G : Grid) (n q : Nat) (w : World) (hq : q < 98) (hg : G n q = false) (hI : CloI w0 base g gs G n q w) : CloI w0 base g gs G n (q + 1) w:=by
  obtain ⟨_,hn,kg,A,m,c,ks,oD,hne,hb⟩:=hI
  have e1 : lead (G n) (q + 1) = lead (G n) q:=by rw [lead,if_neg (by rw [hg];simp)]
  have e2 : rest (G n) (q + 1) = rest (G n) q:=by rw [rest,if_neg (by rw [hg];simp)]
  refine ⟨by omega,hn,kg,A,m,c,?_,?_,hne,hb⟩
  · rw [upT_same G n q e1];exact ks
  · rw [e2];exact oD
theorem clo_next (w0 : World) (base g gs : Nat) (G : Grid) (n : Nat) (w : World) (hn : n < 8) (hI : CloI w0 base g gs G n 98 w) : CloI w0 base g gs G (n + 1) 0 w:=by
  obtain ⟨_,_,kg,A,m,c,ks,oD,hne,hb⟩:=hI;refine ⟨by omega,by omega,kg,A,m,c,?_,?_,hne,hb⟩
  · rw [← upT_next];exact ks
  · rw [show moreTo G (n + 1) ++ numb (n + 1) (rest (G (n + 1)) 0) = moreTo G n ++ numb n (rest (G n) 98) by rw [show rest (G (n + 1)) 0 = [] from rfl,show numb (n + 1) [] = [] from rfl,List.append_nil];rfl];exact oD
set_option maxHeartbeats 1000000 in
theorem close_any (g : Nat) (G : Grid) (w : World) (hG : Blk w g 196 (gc G)) :
    Calls Tryz.prog 135 #[.pointer (some ⟨g,0,none⟩)] w fun e w'=>∃ A m c,e = .returned (.agg (uc (uptoS G) (.slice A m c)))∧OwnD w' w.heap.size A m c (moreS G)∧Below w.heap.size w w':=by
  have hmf : ∀ (fn : Fn) (first cap : Array Value) (w : World),(Instr.makeFunc fn first cap).run Tryz.prog w = .ok (.func fn first cap) w:=fun _ _ _ _=>rfl
  have hgw:=hG.lt
  go_enter Tryz.func135,Tryz.ntmps135
  go_upto_region 1 with fail
  refine nameW ?_;intro wv hwv;obtain ⟨gs,hgs⟩ : ∃ gs,gs = w.heap.size:=⟨_,rfl⟩;rw [← hgs]
  have hI : CloI w gs g gs G 0 0 wv:=by
    refine ⟨by omega,by omega,by rw [hwv];exact hG.alloc _,none,0,0,?_,OwnD.nil _ _,by simp,by rw [hwv,hgs];exact (Below.refl _ _).alloc (Nat.le_refl _) _⟩;rw [← upT_start,hwv,hgs];exact Blk.new w _ _
  have HG:=Lib.hid hgs
  have hggs : g < gs:=by omega
  clear hwv hgs;go_wp2_with fail;refine (walk_any 140 g ⟨gs,0,none⟩ G (CloI w gs g gs G) (fun _ _=>rfl) (fun n q w' hn hq hg hI=>clo_step w gs g gs G hggs (Nat.le_refl _) n q w' hn hq hg hI) (fun n q w' _ hq hg hI=>clo_skip w gs g gs G n q w' hq hg hI) (fun n w' hn hI=>clo_next w gs g gs G n w' hn hI) (fun n q w' hI=>hI.2.2.1) wv hI).mono ?_;rintro e w1 ⟨rfl,_,_,kg,A,m,c,ks,oD,hne,hb⟩;rw [upT_all] at ks;have HS:=Lib.hid (uc_size (show (uptoS G).length = 8 by simp [uptoS]) (.slice A m c));have H1:=Lib.hid (uc_one (U:=uptoS G) (s:=.slice A m c) rfl)
  have hM : moreTo G 8 ++ numb 8 (rest (G 8) 0) = moreS G:=by rw [show rest (G 8) 0 = [] from rfl,show numb 8 [] = [] from rfl,List.append_nil];rfl
  rw [hM] at oD;clear hI hM
  go_wp2_with first
    | ((with_reducible refine wpList_ld rowS ks HS.out ?_ ?_);rotate_left;(rfl))
    | ((with_reducible refine wpList_st rowS ks HS.out HS.out H1.out ?_ ?_ ?_);rotate_left;(rfl);(rfl);intro w7 k7 g7 z7)
  have o7:=oD.grown g7 (.inr hne);have b7:=hb.grown g7 (Nat.le_of_lt ks.lt) (fun q hq=>by injection hq;omega);obtain rfl:=HG.out;exact bodyPost_ret (v:=.agg (uc (uptoS G) (.slice A m c))) (results_blk rfl rowS k7 HS.out rfl) rfl ⟨A,m,c,rfl,o7,b7⟩
end Go.Proofs.YtfpenfgmpbdakaaGreat
