import Derived.Test.YtfpenfgmpbdakaaGreatDotWalks
import Derived.Deep.RegionHeld3
namespace Go.Proofs.YtfpenfgmpbdakaaGreat
set_option linter.unusedVariables false
set_option linter.unusedSimpArgs false
set_option maxRecDepth 100000
open Go.RowKit
open Dot
def uc (U : List Int) (s : Value) : Array Value:=(U.map (Value.int .i64) ++ [s]).toArray
theorem uc_size {U : List Int} (h : U.length = 8) (s : Value) : (uc U s).size = 9:=by simp [uc,h]
theorem uc_at {U : List Int} (h : U.length = 8) (s : Value) {i : Nat} (hi : i < 8) : (uc U s)[i]? = some (.int .i64 (U.getD i 0)):=by
  unfold uc
  rw [List.getElem?_toArray,List.getElem?_append_left (by rw [List.length_map];omega),List.getElem?_map,List.getD_eq_getElem?_getD,List.getElem?_eq_getElem (by omega)]
  rfl
theorem uc_last {U : List Int} (h : U.length = 8) (s : Value) : (uc U s)[8]? = some s:=by
  unfold uc
  rw [List.getElem?_toArray,List.getElem?_append_right (by rw [List.length_map];omega),List.length_map,h]
  rfl
theorem uc_one {U : List Int} {s : Value} (h : s.oneCell' = true) : (uc U s).all (·.oneCell') = true:=by
  unfold uc
  rw [Array.all_eq_true_iff_forall_mem];intro x hx
  simp at hx
  rcases hx with ⟨a,_,rfl⟩ | rfl
  · rfl
  · exact h
theorem rowS : RowT Tryz.prog 180 9:=⟨_,Tryz.underlying180,rfl,by kernel_rfl⟩
theorem row8 : RowT Tryz.prog 178 8:=⟨_,Tryz.underlying178,rfl,by kernel_rfl⟩
theorem row98 : RowT Tryz.prog 191 98:=⟨_,Tryz.underlying191,rfl,by kernel_rfl⟩
def DotAt (w : World) (B : Nat) (ad : Addr) (d : Dt) : Prop:=ad.block < B∧w.cell? ad = some (.int .i64 d.1)∧w.cell? ⟨ad.block,ad.off + 1,none⟩ = some (.int .i64 d.2)
def RdD (w : World) (B : Nat) (A : Option Addr) (n : Nat) (l : List Dt) : Prop:=n = l.length∧∀ i d,l[i]? = some d→∃ ad,A = some ad∧DotAt w B (ad.add (i * 2)) d
def dcs (l : List Dt) : List Value:=l.flatMap fun d=>[.int .i64 d.1,.int .i64 d.2]
section
variable {w w' : World} {B B' n : Nat} {A : Option Addr} {l : List Dt}
theorem DotAt.below {ad : Addr} {d : Dt} (h : DotAt w B ad d) (hb : Below B w w') : DotAt w' B ad d:=⟨h.1,(hb.cell h.1).trans h.2.1,(hb.cell (p:=⟨ad.block,ad.off + 1,none⟩) h.1).trans h.2.2⟩
theorem RdD.below (h : RdD w B A n l) (hb : Below B w w') : RdD w' B A n l:=⟨h.1,fun i d hi=>by obtain ⟨ad,e,h2⟩:=h.2 i d hi;exact ⟨ad,e,h2.below hb⟩⟩
theorem RdD.more (h : RdD w B A n l) (hB : B≤B') : RdD w B' A n l:=⟨h.1,fun i d hi=>by obtain ⟨ad,e,h2,h3⟩:=h.2 i d hi;exact ⟨ad,e,by omega,h3⟩⟩
theorem RdD.size (h : RdD w B A n l) : RdD w w.heap.size A n l:=⟨h.1,fun i d hi=>by obtain ⟨ad,e,h2,h3,h4⟩:=h.2 i d hi;exact ⟨ad,e,World.block_lt_of_cell? w _ h3,h3,h4⟩⟩
theorem RdD.drew (h : RdD w B A n l) : RdD w.drew B A n l:=h
theorem RdD.nil (w : World) (B : Nat) (A : Option Addr) : RdD w B A 0 []:=⟨rfl,fun i d hi=>by simp at hi⟩
theorem dcs_len (l : List Dt) : (dcs l).length = l.length * 2:=by
  induction l with
  | nil=>rfl
  | cons d l ih=>show (([.int .i64 d.1,.int .i64 d.2] : List Value) ++ dcs l).length = _;rw [List.length_append,ih];simp;omega
theorem dcs_app (l m : List Dt) : dcs (l ++ m) = dcs l ++ dcs m:=by unfold dcs;rw [List.flatMap_append]
theorem dcs_one (l : List Dt) : ∀ u ∈ dcs l,u.oneCell' = true:=by
  intro u hu
  unfold dcs at hu
  rw [List.mem_flatMap] at hu;obtain ⟨d,_,hd⟩:=hu
  simp at hd
  rcases hd with rfl | rfl <;> rfl
theorem dcs_at (l : List Dt) : ∀ (i : Nat) (d : Dt),l[i]? = some d→(dcs l)[i * 2]? = some (.int .i64 d.1)∧(dcs l)[i * 2 + 1]? = some (.int .i64 d.2):=by
  induction l with
  | nil=>intro i d h;simp at h
  | cons x l ih =>
    intro i d h;have e : dcs (x :: l) = .int .i64 x.1 :: .int .i64 x.2 :: dcs l:=rfl;rw [e]
    cases i with
    | zero=>simp at h;subst h;exact ⟨rfl,rfl⟩
    | succ i =>
      have:=ih i d (by simpa using h)
      rw [show (i + 1) * 2 = i * 2 + 1 + 1 by omega]
      simpa using this
theorem add_next (ad : Addr) (i : Nat) : ad.add (i * 2 + 1) = ⟨(ad.add (i * 2)).block,(ad.add (i * 2)).off + 1,none⟩:=by
  rw [show ad.add (i * 2 + 1) = (ad.add (i * 2)).add 1 from (add_add ad (i * 2) 1).symm]
  unfold Addr.add
  rw [if_neg (by omega)]
theorem RdD.of_rd (h : Rd w B A (dcs l)) : RdD w B A l.length l:=⟨rfl,fun i d hi=>by
  obtain ⟨h1,h2⟩:=dcs_at l i d hi;obtain ⟨a,e,hb,hc⟩:=h _ _ h1;obtain ⟨a',e',_,hc'⟩:=h _ _ h2
  obtain rfl : a = a':=by rw [e] at e';injection e'
  rw [add_next] at hc'
  exact ⟨a,e,by rw [block_add];exact hb,hc,hc'⟩⟩
theorem RdD.rd (h : RdD w B A n l) : Rd w B A (dcs l):=fun j u hu=>by
  have hj : j < l.length * 2:=by
    have:=(List.getElem?_eq_some_iff.1 hu).1
    rwa [dcs_len] at this
  obtain ⟨i,b,rfl,hb⟩ : ∃ i b,j = i * 2 + b∧b < 2:=⟨j / 2,j % 2,by omega,by omega⟩
  have hi : i < l.length:=by omega
  obtain ⟨ad,e,h1,h2,h3⟩:=h.2 i _ (List.getElem?_eq_getElem hi);obtain ⟨k1,k2⟩:=dcs_at l i _ (List.getElem?_eq_getElem hi);refine ⟨ad,e,by rw [block_add] at h1;exact h1,?_⟩
  rcases (show b = 0∨b = 1 by omega) with rfl | rfl
  · rw [Nat.add_zero] at hu ⊢
    rw [h2,← hu,k1]
  · rw [add_next,h3,← hu,k2]
end
set_option maxHeartbeats 1000000 in
theorem index_any (g c : Nat) (U : List Int) (hU : U.length = 8) (w : World) (hU2 : ∀ i,i < 8→w.cell? ⟨g,i,none⟩ = some (.int .i64 (U.getD i 0))) :
    Calls Tryz.prog 146 #[.slice (some ⟨g,0,none⟩) 8 8,.func (.func 144) #[] #[]] w fun e w'=>(∃ z : Int,e = .returned (.int .i64 z)∧decide (0≤z) = !(U.all numOk))∧w = w':=by
  have hen : ∀ (args : Array Value) (w : World),(callFunc 144 args).run Tryz.prog w = .ok (.enter 144 args) w:=fun _ _=>rfl
  have HL:=Lib.hid hU;have HU:=Lib.hid hU2;clear hU hU2
  go_enter Tryz.func146,Tryz.ntmps146
  go_wp2_with fail
  go_loopw [8] (fun i wr=>∃ (k : Nat),k≤8∧i = .int .i64 k∧(∀ j,j < k→numOk (U.getD j 0) = true)∧w = wr) (fun i _=>8 - (intOf i).toNat)
  case atStart=>exact ⟨0,by omega,rfl,fun j hj=>by omega,rfl⟩
  case round =>
    obtain ⟨k,hk,rfl,hall,rfl⟩:=hrel;have HA:=Lib.hid hall;clear hall
    by_cases hlt : k < 8
    · have hc:=HU.out k hlt
      have hk0 : (0 : Int)≤(k : Int):=by omega
      have hk1 : (k : Int) < 8:=by omega
      generalize hx : U.getD k 0 = x at hc
      have HX:=Lib.hid hx;clear hx;go_wp2_with fail;refine (num_any x _).mono ?_;rintro e w1 ⟨rfl,rfl⟩
      by_cases hn : numOk x = true
      · rw [hn]
        go_wp2_with fail
        go_roundw
        case rel=>exact ⟨k + 1,by omega,by go_num,fun j hj=>by
          by_cases e : j = k
          · subst e;rw [HX.out];exact hn
          · exact HA.out j (by omega),(by first | rfl | trivial)⟩
        case measure=>simp [intOf];omega
      · have hn2 : numOk x = false:=by simpa using hn
        have hf : U.all numOk = false:=by
          rw [← Bool.not_eq_true];intro h
          have:=List.all_eq_true.1 h (U.getD k 0) (by rw [List.getD_eq_getElem?_getD,List.getElem?_eq_getElem (by rw [HL.out];exact hlt)];exact List.getElem_mem _)
          rw [HX.out,hn2] at this
          cases this
        have HF:=Lib.hid hf;clear hf;rw [hn2];go_wp2_with fail;go_ret;exact ⟨⟨_,rfl,by rw [HF.out];simp⟩,rfl⟩
    · have hf : U.all numOk = true:=by
        rw [List.all_eq_true];intro x hx;obtain ⟨i,hi,rfl⟩:=List.getElem_of_mem hx
        have:=HA.out i (by rw [HL.out] at hi;omega)
        rwa [List.getD_eq_getElem?_getD,List.getElem?_eq_getElem hi] at this
      have HF:=Lib.hid hf;clear hf
      obtain rfl : k = 8:=by omega
      go_wp2_with fail;go_ret;exact ⟨⟨_,rfl,by rw [HF.out];rfl⟩,rfl⟩
theorem contains_any (g : Nat) (U : List Int) (hU : U.length = 8) (w : World) (hU2 : ∀ i,i < 8→w.cell? ⟨g,i,none⟩ = some (.int .i64 (U.getD i 0))) :
    Calls Tryz.prog 143 #[.slice (some ⟨g,0,none⟩) 8 8,.func (.func 144) #[] #[]] w fun e w'=>e = .returned (.bool (!(U.all numOk)))∧w = w':=by
  go_enter Tryz.func143,Tryz.ntmps143
  go_wp2_with fail;refine (index_any g 8 U hU w hU2).mono ?_;rintro e w1 ⟨⟨z,rfl,hz⟩,rfl⟩;go_wp2_with fail;go_ret;exact ⟨by rw [← hz];rfl,rfl⟩
end Go.Proofs.YtfpenfgmpbdakaaGreat
