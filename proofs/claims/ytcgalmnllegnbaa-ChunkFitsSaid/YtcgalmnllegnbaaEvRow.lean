import Derived.Test.YtcgalmnllegnbaaEvRight
import Derived.Test.YtcgalmnllegnbaaQuiet
namespace Go.Proofs.Ytcgalmnllegnbaa
set_option linter.unusedVariables false
set_option linter.unusedSimpArgs false
set_option maxRecDepth 100000
open Go.RowKit
open Dot Evt
section
variable {P : Program}
theorem run_loadVar_at (w : World) (a : Addr) (ty : TypeId) (cs : List Value) (d : TypeDesc) (hc : ∀ (j : Nat) v,cs[j]? = some v→w.cell? (a.add j) = some v)
    (hu : P.underlying ty = some d) (hd : d.isRow = true) (hi : (P.info? ty).map (·.size) = some cs.length) :
    (loadVar ty a).run P w = .ok (.agg cs.toArray) w:=by
  have hl : (loadCells a cs.length).run P w = .ok cs.toArray w:=run_loadCells_list (P:=P) w a cs hc
  cases hq : P.info? ty with
  | none=>simp [hq] at hi
  | some i =>
    have hs : i.size = cs.length:=by simpa [hq] using hi
    have hagg : (isAgg ty).run P w = .ok true w:=by
      unfold isAgg
      rw [Sem.run_bind,run_underlying hu w]
      cases d <;> simp_all
    simp [loadVar,Sem.run_bind,hagg,sizeOf,typeInfo,hq,hs,hl]
theorem wpList_lda {ops : Array Oper} {rest : List Oper} {a : Act} {w : World} {Q : Exit→Act→World→Prop} {d : Option Tmp} {ty T : TypeId} {pos : String} {aft : Array Edge} {x : Operand} {ad : Addr} {n : Nat} {cs : Array Value} (hR : RowT P T n)
    (hc : ∀ (j : Nat) v,cs[j]? = some v→w.cell? (ad.add j) = some v) (hn : cs.size = n)
    (h : wpList P ops Q rest (a.put d (.agg cs)) w) (hx : a.eval x = .pointer (some ad)) : wpList P ops Q (⟨d,.load T x,ty,pos,aft,none⟩ :: rest) a w:=by
  obtain ⟨e,hu,hd,hi⟩:=hR;rw [← hn,← Array.length_toList] at hi
  have hcl : ∀ (j : Nat) v,cs.toList[j]? = some v→w.cell? (ad.add j) = some v:=fun j v hj=>hc j v (by simpa using hj)
  refine wpList_plain rfl fun _ hK=>?_
  unfold Oper.wp execOp
  simp only [hx,Instr.loadAt,Instr.sureAddr,Sem.run_bind,Sem.run_pure,Result.andThen_ok,run_loadVar_at w ad T cs.toList e hcl hu hd hi,Array.toArray_toList]
  exact hK _ _ h
end
structure EvV where
  e : Ev
  A : Option Addr
  m : Nat
  c : Nat
def EvV.cs (x : EvV) : Array Value:=ec x.e (.slice x.A x.m x.c)
theorem EvV.size (x : EvV) : x.cs.size = 14:=rfl
theorem EvV.one (x : EvV) : x.cs.all (·.oneCell') = true:=ec_one _ _ _ _
def EvOk (w : World) (B : Nat) (x : EvV) : Prop:=x.e.p.length = 7∧RdD w B x.A x.m x.e.l∧x.m≤10000000000000
def RowEv (w : World) (B : Nat) (A : Option Addr) (n : Nat) (xs : List EvV) : Prop :=
  n = xs.length∧∀ i x,xs[i]? = some x→EvOk w B x∧∃ ad,A = some ad∧ad.block < B∧∀ (j : Nat) v,x.cs[j]? = some v→w.cell? ((ad.add (i * 14)).add j) = some v
section
variable {w w' : World} {B B' : Nat} {A : Option Addr} {n : Nat} {xs : List EvV} {x : EvV}
theorem EvOk.below (h : EvOk w B x) (hb : Below B w w') : EvOk w' B x:=⟨h.1,h.2.1.below hb,h.2.2⟩
theorem EvOk.more (h : EvOk w B x) (hB : B≤B') : EvOk w B' x:=⟨h.1,h.2.1.more hB,h.2.2⟩
theorem RowEv.below (h : RowEv w B A n xs) (hb : Below B w w') : RowEv w' B A n xs:=⟨h.1,fun i x hi=>by
  obtain ⟨h1,ad,e,h2,h3⟩:=h.2 i x hi
  exact ⟨h1.below hb,ad,e,h2,fun j v hv=>(hb.cell (by rw [block_add,block_add];exact h2)).trans (h3 j v hv)⟩⟩
theorem RowEv.more (h : RowEv w B A n xs) (hB : B≤B') : RowEv w B' A n xs:=⟨h.1,fun i x hi=>by
  obtain ⟨h1,ad,e,h2,h3⟩:=h.2 i x hi
  exact ⟨h1.more hB,ad,e,by omega,h3⟩⟩
theorem RowEv.nil (w : World) (B : Nat) (A : Option Addr) : RowEv w B A 0 []:=⟨rfl,fun i d hi=>by simp at hi⟩
end
theorem wrap_one (m : Nat) (h : m≤10000000000000) : wrap64 (1 + (m : Int)) = 1 + (m : Int):=IntWalk.wrap64_in _ ⟨by omega,by omega⟩
theorem wrap_two (S m : Nat) (hs : S≤3000) (h : m≤10000000000000) : wrap64 ((S : Int) + (1 + (m : Int))) = (S : Int) + (1 + (m : Int)):=IntWalk.wrap64_in _ ⟨by omega,by omega⟩
theorem cast_two (S m : Nat) : Value.int .i64 ((S : Int) + (1 + (m : Int))) = .int .i64 ((S + (1 + m) : Nat) : Int):=by
  rw [Int.natCast_add,Int.natCast_add]
  rfl
def evSum (xs : List EvV) : Nat:=(xs.map fun x=>1 + x.m).sum
theorem evSum_take (xs : List EvV) {k : Nat} (h : k < xs.length) : evSum (xs.take (k + 1)) = evSum (xs.take k) + (1 + xs[k].m):=by
  unfold evSum
  rw [take_snoc xs h,List.map_append,List.sum_append]
  simp
set_option maxRecDepth 100000 in
set_option maxHeartbeats 2000000 in
theorem egreat_any (A : Option Addr) (n c : Nat) (xs : List EvV) (B : Nat) (w : World) (hn : n≤4611686018427387904) (hR : RowEv w B A n xs) (hB : B≤w.heap.size) :
    Calls Try.prog 30 #[.slice A n c] w fun e w'=>(∃ G,e = .returned (.bool G)∧(G = false→evSum xs≤3000))∧Below w.heap.size w w':=by
  have HN:=Lib.hid hR.1;have HNB:=Lib.hid hn
  have hRk:=fun (w' : World) (hb : Below w.heap.size w w')=>hR.below (hb.mono hB)
  have HRK:=Lib.hid hRk;clear hRk hn hR
  go_enter Try.func30,Try.ntmps30
  go_wp2_with fail
  go_loopw [3,8] (fun s i wr=>∃ k : Nat,k≤n∧i = .int .i64 k∧s = .int .i64 (evSum (xs.take k) : Nat)∧evSum (xs.take k)≤3000∧Below w.heap.size w wr) (fun _ i _=>n - (intOf i).toNat)
  case atStart=>exact ⟨0,by omega,rfl,rfl,by simp [evSum],Below.refl _ _⟩
  case round =>
    obtain ⟨k,hk,rfl,rfl,hs,gb⟩:=hrel
    by_cases hlt : k < n
    · have hkl : k < xs.length:=by rw [← HN.out];exact hlt
      obtain ⟨hok,ad,hA,hab,hcell⟩:=(HRK.out wr gb).2 k _ (List.getElem?_eq_getElem hkl);have hst:=evSum_take xs hkl
      generalize xs[k] = x at *
      subst hA;have hml : x.m≤10000000000000:=hok.2.2;obtain ⟨S,hS⟩ : ∃ S,S = evSum (xs.take k):=⟨_,rfl⟩;rw [← hS] at hs hst ⊢;have HST:=Lib.hid hst;have hw1:=wrap_one x.m hml;have hw2:=wrap_two S x.m hs hml;obtain ⟨cs,hcs⟩ : ∃ cs,cs = x.cs:=⟨_,rfl⟩;rw [← hcs] at hcell;have HSZ:=Lib.hid (show cs.size = 14 by rw [hcs];rfl);have H1C:=Lib.hid (show cs.all (·.oneCell') = true by rw [hcs];exact x.one);have X13:=Lib.hid (show cs[13]? = some (.slice x.A x.m x.c) by rw [hcs];rfl);have HC:=Lib.hid hcell
      have hk0 : (0 : Int)≤(k : Int):=by omega
      have hkm : (k : Int) < (n : Int):=by omega
      clear hst hml hcs hcell hok hS
      go_upto_region 4 with fail
      go_upto_region 5 with first
        | ((with_reducible refine wpList_lda rowE HC.out HSZ.out ?_ ?_);rotate_left;(rfl))
        | ((with_reducible refine wpList_st rowE (Blk.new _ _ _) HSZ.out ?_ H1C.out ?_ ?_ ?_);(rfl);rotate_left;(rfl);(rfl);intro w6 k6 g6 z6)
      have bA : Below wr.heap.size wr w6:=(((Below.refl _ _).alloc (Nat.le_refl _) _).grown g6 (by simp) (fun q hq=>by injection hq with hq;omega));have gb6:=gb.trans (bA.mono gb.size);obtain ⟨gr,hgr2⟩ : ∃ gr,gr = wr.heap.size:=⟨_,rfl⟩;rw [← hgr2] at k6 ⊢;have t13 : w6.cell? ⟨gr,13,none⟩ = some (.slice x.A x.m x.c):=(k6.cell 13).trans X13.out;clear hgr2 g6 z6 bA gb k6
      by_cases hbig : 3000 < S + (1 + x.m)
      · have hd : decide ((3000 : Int) < (S : Int) + (1 + (x.m : Int))) = true:=decide_eq_true (by omega)
        clear hbig;go_wp2_with fail;go_ret;exact ⟨⟨true,rfl,fun h=>by cases h⟩,gb6⟩
      · have hd : decide ((3000 : Int) < (S : Int) + (1 + (x.m : Int))) = false:=decide_eq_false (by omega)
        have HBG:=Lib.hid hbig;clear hbig;go_wp2_with fail
        go_roundw
        case rel=>exact ⟨k + 1,by omega,num_succ k (by have:=HNB.out;omega),by rw [HST.out,hw2];exact cast_two S x.m,by rw [HST.out];have:=HBG.out;omega,gb6⟩
        case measure=>exact meas_succ k n hlt (by have:=HNB.out;omega)
    · have hkd : decide ((k : Int) < (n : Int)) = false:=decide_eq_false (by omega)
      have hsx : evSum xs≤3000:=by rwa [List.take_of_length_le (by rw [← HN.out];omega)] at hs
      have HSX:=Lib.hid hsx;clear hsx hs;go_wp2_with fail;go_ret;exact ⟨⟨false,rfl,fun _=>HSX.out⟩,gb⟩
end Go.Proofs.Ytcgalmnllegnbaa
