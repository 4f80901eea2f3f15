import Derived.Test.YtcgalmnllegnbaaGreatEvNum
import Derived.Test.YtcgalmnllegnbaaGreatVintRead
import Derived.Test.YtcgalmnllegnbaaGreatFoot
import Derived.Test.YtcgalmnllegnbaaGreatVintMath
import Derived.Test.YtcgalmnllegnbaaGreatEvMath
import Derived.Test.YtcgalmnllegnbaaGreatEvPolW
import Derived.Test.YtcgalmnllegnbaaGreatEvMem
import Derived.Test.YtcgalmnllegnbaaGreatDotRow
namespace Go.Proofs.YtcgalmnllegnbaaGreat
set_option linter.unusedVariables false
set_option linter.unusedSimpArgs false
set_option maxRecDepth 100000
open Go.RowKit
open Dot Evt
theorem rdfail_any (g : Nat) (x : Int) (w : World) :
    Calls Tryz.prog 58 #[.agg #[.pointer (some ⟨g,0,none⟩)],.int .i64 x] w fun e w'=>e = .panicked [{ v:=eflt x,recovered:=false }]∧Below w.heap.size w w':=by
  go_enter Tryz.func58,Tryz.ntmps58
  go_wp2_with fail;exact ⟨rfl,rfl,(Below.refl _ _).alloc (Nat.le_refl _) _⟩
theorem rdend_any (g : Nat) (A : Option Addr) (n c : Nat) (bs : List UInt8) (b : Bool) (w : World) (hR : Rdr w g A n c bs 0) :
    Calls Tryz.prog 61 #[.agg #[.pointer (some ⟨g,0,none⟩)],.bool b] w fun e w'=>(e = if bs = []∧b = true then .returned (.tuple #[]) else .panicked [{ v:=eflt 4,recovered:=false }])∧Below w.heap.size w w':=by
  have hn:=hR.2.1.1;have hR1 : Rdr (w.alloc (.cells #[.pointer (some ⟨g,0,none⟩)] 103)) g A n c bs 0:=hR.below ((Below.refl _ _).alloc (by have:=hR.lt;omega) _);have HR:=Lib.hid hR1;have hb0 : Below w.heap.size w (w.alloc (.cells #[.pointer (some ⟨g,0,none⟩)] 103)):=(Below.refl _ _).alloc (Nat.le_refl _) _
  by_cases h0 : n = 0
  · have hbs : bs = []:=List.eq_nil_of_length_eq_zero (by omega)
    subst h0
    cases b
    case true =>
      rw [if_pos ⟨hbs,rfl⟩];clear hn hR1 hbs hR
      go_enter Tryz.func61,Tryz.ntmps61
      go_wp2_with fail;refine (left_any g A 0 c bs 0 _ HR.out).mono ?_;rintro e w1 ⟨rfl,rfl⟩;go_wp2_with fail
      go_end0
      exact ⟨rfl,hb0⟩
    case false =>
      rw [if_neg (by simp)];clear hn hR1 hbs hR
      go_enter Tryz.func61,Tryz.ntmps61
      go_wp2_with fail;refine (left_any g A 0 c bs 0 _ HR.out).mono ?_;rintro e w1 ⟨rfl,rfl⟩;go_wp2_with fail;refine (rdfail_any g 4 _).mono ?_;rintro e w2 ⟨rfl,b2⟩;go_wp2_with fail;exact ⟨rfl,rfl,hb0.trans (b2.mono hb0.size)⟩
  · have hbs : ¬ bs = []:=fun e=>h0 (by rw [hn,e];rfl)
    have hd : decide (0 < (n : Int)) = true:=decide_eq_true (by omega);have hd2 : decide (0 < n) = true:=decide_eq_true (by omega);rw [if_neg (fun h=>hbs h.1)];clear hn hR1 hbs hR h0
    go_enter Tryz.func61,Tryz.ntmps61
    go_wp2_with fail;refine (left_any g A n c bs 0 _ HR.out).mono ?_;rintro e w1 ⟨rfl,rfl⟩;go_wp2_with fail;refine (rdfail_any g 4 _).mono ?_;rintro e w2 ⟨rfl,b2⟩;go_wp2_with fail;exact ⟨rfl,rfl,hb0.trans (b2.mono hb0.size)⟩
def GB (g b : Nat) : Nat→Prop:=fun k=>k = g∨k = b
def RNum (w : World) (g b : Nat) (T : TypeId) (cs : Array Value) (i : Nat) (bs : List UInt8) (e : Ending) (w' : World) : Prop :=
  Only (GB g b) w w'∧match Vint.dec bs with
    | .ok (x,r)=>e = .returned (.tuple #[])∧(∃ A c,Rdr w' g A r.length c r 0)∧Blk w' b T (cs.setIfInBounds i (.int .i64 (x : Nat)))
    | .error x=>e = .panicked [{ v:=eflt (x : Nat),recovered:=false }]
theorem RNum.good {w w' : World} {g b : Nat} {T : TypeId} {cs : Array Value} {i : Nat} {bs : List UInt8} {e : Ending} (h : RNum w g b T cs i bs e w') {x : Nat} {r : List UInt8} (hd : Vint.dec bs = .ok (x,r)) :
    e = .returned (.tuple #[])∧(∃ A c,Rdr w' g A r.length c r 0)∧Blk w' b T (cs.setIfInBounds i (.int .i64 (x : Nat)))∧Only (GB g b) w w':=by
  obtain ⟨h1,h2⟩:=h;rw [hd] at h2;exact ⟨h2.1,h2.2.1,h2.2.2,h1⟩
theorem RNum.bad {w w' : World} {g b : Nat} {T : TypeId} {cs : Array Value} {i : Nat} {bs : List UInt8} {e : Ending} (h : RNum w g b T cs i bs e w') {x : Nat} (hd : Vint.dec bs = .error x) :
    e = .panicked [{ v:=eflt (x : Nat),recovered:=false }]∧Only (GB g b) w w':=by
  obtain ⟨h1,h2⟩:=h;rw [hd] at h2;exact ⟨h2,h1⟩
theorem rdnum_any (g b : Nat) (T : TypeId) (cs : Array Value) (i : Nat) (A : Option Addr) (n c : Nat) (bs : List UInt8) (w : World) (hR : Rdr w g A n c bs 0) (hb : Blk w b T cs) (hgb : g < b) (hi : i < cs.size) :
    Calls Tryz.prog 57 #[.agg #[.pointer (some ⟨g,0,none⟩)],.pointer (some ⟨b,i,none⟩)] w (RNum w g b T cs i bs):=by
  obtain ⟨W,hW⟩ : ∃ W,W = w.alloc (.cells #[.pointer (some ⟨g,0,none⟩)] 103):=⟨_,rfl⟩;obtain ⟨s,hs⟩ : ∃ s,s = w.heap.size:=⟨_,rfl⟩
  have hBW : Below w.heap.size w W:=by rw [hW];exact (Below.refl _ _).alloc (Nat.le_refl _) _
  have hRW : Rdr W g A n c bs 0:=hR.below (hBW.mono (by have:=hR.lt;omega));have hbW:=hb.below hBW hb.lt
  have ks : Blk W s 103 #[.pointer (some ⟨g,0,none⟩)]:=by rw [hW,hs];exact Blk.new _ _ _
  have hbs : b < s:=by rw [hs];exact hb.lt
  have o0 : Only (GB g b) w W:=Only.of_below _ hBW;have HW:=Lib.hid hW;have HS:=Lib.hid hs;have HI:=Lib.hid hi;have ib:=int_any g A n c bs 0 W hRW;have HIB:=Lib.hid ib;clear hW hs hi hR hb ib;have hc0:=ks.cell 0
  go_enter Tryz.func57,Tryz.ntmps57
  go_upto_region 1 with fail
  rw [← HW.out,← HS.out];have hc0 : W.cell? ⟨s,0,none⟩ = some (.pointer (some ⟨g,0,none⟩)):=ks.cell 0;go_wp2_with fail;refine HIB.out.mono ?_;rintro e w1 ⟨rfl,g1,A1,c1,r1⟩;have b1:=hbW.grown g1 (by simp;omega);have s1:=ks.grown g1 (by simp;omega);have o1:=o0.trans (Only.of_grown (F:=GB g b) g1 (.inl rfl)) (Grows.refl _ _);have HI1:=HI.out
  have cb : w1.cell? ⟨b,i,none⟩ = some cs[i]:=by rw [b1.cell];exact Array.getElem?_eq_getElem HI1
  have fb:=b1.free i;have b2:=b1.set_ i (.int .i64 ((Vint.intM bs 0).1 : Nat));have s2:=s1.far (p:=⟨b,i,none⟩) (by simp;omega) (.int .i64 ((Vint.intM bs 0).1 : Nat));have r2:=r1.below (w':=w1.setCell ⟨b,i,none⟩ (.int .i64 ((Vint.intM bs 0).1 : Nat))) ((Below.refl _ _).setCell (by show g + 1≤b;omega) _);have o2:=o1.setCell (p:=⟨b,i,none⟩) (.inl (.inr rfl)) (.int .i64 ((Vint.intM bs 0).1 : Nat));clear hbW o0 o1 g1 r1 s1 HIB hBW hRW ks hc0
  generalize cs[i] = v at cb
  cases hd : Vint.dec bs with
  | ok p =>
    obtain ⟨x,r⟩:=p;have hI:=Vint.intM_ok hd;rw [hI] at b2 s2 r2 o2 ⊢;have HD:=Lib.hid hd;clear hd hI
    go_upto_region 2 with fail
    refine nameW ?_;intro w2 hw2;rw [← hw2] at b2 s2 r2 o2;have c2 : w2.cell? ⟨s,0,none⟩ = some (.pointer (some ⟨g,0,none⟩)):=s2.cell 0;clear hw2 cb fb b1;go_wp2_with fail;refine (err_any g A1 r.length c1 r 0 w2 r2).mono ?_;rintro e w3 ⟨rfl,rfl⟩;go_wp2_with fail
    go_end0
    refine ⟨o2,?_⟩;rw [HD.out];exact ⟨rfl,⟨A1,c1,r2⟩,b2⟩
  | error x =>
    have hI:=Vint.intM_bad hd;have hx:=Vint.dec_err hd;rw [hI] at b2 s2 r2 o2 ⊢;rw [show ((0 : Nat) : Int) = 0 from rfl] at b2 s2 r2 o2;have HD:=Lib.hid hd
    have hne : (((x : Nat) : Int) == 0) = false:=by rw [beq_eq_false_iff_ne];omega
    have hne2 : (((x : Nat) : Int) != 0) = true:=by rw [bne_iff_ne];omega
    clear hd hI hx
    go_upto_region 2 with fail
    refine nameW ?_;intro w2 hw2;rw [← hw2] at b2 s2 r2 o2;have c2 : w2.cell? ⟨s,0,none⟩ = some (.pointer (some ⟨g,0,none⟩)):=s2.cell 0;clear hw2 cb fb b1;go_wp2_with fail;refine (err_any g A1 _ c1 bs x w2 r2).mono ?_;rintro e w3 ⟨rfl,rfl⟩;go_wp2_with fail;refine (rdfail_any g x _).mono ?_;rintro e w4 ⟨rfl,b4⟩;go_wp2_with fail;refine ⟨rfl,o2.then_below (b4.mono o2.size),?_⟩;rw [HD.out]
end Go.Proofs.YtcgalmnllegnbaaGreat

namespace Go.Proofs.YtcgalmnllegnbaaGreat.Evt
set_option linter.unusedVariables false
set_option linter.unusedSimpArgs false
set_option maxRecDepth 100000
open Dot
def decs : Nat→List UInt8→Except Nat (List Nat × List UInt8)
  | 0,l=>.ok ([],l)
  | k + 1,l=>match Vint.dec l with
    | .error x=>.error x
    | .ok (n,r)=>match decs k r with
      | .error x=>.error x
      | .ok (ns,r')=>.ok (n :: ns,r')
def decD : Nat→List UInt8→Except Nat (List Dt × List UInt8)
  | 0,l=>.ok ([],l)
  | k + 1,l=>match decD k l with
    | .error x=>.error x
    | .ok (ds,r)=>match Vint.dec r with
      | .error x=>.error x
      | .ok (n,r1)=>match Vint.dec r1 with
        | .error x=>.error x
        | .ok (q,r2)=>.ok (ds ++ [((n : Int),(q : Int))],r2)
def decL (l : List UInt8) : Except Nat (List Dt × List UInt8) :=
  match Vint.dec l with
  | .error x=>.error x
  | .ok (m,r)=>if 96 < m then .error 6 else decD m r
def decK (n q t k wk : Nat) (l : List UInt8) : Except Nat (Ev × List UInt8) :=
  if k = 1 then
    match Vint.dec l with
    | .error x=>.error x
    | .ok (v,r)=>.ok (⟨((n : Int),(q : Int)),t,k,wk,v,p0,[]⟩,r)
  else if k = 2 then
    match decs 7 l with
    | .error x=>.error x
    | .ok (p,r)=>match decL r with
      | .error x=>.error x
      | .ok (ds,r')=>.ok (⟨((n : Int),(q : Int)),t,k,wk,0,p.map fun x : Nat=>(x : Int),ds⟩,r')
  else
    match decL l with
    | .error x=>.error x
    | .ok (ds,r')=>.ok (⟨((n : Int),(q : Int)),t,k,wk,0,p0,ds⟩,r')
def decE (l : List UInt8) : Except Nat (Ev × List UInt8) :=
  match Vint.dec l with
  | .error x=>.error x
  | .ok (n,l1)=>match Vint.dec l1 with
    | .error x=>.error x
    | .ok (q,l2)=>match Vint.dec l2 with
      | .error x=>.error x
      | .ok (t,l3)=>match Vint.dec l3 with
        | .error x=>.error x
        | .ok (k,l4)=>if 1≤k∧k≤3 then
            match Vint.dec l4 with
            | .error x=>.error x
            | .ok (wk,l5)=>decK n q t k wk l5
          else .error 4
theorem decs_len : ∀ (k : Nat) (l : List UInt8) (ns : List Nat) (r : List UInt8),decs k l = .ok (ns,r)→ns.length = k:=by
  intro k
  induction k with
  | zero=>intro l ns r h;simp [decs] at h;rw [h.1];rfl
  | succ k ih =>
    intro l ns r h
    unfold decs at h
    split at h
    · cases h
    · split at h
      · cases h
      · rename_i h2
        injection h with h
        injection h with h _
        rw [← h,List.length_cons,ih _ _ _ h2]
theorem decs_suf : ∀ (k : Nat) (l : List UInt8) (ns : List Nat) (r : List UInt8),decs k l = .ok (ns,r)→l = ns.flatMap Vint.enc ++ r∧∀ n ∈ ns,n≤Vint.top:=by
  intro k
  induction k with
  | zero=>intro l ns r h;simp [decs] at h;obtain ⟨rfl,rfl⟩:=h;exact ⟨rfl,by simp⟩
  | succ k ih =>
    intro l ns r h
    unfold decs at h
    split at h
    · cases h
    · rename_i n r1 h1
      split at h
      · cases h
      · rename_i ns' r' h2
        injection h with h
        injection h with h h'
        subst h h';obtain ⟨e1,e2⟩:=Vint.dec_ok h1;obtain ⟨e3,e4⟩:=ih _ _ _ h2;refine ⟨by rw [e1,e3];simp,fun x hx=>?_⟩
        rcases List.mem_cons.1 hx with rfl | hx
        · exact e2
        · exact e4 x hx
theorem decD_err {k : Nat} {l : List UInt8} {x : Nat} (h : decD k l = .error x) : ∀ m,k≤m→decD m l = .error x:=by
  intro m
  induction m with
  | zero => intro hk; obtain rfl : k = 0 := by omega
            exact h
  | succ m ih =>
    intro hk
    by_cases e : k = m + 1
    · rw [← e];exact h
    · rw [decD,ih (by omega)]
theorem decD_len : ∀ (k : Nat) (l : List UInt8) (ds : List Dt) (r : List UInt8),decD k l = .ok (ds,r)→ds.length = k:=by
  intro k
  induction k with
  | zero=>intro l ds r h;simp [decD] at h;rw [h.1];rfl
  | succ k ih =>
    intro l ds r h
    unfold decD at h
    split at h
    · cases h
    · rename_i h1
      split at h
      · cases h
      · split at h
        · cases h
        · injection h with h
          injection h with h _
          rw [← h,List.length_append,ih _ _ _ h1]
          rfl
def encD (l : List Dt) : List UInt8:=l.flatMap fun d=>Vint.enc d.1.toNat ++ Vint.enc d.2.toNat
theorem decD_suf : ∀ (k : Nat) (l : List UInt8) (ds : List Dt) (r : List UInt8),decD k l = .ok (ds,r)→l = encD ds ++ r∧∀ d ∈ ds,(0≤d.1∧d.1≤top)∧0≤d.2∧d.2≤top:=by
  intro k
  induction k with
  | zero=>intro l ds r h;simp [decD] at h;obtain ⟨rfl,rfl⟩:=h;exact ⟨rfl,by simp⟩
  | succ k ih =>
    intro l ds r h
    unfold decD at h
    split at h
    · cases h
    · rename_i ds' r' h0
      split at h
      · cases h
      · rename_i n r1 h1
        split at h
        · cases h
        · rename_i q r2 h2
          injection h with h
          injection h with h h'
          subst h h';obtain ⟨e1,e2⟩:=Vint.dec_ok h1;obtain ⟨e3,e4⟩:=Vint.dec_ok h2;obtain ⟨e5,e6⟩:=ih _ _ _ h0;have t1 : Vint.top = 1099511627776:=rfl;have t2 : top = 1099511627776:=rfl;refine ⟨by rw [e5,e1,e3];simp [encD],fun d hd=>?_⟩
          rcases List.mem_append.1 hd with hd | hd
          · exact e6 d hd
          · simp at hd
            subst hd
            simp only
            omega
theorem decL_suf {l : List UInt8} {ds : List Dt} {r : List UInt8} (h : decL l = .ok (ds,r)) : l = Vint.enc ds.length ++ (encD ds ++ r)∧ds.length≤96∧∀ d ∈ ds,(0≤d.1∧d.1≤top)∧0≤d.2∧d.2≤top:=by
  unfold decL at h
  split at h
  · cases h
  · rename_i m r1 h1
    split at h
    · cases h
    · rename_i hm
      obtain ⟨e1,_⟩:=Vint.dec_ok h1;obtain ⟨e3,e4⟩:=decD_suf _ _ _ _ h;have e5:=decD_len _ _ _ _ h;subst e5;exact ⟨by rw [e1,e3],by omega,e4⟩
end Go.Proofs.YtcgalmnllegnbaaGreat.Evt

namespace Go.Proofs.YtcgalmnllegnbaaGreat
set_option linter.unusedVariables false
set_option linter.unusedSimpArgs false
set_option maxRecDepth 100000
open Go.RowKit
open Dot Evt
abbrev rnumV (g : Nat) : Value:=.func (.method "murmur/event.number") #[.iface 103 (.agg #[.pointer (some ⟨g,0,none⟩)])] #[]
theorem gb_trans {g b : Nat} {w w1 w2 : World} (h : Only (GB g b) w w1) (k : Only (GB g b) w1 w2) : Only (GB g b) w w2:=h.trans k (Grows.refl _ _)
theorem gb_new {g b r : Nat} {w w1 w2 : World} (h : Only (GB g b) w w1) (k : Only (GB g r) w1 w2) (hr : w.heap.size≤r) : Only (GB g b) w w2:=h.trans k fun i hi=>by
  rcases hi with rfl | rfl
  · exact .inl (.inl rfl)
  · exact .inr hr
def PolR (w : World) (g b : Nat) (v0 v1 v2 v3 v4 v5 v13 : Value) (bs : List UInt8) (e : Ending) (w' : World) : Prop :=
  Only (GB g b) w w'∧((∃ x0 x1 x2 x3 x4 x5 x6 r,decs 7 bs = .ok ([x0,x1,x2,x3,x4,x5,x6],r)∧e = .returned (.tuple #[])∧(∃ A c,Rdr w' g A r.length c r 0) ∧
      Blk w' b 109 #[v0,v1,v2,v3,v4,v5,.int .i64 (x0 : Nat),.int .i64 (x1 : Nat),.int .i64 (x2 : Nat),.int .i64 (x3 : Nat),.int .i64 (x4 : Nat),.int .i64 (x5 : Nat),.int .i64 (x6 : Nat),v13])
   ∨∃ x,decs 7 bs = .error x∧e = .panicked [{ v:=eflt (x : Nat),recovered:=false }])
set_option maxRecDepth 100000 in
set_option maxHeartbeats 2000000 in
theorem polr_any (b g : Nat) (v0 v1 v2 v3 v4 v5 u0 u1 u2 u3 u4 u5 u6 v13 : Value) (A0 : Option Addr) (n0 c0 : Nat) (bs : List UInt8) (w : World) (h : Rdr w g A0 n0 c0 bs 0) (hb : Blk w b 109 #[v0,v1,v2,v3,v4,v5,u0,u1,u2,u3,u4,u5,u6,v13]) (hne : g < b) :
    Calls Tryz.prog 89 #[.pointer (some ⟨b,6,none⟩),rnumV g] w (PolR w g b v0 v1 v2 v3 v4 v5 v13 bs):=by
  have HGB:=Lib.hid hne;have hbl:=hb.lt
  have hm : ∀ w,(method 246 103 (.agg #[.pointer (some ⟨g,0,none⟩)]) "murmur/event.number").run Tryz.prog w = .ok (57,.agg #[.pointer (some ⟨g,0,none⟩)]) w:=fun w=>by kernel_rfl
  clear hne
  have hix0 : ∀ w,(Instr.index 151 (.agg #[.pointer (some ⟨b,6,none⟩),.pointer (some ⟨b,7,none⟩),.pointer (some ⟨b,8,none⟩),.pointer (some ⟨b,9,none⟩),.pointer (some ⟨b,10,none⟩),.pointer (some ⟨b,11,none⟩),.pointer (some ⟨b,12,none⟩)]) (.int .i64 0)).run Tryz.prog w = .ok (.pointer (some ⟨b,6,none⟩)) w:=fun w=>by kernel_rfl
  have hix1 : ∀ w,(Instr.index 151 (.agg #[.pointer (some ⟨b,6,none⟩),.pointer (some ⟨b,7,none⟩),.pointer (some ⟨b,8,none⟩),.pointer (some ⟨b,9,none⟩),.pointer (some ⟨b,10,none⟩),.pointer (some ⟨b,11,none⟩),.pointer (some ⟨b,12,none⟩)]) (.int .i64 1)).run Tryz.prog w = .ok (.pointer (some ⟨b,7,none⟩)) w:=fun w=>by kernel_rfl
  have hix2 : ∀ w,(Instr.index 151 (.agg #[.pointer (some ⟨b,6,none⟩),.pointer (some ⟨b,7,none⟩),.pointer (some ⟨b,8,none⟩),.pointer (some ⟨b,9,none⟩),.pointer (some ⟨b,10,none⟩),.pointer (some ⟨b,11,none⟩),.pointer (some ⟨b,12,none⟩)]) (.int .i64 2)).run Tryz.prog w = .ok (.pointer (some ⟨b,8,none⟩)) w:=fun w=>by kernel_rfl
  have hix3 : ∀ w,(Instr.index 151 (.agg #[.pointer (some ⟨b,6,none⟩),.pointer (some ⟨b,7,none⟩),.pointer (some ⟨b,8,none⟩),.pointer (some ⟨b,9,none⟩),.pointer (some ⟨b,10,none⟩),.pointer (some ⟨b,11,none⟩),.pointer (some ⟨b,12,none⟩)]) (.int .i64 3)).run Tryz.prog w = .ok (.pointer (some ⟨b,9,none⟩)) w:=fun w=>by kernel_rfl
  have hix4 : ∀ w,(Instr.index 151 (.agg #[.pointer (some ⟨b,6,none⟩),.pointer (some ⟨b,7,none⟩),.pointer (some ⟨b,8,none⟩),.pointer (some ⟨b,9,none⟩),.pointer (some ⟨b,10,none⟩),.pointer (some ⟨b,11,none⟩),.pointer (some ⟨b,12,none⟩)]) (.int .i64 4)).run Tryz.prog w = .ok (.pointer (some ⟨b,10,none⟩)) w:=fun w=>by kernel_rfl
  have hix5 : ∀ w,(Instr.index 151 (.agg #[.pointer (some ⟨b,6,none⟩),.pointer (some ⟨b,7,none⟩),.pointer (some ⟨b,8,none⟩),.pointer (some ⟨b,9,none⟩),.pointer (some ⟨b,10,none⟩),.pointer (some ⟨b,11,none⟩),.pointer (some ⟨b,12,none⟩)]) (.int .i64 5)).run Tryz.prog w = .ok (.pointer (some ⟨b,11,none⟩)) w:=fun w=>by kernel_rfl
  have hix6 : ∀ w,(Instr.index 151 (.agg #[.pointer (some ⟨b,6,none⟩),.pointer (some ⟨b,7,none⟩),.pointer (some ⟨b,8,none⟩),.pointer (some ⟨b,9,none⟩),.pointer (some ⟨b,10,none⟩),.pointer (some ⟨b,11,none⟩),.pointer (some ⟨b,12,none⟩)]) (.int .i64 6)).run Tryz.prog w = .ok (.pointer (some ⟨b,12,none⟩)) w:=fun w=>by kernel_rfl
  go_enter Tryz.func89,Tryz.ntmps89
  go_wp2_with fail
  go_region
  go_wp2_with fail;have h0 : Rdr w.drew g A0 n0 c0 bs 0:=h;have b0 : Blk w.drew b 109 #[v0,v1,v2,v3,v4,v5,u0,u1,u2,u3,u4,u5,u6,v13]:=hb;have o0 : Only (GB g b) w w.drew:=⟨rfl,rfl,rfl,Nat.le_refl _,fun _ _ _=>rfl⟩;have l0e : bs = bs:=rfl;clear h hb l0e;refine wp_loop_rounds 8 ?_;rw [rounds_succ];go_wp2_with fail;refine (rdnum_any g b 109 _ 6 A0 n0 c0 bs _ h0 b0 HGB.out (by simp)).mono ?_;intro e w1 hn
  rcases hd : Vint.dec bs with x | ⟨x0,l1⟩
  · obtain ⟨rfl,oo⟩:=hn.bad hd
    have HE:=Lib.hid (show decs 7 bs = .error x by simp [decs,hd]);have HO:=Lib.hid (gb_trans o0 oo);clear hd hn oo;go_wp2_with fail;exact ⟨rfl,HO.out,.inr ⟨x,HE.out,rfl⟩⟩
  obtain ⟨rfl,⟨A1,c1,h1⟩,bb,oo⟩:=hn.good hd;have b1 : Blk w1 b 109 #[v0,v1,v2,v3,v4,v5,.int .i64 (x0 : Nat),u1,u2,u3,u4,u5,u6,v13]:=bb;have o1:=gb_trans o0 oo;have HD0:=Lib.hid hd;clear hd hn oo bb h0 b0 o0;go_wp2_with fail;rw [rounds_succ];go_wp2_with fail;refine (rdnum_any g b 109 _ 7 A1 _ c1 l1 _ h1 b1 HGB.out (by simp)).mono ?_;intro e w2 hn
  rcases hd : Vint.dec l1 with x | ⟨x1,l2⟩
  · obtain ⟨rfl,oo⟩:=hn.bad hd
    have HE:=Lib.hid (show decs 7 bs = .error x by simp [decs,HD0.out,hd]);have HO:=Lib.hid (gb_trans o1 oo);clear hd hn oo;go_wp2_with fail;exact ⟨rfl,HO.out,.inr ⟨x,HE.out,rfl⟩⟩
  obtain ⟨rfl,⟨A2,c2,h2⟩,bb,oo⟩:=hn.good hd;have b2 : Blk w2 b 109 #[v0,v1,v2,v3,v4,v5,.int .i64 (x0 : Nat),.int .i64 (x1 : Nat),u2,u3,u4,u5,u6,v13]:=bb;have o2:=gb_trans o1 oo;have HD1:=Lib.hid hd;clear hd hn oo bb h1 b1 o1;go_wp2_with fail;rw [rounds_succ];go_wp2_with fail;refine (rdnum_any g b 109 _ 8 A2 _ c2 l2 _ h2 b2 HGB.out (by simp)).mono ?_;intro e w3 hn
  rcases hd : Vint.dec l2 with x | ⟨x2,l3⟩
  · obtain ⟨rfl,oo⟩:=hn.bad hd
    have HE:=Lib.hid (show decs 7 bs = .error x by simp [decs,HD0.out,HD1.out,hd]);have HO:=Lib.hid (gb_trans o2 oo);clear hd hn oo;go_wp2_with fail;exact ⟨rfl,HO.out,.inr ⟨x,HE.out,rfl⟩⟩
  obtain ⟨rfl,⟨A3,c3,h3⟩,bb,oo⟩:=hn.good hd;have b3 : Blk w3 b 109 #[v0,v1,v2,v3,v4,v5,.int .i64 (x0 : Nat),.int .i64 (x1 : Nat),.int .i64 (x2 : Nat),u3,u4,u5,u6,v13]:=bb;have o3:=gb_trans o2 oo;have HD2:=Lib.hid hd;clear hd hn oo bb h2 b2 o2;go_wp2_with fail;rw [rounds_succ];go_wp2_with fail;refine (rdnum_any g b 109 _ 9 A3 _ c3 l3 _ h3 b3 HGB.out (by simp)).mono ?_;intro e w4 hn
  rcases hd : Vint.dec l3 with x | ⟨x3,l4⟩
  · obtain ⟨rfl,oo⟩:=hn.bad hd
    have HE:=Lib.hid (show decs 7 bs = .error x by simp [decs,HD0.out,HD1.out,HD2.out,hd]);have HO:=Lib.hid (gb_trans o3 oo);clear hd hn oo;go_wp2_with fail;exact ⟨rfl,HO.out,.inr ⟨x,HE.out,rfl⟩⟩
  obtain ⟨rfl,⟨A4,c4,h4⟩,bb,oo⟩:=hn.good hd;have b4 : Blk w4 b 109 #[v0,v1,v2,v3,v4,v5,.int .i64 (x0 : Nat),.int .i64 (x1 : Nat),.int .i64 (x2 : Nat),.int .i64 (x3 : Nat),u4,u5,u6,v13]:=bb;have o4:=gb_trans o3 oo;have HD3:=Lib.hid hd;clear hd hn oo bb h3 b3 o3;go_wp2_with fail;rw [rounds_succ];go_wp2_with fail;refine (rdnum_any g b 109 _ 10 A4 _ c4 l4 _ h4 b4 HGB.out (by simp)).mono ?_;intro e w5 hn
  rcases hd : Vint.dec l4 with x | ⟨x4,l5⟩
  · obtain ⟨rfl,oo⟩:=hn.bad hd
    have HE:=Lib.hid (show decs 7 bs = .error x by simp [decs,HD0.out,HD1.out,HD2.out,HD3.out,hd]);have HO:=Lib.hid (gb_trans o4 oo);clear hd hn oo;go_wp2_with fail;exact ⟨rfl,HO.out,.inr ⟨x,HE.out,rfl⟩⟩
  obtain ⟨rfl,⟨A5,c5,h5⟩,bb,oo⟩:=hn.good hd;have b5 : Blk w5 b 109 #[v0,v1,v2,v3,v4,v5,.int .i64 (x0 : Nat),.int .i64 (x1 : Nat),.int .i64 (x2 : Nat),.int .i64 (x3 : Nat),.int .i64 (x4 : Nat),u5,u6,v13]:=bb;have o5:=gb_trans o4 oo;have HD4:=Lib.hid hd;clear hd hn oo bb h4 b4 o4;go_wp2_with fail;rw [rounds_succ];go_wp2_with fail;refine (rdnum_any g b 109 _ 11 A5 _ c5 l5 _ h5 b5 HGB.out (by simp)).mono ?_;intro e w6 hn
  rcases hd : Vint.dec l5 with x | ⟨x5,l6⟩
  · obtain ⟨rfl,oo⟩:=hn.bad hd
    have HE:=Lib.hid (show decs 7 bs = .error x by simp [decs,HD0.out,HD1.out,HD2.out,HD3.out,HD4.out,hd]);have HO:=Lib.hid (gb_trans o5 oo);clear hd hn oo;go_wp2_with fail;exact ⟨rfl,HO.out,.inr ⟨x,HE.out,rfl⟩⟩
  obtain ⟨rfl,⟨A6,c6,h6⟩,bb,oo⟩:=hn.good hd;have b6 : Blk w6 b 109 #[v0,v1,v2,v3,v4,v5,.int .i64 (x0 : Nat),.int .i64 (x1 : Nat),.int .i64 (x2 : Nat),.int .i64 (x3 : Nat),.int .i64 (x4 : Nat),.int .i64 (x5 : Nat),u6,v13]:=bb;have o6:=gb_trans o5 oo;have HD5:=Lib.hid hd;clear hd hn oo bb h5 b5 o5;go_wp2_with fail;rw [rounds_succ];go_wp2_with fail;refine (rdnum_any g b 109 _ 12 A6 _ c6 l6 _ h6 b6 HGB.out (by simp)).mono ?_;intro e w7 hn
  rcases hd : Vint.dec l6 with x | ⟨x6,l7⟩
  · obtain ⟨rfl,oo⟩:=hn.bad hd
    have HE:=Lib.hid (show decs 7 bs = .error x by simp [decs,HD0.out,HD1.out,HD2.out,HD3.out,HD4.out,HD5.out,hd]);have HO:=Lib.hid (gb_trans o6 oo);clear hd hn oo;go_wp2_with fail;exact ⟨rfl,HO.out,.inr ⟨x,HE.out,rfl⟩⟩
  obtain ⟨rfl,⟨A7,c7,h7⟩,bb,oo⟩:=hn.good hd;have b7 : Blk w7 b 109 #[v0,v1,v2,v3,v4,v5,.int .i64 (x0 : Nat),.int .i64 (x1 : Nat),.int .i64 (x2 : Nat),.int .i64 (x3 : Nat),.int .i64 (x4 : Nat),.int .i64 (x5 : Nat),.int .i64 (x6 : Nat),v13]:=bb;have o7:=gb_trans o6 oo;have HD6:=Lib.hid hd;clear hd hn oo bb h6 b6 o6;go_wp2_with fail;rw [rounds_succ];go_wp2_with fail
  go_end0
  exact ⟨o7,.inl ⟨x0,x1,x2,x3,x4,x5,x6,l7,by simp [decs,HD0.out,HD1.out,HD2.out,HD3.out,HD4.out,HD5.out,HD6.out],rfl,⟨A7,c7,h7⟩,b7⟩⟩
def dzs (ds : List Dt) (m : Nat) : Array Value:=(dcs ds ++ List.replicate ((m - ds.length) * 2) (Value.int .i64 0)).toArray
theorem dzs_size {ds : List Dt} {m : Nat} (h : ds.length≤m) : (dzs ds m).size = m * 2:=by
  unfold dzs
  rw [List.size_toArray,List.length_append,dcs_len,List.length_replicate]
  omega
theorem dzs_full {ds : List Dt} {m : Nat} (h : ds.length = m) : dzs ds m = (dcs ds).toArray:=by
  unfold dzs
  rw [show (m - ds.length) * 2 = 0 by omega]
  simp
theorem dzs_set (ds : List Dt) (m : Nat) (x y : Int) (h : ds.length < m) : ((dzs ds m).setIfInBounds (ds.length * 2) (.int .i64 x)).setIfInBounds (ds.length * 2 + 1) (.int .i64 y) = dzs (ds ++ [(x,y)]) m:=by
  apply Array.toList_inj.1
  rw [Array.toList_setIfInBounds,Array.toList_setIfInBounds]
  show ((dcs ds ++ List.replicate ((m - ds.length) * 2) (Value.int .i64 0)).set (ds.length * 2) _).set (ds.length * 2 + 1) _ = dcs (ds ++ [(x,y)]) ++ List.replicate ((m - (ds ++ [(x,y)]).length) * 2) (.int .i64 0)
  obtain ⟨k,hk⟩ : ∃ k,(m - ds.length) * 2 = k + 1 + 1:=⟨(m - ds.length) * 2 - 2,by omega⟩
  have hk2 : (m - (ds ++ [(x,y)]).length) * 2 = k:=by rw [List.length_append];simp;omega
  rw [hk,hk2,dcs_app,List.replicate_succ,List.replicate_succ,List.set_append,if_neg (by rw [dcs_len];omega),dcs_len,Nat.sub_self,List.set_cons_zero,List.set_append,if_neg (by rw [dcs_len];omega),dcs_len,show ds.length * 2 + 1 - ds.length * 2 = 0 + 1 by omega,List.set_cons_succ,List.set_cons_zero]
  simp [dcs]
theorem run_makeD (W : World) (m : Nat) (hm : m≤1000000) : (Instr.makeSlice 26 (.int .i64 (m : Int)) (.int .i64 (m : Int))).run Tryz.prog W = .ok (.slice (some ⟨W.heap.size,0,none⟩) m m) (W.alloc (.cells (dzs [] m) 100)):=by
  obtain ⟨i0,hi,hz0,hz1,hz2⟩:=info_parts infoD;have h:=run_make (P:=Tryz.prog) (w:=W) 26 100 i0 (.agg #[.int .i64 0,.int .i64 0]) Tryz.underlying26 hi hz0 .i64 .i64 m m (by omega) (by omega) (by rw [hz2];omega) (by omega);rw [hz1] at h
  simp only [Int.toNat_natCast] at h
  rw [h]
  have e : madeCells (Value.agg #[.int .i64 0,.int .i64 0]).cells (m * 2) = dzs [] m:=by
    have hz:=dzs_size (ds:=[]) (m:=m) (Nat.zero_le _)
    apply Array.ext_getElem?
    intro i
    by_cases hi : i < m * 2
    · have h2 : (dzs [] m)[i]? = some (.int .i64 0):=by
        show ((dcs [] ++ List.replicate ((m - 0) * 2) (Value.int .i64 0)).toArray)[i]? = _
        rw [List.getElem?_toArray]
        simp [dcs,hi]
      rw [h2]
      unfold madeCells
      rw [Array.getElem?_map,Array.getElem?_range,if_pos hi,Option.map_some]
      have h3 : i % 2 = 0∨i % 2 = 1:=by omega
      show some ((#[Value.int .i64 0,Value.int .i64 0] : Array Value)[i % 2]!) = _
      rcases h3 with h3 | h3 <;> rw [h3] <;> rfl
    · rw [Array.getElem?_eq_none (by rw [size_madeCells];omega),Array.getElem?_eq_none (by rw [hz];omega)]
  rw [e]
theorem own_dzs {w : World} {base d m : Nat} {ds : List Dt} (h : Blk w d 100 (dzs ds m)) (hl : ds.length = m) (hb : base≤d) (hm : m≤1000000) : OwnD w base (some ⟨d,0,none⟩) m m ds:=by
  rw [dzs_full hl] at h;refine ⟨hl.symm,by rw [dcs_len,hl],.inr ⟨d,m,_,rfl,hb,h,Nat.le_refl _,by unfold maxLen;omega,?_,?_⟩⟩
  · rw [List.size_toArray,dcs_len,hl]
  · exact List.take_of_length_le (by rw [dcs_len,hl];omega)
def ThrR (w : World) (g b : Nat) (bs : List UInt8) (e : Ending) (w' : World) : Prop :=
  Only (GB g b) w w'∧((∃ x r,decE bs = .ok (x,r)∧e = .returned (.tuple #[])∧(∃ A c,Rdr w' g A r.length c r 0)∧∃ A' m' c',Blk w' b 109 (ec x (.slice A' m' c'))∧OwnD w' w.heap.size A' m' c' x.l)
   ∨∃ x,decE bs = .error x∧e = .panicked [{ v:=eflt (x : Nat),recovered:=false }])
set_option maxRecDepth 100000 in
set_option maxHeartbeats 4000000 in
theorem thrr_any (b g : Nat) (A0 : Option Addr) (n0 c0 : Nat) (bs : List UInt8) (w : World) (h : Rdr w g A0 n0 c0 bs 0) (hb : Blk w b 109 #[.int .i64 0,.int .i64 0,.int .i64 0,.int .i64 0,.int .i64 0,.int .i64 0,.int .i64 0,.int .i64 0,.int .i64 0,.int .i64 0,.int .i64 0,.int .i64 0,.int .i64 0,.slice none 0 0]) (hne : g < b) :
    Calls Tryz.prog 59 #[.pointer (some ⟨b,0,none⟩),.iface 103 (.agg #[.pointer (some ⟨g,0,none⟩)])] w (ThrR w g b bs):=by
  have HGB:=Lib.hid hne;have hbl:=hb.lt;have HBL:=Lib.hid hbl
  have hm : ∀ w,(method 246 103 (.agg #[.pointer (some ⟨g,0,none⟩)]) "murmur/event.number").run Tryz.prog w = .ok (57,.agg #[.pointer (some ⟨g,0,none⟩)]) w:=fun w=>by kernel_rfl
  have hmF : ∀ w,(method 246 103 (.agg #[.pointer (some ⟨g,0,none⟩)]) "murmur/event.fail").run Tryz.prog w = .ok (58,.agg #[.pointer (some ⟨g,0,none⟩)]) w:=fun w=>by kernel_rfl
  have hmf : ∀ (fn : Fn) (first cap : Array Value) (w : World),(Instr.makeFunc fn first cap).run Tryz.prog w = .ok (.func fn first cap) w:=fun _ _ _ _=>rfl
  clear hne
  have hix0 : ∀ w,(Instr.index 141 (.agg #[.pointer (some ⟨b,0,none⟩),.pointer (some ⟨b,1,none⟩),.pointer (some ⟨b,2,none⟩),.pointer (some ⟨b,3,none⟩)]) (.int .i64 0)).run Tryz.prog w = .ok (.pointer (some ⟨b,0,none⟩)) w:=fun w=>by kernel_rfl
  have hix1 : ∀ w,(Instr.index 141 (.agg #[.pointer (some ⟨b,0,none⟩),.pointer (some ⟨b,1,none⟩),.pointer (some ⟨b,2,none⟩),.pointer (some ⟨b,3,none⟩)]) (.int .i64 1)).run Tryz.prog w = .ok (.pointer (some ⟨b,1,none⟩)) w:=fun w=>by kernel_rfl
  have hix2 : ∀ w,(Instr.index 141 (.agg #[.pointer (some ⟨b,0,none⟩),.pointer (some ⟨b,1,none⟩),.pointer (some ⟨b,2,none⟩),.pointer (some ⟨b,3,none⟩)]) (.int .i64 2)).run Tryz.prog w = .ok (.pointer (some ⟨b,2,none⟩)) w:=fun w=>by kernel_rfl
  have hix3 : ∀ w,(Instr.index 141 (.agg #[.pointer (some ⟨b,0,none⟩),.pointer (some ⟨b,1,none⟩),.pointer (some ⟨b,2,none⟩),.pointer (some ⟨b,3,none⟩)]) (.int .i64 3)).run Tryz.prog w = .ok (.pointer (some ⟨b,3,none⟩)) w:=fun w=>by kernel_rfl
  go_enter Tryz.func59,Tryz.ntmps59
  go_wp2_with fail
  go_region
  go_wp2_with fail;have h0 : Rdr w.drew g A0 n0 c0 bs 0:=h;have b0 : Blk w.drew b 109 #[.int .i64 0,.int .i64 0,.int .i64 0,.int .i64 0,.int .i64 0,.int .i64 0,.int .i64 0,.int .i64 0,.int .i64 0,.int .i64 0,.int .i64 0,.int .i64 0,.int .i64 0,.slice none 0 0]:=hb;have o0 : Only (GB g b) w w.drew:=⟨rfl,rfl,rfl,Nat.le_refl _,fun _ _ _=>rfl⟩;clear h hb;refine wp_loop_rounds 5 ?_;rw [rounds_succ];go_wp2_with fail;refine (rdnum_any g b 109 _ 0 A0 n0 c0 bs _ h0 b0 HGB.out (by simp)).mono ?_;intro e w1 hn
  rcases hd : Vint.dec bs with x | ⟨n,l1⟩
  · obtain ⟨rfl,oo⟩:=hn.bad hd
    have HE:=Lib.hid (show decE bs = .error x by simp [decE,decK,hd]);have HO:=Lib.hid (gb_trans o0 oo);clear hd hn oo;go_wp2_with fail;exact ⟨rfl,HO.out,.inr ⟨x,HE.out,rfl⟩⟩
  obtain ⟨rfl,⟨A1,c1,h1⟩,bb,oo⟩:=hn.good hd;have b1 : Blk w1 b 109 #[.int .i64 (n : Nat),.int .i64 0,.int .i64 0,.int .i64 0,.int .i64 0,.int .i64 0,.int .i64 0,.int .i64 0,.int .i64 0,.int .i64 0,.int .i64 0,.int .i64 0,.int .i64 0,.slice none 0 0]:=bb;have o1:=gb_trans o0 oo;have HD0:=Lib.hid hd;clear hd hn oo bb h0 b0 o0;go_wp2_with fail;rw [rounds_succ];go_wp2_with fail;refine (rdnum_any g b 109 _ 1 A1 _ c1 l1 _ h1 b1 HGB.out (by simp)).mono ?_;intro e w2 hn
  rcases hd : Vint.dec l1 with x | ⟨q,l2⟩
  · obtain ⟨rfl,oo⟩:=hn.bad hd
    have HE:=Lib.hid (show decE bs = .error x by simp [decE,decK,HD0.out,hd]);have HO:=Lib.hid (gb_trans o1 oo);clear hd hn oo;go_wp2_with fail;exact ⟨rfl,HO.out,.inr ⟨x,HE.out,rfl⟩⟩
  obtain ⟨rfl,⟨A2,c2,h2⟩,bb,oo⟩:=hn.good hd;have b2 : Blk w2 b 109 #[.int .i64 (n : Nat),.int .i64 (q : Nat),.int .i64 0,.int .i64 0,.int .i64 0,.int .i64 0,.int .i64 0,.int .i64 0,.int .i64 0,.int .i64 0,.int .i64 0,.int .i64 0,.int .i64 0,.slice none 0 0]:=bb;have o2:=gb_trans o1 oo;have HD1:=Lib.hid hd;clear hd hn oo bb h1 b1 o1;go_wp2_with fail;rw [rounds_succ];go_wp2_with fail;refine (rdnum_any g b 109 _ 2 A2 _ c2 l2 _ h2 b2 HGB.out (by simp)).mono ?_;intro e w3 hn
  rcases hd : Vint.dec l2 with x | ⟨t,l3⟩
  · obtain ⟨rfl,oo⟩:=hn.bad hd
    have HE:=Lib.hid (show decE bs = .error x by simp [decE,decK,HD0.out,HD1.out,hd]);have HO:=Lib.hid (gb_trans o2 oo);clear hd hn oo;go_wp2_with fail;exact ⟨rfl,HO.out,.inr ⟨x,HE.out,rfl⟩⟩
  obtain ⟨rfl,⟨A3,c3,h3⟩,bb,oo⟩:=hn.good hd;have b3 : Blk w3 b 109 #[.int .i64 (n : Nat),.int .i64 (q : Nat),.int .i64 (t : Nat),.int .i64 0,.int .i64 0,.int .i64 0,.int .i64 0,.int .i64 0,.int .i64 0,.int .i64 0,.int .i64 0,.int .i64 0,.int .i64 0,.slice none 0 0]:=bb;have o3:=gb_trans o2 oo;have HD2:=Lib.hid hd;clear hd hn oo bb h2 b2 o2;go_wp2_with fail;rw [rounds_succ];go_wp2_with fail;refine (rdnum_any g b 109 _ 3 A3 _ c3 l3 _ h3 b3 HGB.out (by simp)).mono ?_;intro e w4 hn
  rcases hd : Vint.dec l3 with x | ⟨k,l4⟩
  · obtain ⟨rfl,oo⟩:=hn.bad hd
    have HE:=Lib.hid (show decE bs = .error x by simp [decE,decK,HD0.out,HD1.out,HD2.out,hd]);have HO:=Lib.hid (gb_trans o3 oo);clear hd hn oo;go_wp2_with fail;exact ⟨rfl,HO.out,.inr ⟨x,HE.out,rfl⟩⟩
  obtain ⟨rfl,⟨A4,c4,h4⟩,bb,oo⟩:=hn.good hd;have b4 : Blk w4 b 109 #[.int .i64 (n : Nat),.int .i64 (q : Nat),.int .i64 (t : Nat),.int .i64 (k : Nat),.int .i64 0,.int .i64 0,.int .i64 0,.int .i64 0,.int .i64 0,.int .i64 0,.int .i64 0,.int .i64 0,.int .i64 0,.slice none 0 0]:=bb;have o4:=gb_trans o3 oo;have HD3:=Lib.hid hd;clear hd hn oo bb h3 b3 o3;go_wp2_with fail;rw [rounds_succ];have ck : w4.cell? ⟨b,3,none⟩ = some (.int .i64 (k : Nat)):=b4.cell 3;go_wp2_with fail;refine (within_any _ _ _ _).mono ?_;rintro e w4' ⟨rfl,rfl⟩
  by_cases hk : 1≤k∧k≤3
  case neg =>
    have HE:=Lib.hid (show decE bs = .error 4 by simp only [decE,HD0.out,HD1.out,HD2.out,HD3.out];rw [if_neg hk]);rw [show inB (k : Int) 1 3 = false by rw [← Bool.not_eq_true,inB_iff];omega];clear hk;go_wp2_with fail;refine (rdfail_any g 4 _).mono ?_;rintro e w5 ⟨rfl,b5⟩;go_wp2_with fail;exact ⟨rfl,o4.then_below (b5.mono o4.size),.inr ⟨4,HE.out,rfl⟩⟩
  have HK:=Lib.hid hk;rw [show inB (k : Int) 1 3 = true by rw [inB_iff];omega];clear hk;go_wp2_with fail;refine (rdnum_any g b 109 _ 4 A4 _ c4 l4 _ h4 b4 HGB.out (by simp)).mono ?_;intro e w5 hn
  rcases hd : Vint.dec l4 with x | ⟨wk,l5⟩
  · obtain ⟨rfl,oo⟩:=hn.bad hd
    have HE:=Lib.hid (show decE bs = .error x by simp [decE,decK,HD0.out,HD1.out,HD2.out,HD3.out,HK.out.1,HK.out.2,hd]);have HO:=Lib.hid (gb_trans o4 oo);clear hd hn oo;go_wp2_with fail;exact ⟨rfl,HO.out,.inr ⟨x,HE.out,rfl⟩⟩
  obtain ⟨rfl,⟨A5,c5,h5⟩,bb,oo⟩:=hn.good hd;have b5 : Blk w5 b 109 #[.int .i64 (n : Nat),.int .i64 (q : Nat),.int .i64 (t : Nat),.int .i64 (k : Nat),.int .i64 (wk : Nat),.int .i64 0,.int .i64 0,.int .i64 0,.int .i64 0,.int .i64 0,.int .i64 0,.int .i64 0,.int .i64 0,.slice none 0 0]:=bb;have o5:=gb_trans o4 oo;have HD4:=Lib.hid hd;clear hd hn oo bb h4 b4 o4
  have hdK : decE bs = decK n q t k wk l5:=by simp [decE,HD0.out,HD1.out,HD2.out,HD3.out,HK.out.1,HK.out.2,HD4.out]
  have HDK:=Lib.hid hdK;clear hdK ck;have ck : w5.cell? ⟨b,3,none⟩ = some (.int .i64 (k : Nat)):=b5.cell 3
  by_cases hk1 : k = 1
  · have hq1 : ((k : Int) == 1) = true:=by rw [beq_iff_eq];omega
    have HK1:=Lib.hid hk1;clear hk1;go_wp2_with fail;refine (rdnum_any g b 109 _ 5 A5 _ c5 l5 _ h5 b5 HGB.out (by simp)).mono ?_;intro e w6 hn
    rcases hd : Vint.dec l5 with x | ⟨v,l6⟩
    · obtain ⟨rfl,oo⟩:=hn.bad hd
      have HE:=Lib.hid (show decE bs = .error x by simp [HDK.out,decK,HK1.out,hd]);have HO:=Lib.hid (gb_trans o5 oo);clear hd hn oo;go_wp2_with fail;exact ⟨rfl,HO.out,.inr ⟨x,HE.out,rfl⟩⟩
    obtain ⟨rfl,⟨A6,c6,h6⟩,bb,oo⟩:=hn.good hd;have b6 : Blk w6 b 109 #[.int .i64 (n : Nat),.int .i64 (q : Nat),.int .i64 (t : Nat),.int .i64 (k : Nat),.int .i64 (wk : Nat),.int .i64 (v : Nat),.int .i64 0,.int .i64 0,.int .i64 0,.int .i64 0,.int .i64 0,.int .i64 0,.int .i64 0,.slice none 0 0]:=bb;have o6:=gb_trans o5 oo;have HD5:=Lib.hid hd;clear hd hn oo bb h5 b5 o5;have HE:=Lib.hid (show decE bs = .ok (⟨((n : Int),(q : Int)),(t : Nat),(k : Nat),(wk : Nat),(v : Nat),Evt.p0,[]⟩,l6) by simp [HDK.out,decK,HK1.out,HD5.out]);go_wp2_with fail
    (try simp only [Exit.inBlock,Exit.then])
    refine bodyPost_ret (results_none rfl _ _ _) rfl ?_;exact ⟨o6,.inl ⟨_,_,HE.out,rfl,⟨A6,c6,h6⟩,none,0,0,b6,OwnD.nil _ _⟩⟩
  have hq1 : ((k : Int) == 1) = false:=by rw [beq_eq_false_iff_ne];omega
  have HK1:=Lib.hid hk1;clear hk1
  by_cases hk2 : k = 2
  · have hq2 : ((k : Int) == 2) = true:=by rw [beq_iff_eq];omega
    have HK2:=Lib.hid hk2;clear hk2;go_wp2_with fail;refine (polr_any b g _ _ _ _ _ _ _ _ _ _ _ _ _ _ A5 _ c5 l5 _ h5 b5 HGB.out).mono ?_;rintro e w6 ⟨oo,⟨x0,x1,x2,x3,x4,x5,x6,l6,hd,rfl,⟨A6,c6,h6⟩,b6⟩ | ⟨x,hd,rfl⟩⟩
    case inr =>
      have HE:=Lib.hid (show decE bs = .error x by simp [HDK.out,decK,HK2.out,hd]);have HO:=Lib.hid (gb_trans o5 oo);clear hd oo;go_wp2_with fail;exact ⟨rfl,HO.out,.inr ⟨x,HE.out,rfl⟩⟩
    have o6:=gb_trans o5 oo;have HD5:=Lib.hid hd;clear hd oo h5 b5 o5;have cs : w6.cell? ⟨b,13,none⟩ = some (.slice none 0 0):=b6.cell 13
    go_upto_region 15 with fail
    refine nameW ?_;intro wa hwa;obtain ⟨r,hr⟩ : ∃ r,r = w6.heap.size:=⟨_,rfl⟩;rw [← hr]
    have ka : Blk wa r 3 #[.int .i64 0]:=by rw [hwa,hr];exact Blk.new _ _ _
    have ha : Rdr wa g A6 l6.length c6 l6 0:=by rw [hwa];exact h6.below ((Below.refl _ _).alloc (by have:=h6.lt;omega) _)
    have ba : Blk wa b 109 #[.int .i64 (n : Nat),.int .i64 (q : Nat),.int .i64 (t : Nat),.int .i64 (k : Nat),.int .i64 (wk : Nat),.int .i64 0,.int .i64 (x0 : Nat),.int .i64 (x1 : Nat),.int .i64 (x2 : Nat),.int .i64 (x3 : Nat),.int .i64 (x4 : Nat),.int .i64 (x5 : Nat),.int .i64 (x6 : Nat),.slice none 0 0]:=by rw [hwa];exact b6.alloc _
    have oa : Only (GB g b) w wa:=by rw [hwa];exact o6.alloc _
    have hrw : w.heap.size≤r:=by rw [hr];exact o6.size
    have hgr : g < r:=by have:=h6.lt;omega
    have hbr : b < r:=by have:=b6.lt;omega
    have HR3:=Lib.hid (show w.heap.size≤r∧g < r∧b < r from ⟨hrw,hgr,hbr⟩);clear hwa hr h6 b6 o6 cs hgr ck hbr hrw;go_wp2_with fail;refine (rdnum_any g r 3 _ 0 A6 _ c6 l6 _ ha ka HR3.out.2.1 (by simp)).mono ?_;intro e wc hn
    rcases hd : Vint.dec l6 with x | ⟨m,lm⟩
    · obtain ⟨rfl,oo⟩:=hn.bad hd
      have HE:=Lib.hid (show decE bs = .error x by simp [HDK.out,decK,decL,HK2.out,HD5.out,hd]);have HO:=Lib.hid (gb_new oa oo HR3.out.1);clear hd hn oo;go_wp2_with fail;exact ⟨rfl,HO.out,.inr ⟨x,HE.out,rfl⟩⟩
    obtain ⟨rfl,⟨Am,cm,hM⟩,bb,oo⟩:=hn.good hd;have kc : Blk wc r 3 #[.int .i64 (m : Nat)]:=bb;have bC : Blk wc b 109 #[.int .i64 (n : Nat),.int .i64 (q : Nat),.int .i64 (t : Nat),.int .i64 (k : Nat),.int .i64 (wk : Nat),.int .i64 0,.int .i64 (x0 : Nat),.int .i64 (x1 : Nat),.int .i64 (x2 : Nat),.int .i64 (x3 : Nat),.int .i64 (x4 : Nat),.int .i64 (x5 : Nat),.int .i64 (x6 : Nat),.slice none 0 0]:=(oo.block b ba.lt (by rintro (h | h);have:=HGB.out;omega;have:=HR3.out.2.2;omega)).trans ba;have oC:=gb_new oa oo HR3.out.1;have HDM:=Lib.hid hd;have cr : wc.cell? ⟨r,0,none⟩ = some (.int .i64 (m : Nat)):=kc.cell 0;clear hd hn oo bb ha ba oa ka
    by_cases hm96 : 96 < m
    · have hmd : decide ((96 : Int) < (m : Int)) = true:=decide_eq_true (by omega)
      have HE:=Lib.hid (show decE bs = .error 6 by simp [HDK.out,decK,decL,HK2.out,HD5.out,HDM.out,hm96]);clear hm96;go_wp2_with fail;refine (rdfail_any g 6 _).mono ?_;rintro e w8 ⟨rfl,b8⟩;go_wp2_with fail;exact ⟨rfl,oC.then_below (b8.mono oC.size),.inr ⟨6,HE.out,rfl⟩⟩
    have hmd : decide ((96 : Int) < (m : Int)) = false:=decide_eq_false (by omega);have H96:=Lib.hid (show m≤96 by omega)
    have HDD:=Lib.hid (show ∀ j x,j≤m→decD j lm = .error x→decE bs = .error x from fun j x hj hx=>by
      have hx2:=decD_err hx m hj
      simp [HDK.out,decK,decL,HK2.out,HD5.out,HDM.out,hm96,hx2])
    have HDK2:=Lib.hid (show ∀ ds lr,decD m lm = .ok (ds,lr)→decE bs = .ok (⟨((n : Int),(q : Int)),(t : Nat),(k : Nat),(wk : Nat),0,[x0,x1,x2,x3,x4,x5,x6].map fun x : Nat=>(x : Int),ds⟩,lr) from fun ds lr hx=>by
      simp [HDK.out,decK,decL,HK2.out,HD5.out,HDM.out,hm96,hx])
    clear hm96;have cs : wc.cell? ⟨b,13,none⟩ = some (.slice none 0 0):=bC.cell 13
    go_upto_region 18 with fail
    by_cases hm0 : m = 0
    · subst hm0
      have HF:=HDK2.out [] lm rfl;have HFF:=Lib.hid HF;clear HF
      go_region
      go_wp2_with fail;refine wp_loop_rounds 1 ?_;rw [rounds_succ];go_wp2_with fail
      go_end0
      exact ⟨oC.drewN 1,.inl ⟨_,_,HFF.out,rfl,⟨Am,cm,hM⟩,none,0,0,bC,OwnD.nil _ _⟩⟩
    have hmn : ((0 : Int) != (m : Int)) = true:=by rw [bne_iff_ne];omega
    have hmk:=run_makeD wc.drew m (by have:=H96.out;omega);have hbw : b < wc.heap.size:=bC.lt;have fb:=bC.free 13
    go_region
    go_upto_region 20 with fail
    refine nameW ?_;intro wd hwd;obtain ⟨d,hd⟩ : ∃ d,d = wc.heap.size:=⟨_,rfl⟩;rw [← hd]
    have kd : Blk wd d 100 (dzs [] m):=by
      have h1:=Blk.new (wc.setCell ⟨b,13,none⟩ (.slice (some ⟨wc.heap.size,0,none⟩) m m)) 100 (dzs [] m);rw [show (wc.setCell ⟨b,13,none⟩ (.slice (some ⟨wc.heap.size,0,none⟩) m m)).heap.size = wc.heap.size by simp [World.setCell]] at h1;rw [hwd,hd];exact h1
    have bD : Blk wd b 109 #[.int .i64 (n : Nat),.int .i64 (q : Nat),.int .i64 (t : Nat),.int .i64 (k : Nat),.int .i64 (wk : Nat),.int .i64 0,.int .i64 (x0 : Nat),.int .i64 (x1 : Nat),.int .i64 (x2 : Nat),.int .i64 (x3 : Nat),.int .i64 (x4 : Nat),.int .i64 (x5 : Nat),.int .i64 (x6 : Nat),.slice (some ⟨d,0,none⟩) m m]:=by
      rw [hwd,hd];exact (bC.set_ 13 (.slice (some ⟨wc.heap.size,0,none⟩) m m)).alloc _
    have hD : Rdr wd g Am lm.length cm lm 0:=by
      rw [hwd];refine hM.below ?_;have h1 : Below (g + 1) wc (wc.setCell ⟨b,13,none⟩ (.slice (some ⟨wc.heap.size,0,none⟩) m m)):=(Below.refl _ _).setCell (by show g + 1≤b;have:=HGB.out;omega) _;exact (h1.alloc (by have:=hM.lt;simp [World.setCell];omega) _).drew
    have oD : Only (GB g b) w wd:=by
      rw [hwd];have h1:=(oC.setCell (p:=⟨b,13,none⟩) (.inl (.inr rfl)) (.slice (some ⟨wc.heap.size,0,none⟩) m m)).alloc (.cells (dzs [] m) 100);exact ⟨h1.os,h1.tape,h1.output,h1.size,h1.block⟩
    have hgd : g < d:=by have:=hM.lt;omega
    have hbd : b < d:=by omega
    have HGD:=Lib.hid (show g < d∧b < d∧w.heap.size≤d from ⟨hgd,hbd,by rw [hd];exact oC.size⟩);clear hwd hd hM bC kc oC cr cs hmk fb hbw hmn hgd hbd hm0;have cs : wd.cell? ⟨b,13,none⟩ = some (.slice (some ⟨d,0,none⟩) m m):=bD.cell 13;go_wp2_with fail
    go_loopw [93] (fun i wr=>∃ (j : Nat) (ds : List Dt) (lr : List UInt8) (A : Option Addr) (c : Nat),j≤m∧i = .int .i64 j∧decD j lm = .ok (ds,lr)∧Rdr wr g A lr.length c lr 0∧Blk wr b 109 #[.int .i64 (n : Nat),.int .i64 (q : Nat),.int .i64 (t : Nat),.int .i64 (k : Nat),.int .i64 (wk : Nat),.int .i64 0,.int .i64 (x0 : Nat),.int .i64 (x1 : Nat),.int .i64 (x2 : Nat),.int .i64 (x3 : Nat),.int .i64 (x4 : Nat),.int .i64 (x5 : Nat),.int .i64 (x6 : Nat),.slice (some ⟨d,0,none⟩) m m]∧Blk wr d 100 (dzs ds m)∧Only (GB g b) w wr) (fun i _=>m - (intOf i).toNat)
    case atStart=>exact ⟨0,[],lm,Am,cm,by omega,rfl,rfl,hD,bD,kd,oD⟩
    case round =>
      clear hD bD kd oD cs;obtain ⟨j,ds,lr,A,c,hj,rfl,hdj,hR,bR,kR,oR⟩:=hrel;have cs : wr.cell? ⟨b,13,none⟩ = some (.slice (some ⟨d,0,none⟩) m m):=bR.cell 13;have hdl:=decD_len _ _ _ _ hdj;have HDJ:=Lib.hid hdj;have HDL:=Lib.hid hdl;clear hdj hdl
      by_cases hlt : j < m
      · have hj0 : (0 : Int)≤(j : Int):=by omega
        have hjm : (j : Int) < (m : Int):=by omega
        have hsz:=dzs_size (ds:=ds) (m:=m) (by rw [HDL.out];omega);have HSZ:=Lib.hid hsz;clear hsz;go_wp2_with fail;refine (rdnum_any g d 100 _ (j * 2) A _ c lr _ hR kR HGD.out.1 (by rw [HSZ.out];omega)).mono ?_;intro e wx hn
        rcases hd : Vint.dec lr with x | ⟨x,lx⟩
        · obtain ⟨rfl,oo⟩:=hn.bad hd
          have HE:=Lib.hid (HDD.out (j + 1) x (by omega) (by simp [decD,HDJ.out,hd]));have HO:=Lib.hid (gb_new oR oo HGD.out.2.2);clear hd hn oo;go_wp2_with fail;exact ⟨rfl,HO.out,.inr ⟨x,HE.out,rfl⟩⟩
        obtain ⟨rfl,⟨Ax,cx,hX⟩,kX,oo⟩:=hn.good hd;have bX:=(show Blk wx b _ _ from (oo.block b bR.lt (by rintro (h | h);have:=HGB.out;omega;have:=HGD.out.2.1;omega)).trans bR);have oX:=gb_new oR oo HGD.out.2.2;have HDX:=Lib.hid hd;have cs : wx.cell? ⟨b,13,none⟩ = some (.slice (some ⟨d,0,none⟩) m m):=bX.cell 13;clear hd hn oo hR kR bR oR;go_wp2_with fail;refine (rdnum_any g d 100 _ (j * 2 + 1) Ax _ cx lx _ hX kX HGD.out.1 (by rw [Array.size_setIfInBounds,HSZ.out];omega)).mono ?_;intro e wy hn
        rcases hd : Vint.dec lx with y | ⟨y,ly⟩
        · obtain ⟨rfl,oo⟩:=hn.bad hd
          have HE:=Lib.hid (HDD.out (j + 1) y (by omega) (by simp [decD,HDJ.out,HDX.out,hd]));have HO:=Lib.hid (gb_new oX oo HGD.out.2.2);clear hd hn oo;go_wp2_with fail;exact ⟨rfl,HO.out,.inr ⟨y,HE.out,rfl⟩⟩
        obtain ⟨rfl,⟨Ay,cy,hY⟩,kY,oo⟩:=hn.good hd;have bY:=(show Blk wy b _ _ from (oo.block b bX.lt (by rintro (h | h);have:=HGB.out;omega;have:=HGD.out.2.1;omega)).trans bX);have oY:=gb_new oX oo HGD.out.2.2;have hds:=dzs_set ds m x y (by rw [HDL.out];exact hlt);rw [HDL.out] at hds;rw [hds] at kY;have HDY:=Lib.hid (show decD (j + 1) lm = .ok (ds ++ [((x : Int),(y : Int))],ly) by simp [decD,HDJ.out,HDX.out,hd]);clear hd hn oo hX kX bX oX hds;go_wp2_with fail
        go_roundw
        case rel=>exact ⟨j + 1,_,ly,Ay,cy,by omega,num_succ j (by have:=H96.out;omega),HDY.out,hY,bY,kY,oY⟩
        case measure=>exact meas_succ j m hlt (by have:=H96.out;omega)
      · obtain rfl : j = m:=by omega
        have HF:=Lib.hid (HDK2.out ds lr HDJ.out);have hkd : decide ((j : Int) < (j : Int)) = false:=decide_eq_false (by omega);go_wp2_with fail
        go_end0
        exact ⟨oR,.inl ⟨_,_,HF.out,rfl,⟨A,c,hR⟩,_,_,_,bR,own_dzs kR HDL.out HGD.out.2.2 (by have:=H96.out;omega)⟩⟩
  have hq2 : ((k : Int) == 2) = false:=by rw [beq_eq_false_iff_ne];omega
  have HK2:=Lib.hid hk2;clear hk2;have cs : w5.cell? ⟨b,13,none⟩ = some (.slice none 0 0):=b5.cell 13
  go_upto_region 15 with fail
  refine nameW ?_;intro wa hwa;obtain ⟨r,hr⟩ : ∃ r,r = w5.heap.size:=⟨_,rfl⟩;rw [← hr]
  have ka : Blk wa r 3 #[.int .i64 0]:=by rw [hwa,hr];exact Blk.new _ _ _
  have ha : Rdr wa g A5 l5.length c5 l5 0:=by rw [hwa];exact h5.below ((Below.refl _ _).alloc (by have:=h5.lt;omega) _)
  have ba : Blk wa b 109 #[.int .i64 (n : Nat),.int .i64 (q : Nat),.int .i64 (t : Nat),.int .i64 (k : Nat),.int .i64 (wk : Nat),.int .i64 0,.int .i64 0,.int .i64 0,.int .i64 0,.int .i64 0,.int .i64 0,.int .i64 0,.int .i64 0,.slice none 0 0]:=by rw [hwa];exact b5.alloc _
  have oa : Only (GB g b) w wa:=by rw [hwa];exact o5.alloc _
  have hrw : w.heap.size≤r:=by rw [hr];exact o5.size
  have hgr : g < r:=by have:=h5.lt;omega
  have hbr : b < r:=by have:=b5.lt;omega
  have HR3:=Lib.hid (show w.heap.size≤r∧g < r∧b < r from ⟨hrw,hgr,hbr⟩);clear hwa hr h5 b5 o5 cs hgr ck hbr hrw;go_wp2_with fail;refine (rdnum_any g r 3 _ 0 A5 _ c5 l5 _ ha ka HR3.out.2.1 (by simp)).mono ?_;intro e wc hn
  rcases hd : Vint.dec l5 with x | ⟨m,lm⟩
  · obtain ⟨rfl,oo⟩:=hn.bad hd
    have HE:=Lib.hid (show decE bs = .error x by simp [HDK.out,decK,decL,HK1.out,HK2.out,hd]);have HO:=Lib.hid (gb_new oa oo HR3.out.1);clear hd hn oo;go_wp2_with fail;exact ⟨rfl,HO.out,.inr ⟨x,HE.out,rfl⟩⟩
  obtain ⟨rfl,⟨Am,cm,hM⟩,bb,oo⟩:=hn.good hd;have kc : Blk wc r 3 #[.int .i64 (m : Nat)]:=bb;have bC : Blk wc b 109 #[.int .i64 (n : Nat),.int .i64 (q : Nat),.int .i64 (t : Nat),.int .i64 (k : Nat),.int .i64 (wk : Nat),.int .i64 0,.int .i64 0,.int .i64 0,.int .i64 0,.int .i64 0,.int .i64 0,.int .i64 0,.int .i64 0,.slice none 0 0]:=(oo.block b ba.lt (by rintro (h | h);have:=HGB.out;omega;have:=HR3.out.2.2;omega)).trans ba;have oC:=gb_new oa oo HR3.out.1;have HDM:=Lib.hid hd;have cr : wc.cell? ⟨r,0,none⟩ = some (.int .i64 (m : Nat)):=kc.cell 0;clear hd hn oo bb ha ba oa ka
  by_cases hm96 : 96 < m
  · have hmd : decide ((96 : Int) < (m : Int)) = true:=decide_eq_true (by omega)
    have HE:=Lib.hid (show decE bs = .error 6 by simp [HDK.out,decK,decL,HK1.out,HK2.out,HDM.out,hm96]);clear hm96;go_wp2_with fail;refine (rdfail_any g 6 _).mono ?_;rintro e w8 ⟨rfl,b8⟩;go_wp2_with fail;exact ⟨rfl,oC.then_below (b8.mono oC.size),.inr ⟨6,HE.out,rfl⟩⟩
  have hmd : decide ((96 : Int) < (m : Int)) = false:=decide_eq_false (by omega);have H96:=Lib.hid (show m≤96 by omega)
  have HDD:=Lib.hid (show ∀ j x,j≤m→decD j lm = .error x→decE bs = .error x from fun j x hj hx=>by
    have hx2:=decD_err hx m hj
    simp [HDK.out,decK,decL,HK1.out,HK2.out,HDM.out,hm96,hx2])
  have HDK2:=Lib.hid (show ∀ ds lr,decD m lm = .ok (ds,lr)→decE bs = .ok (⟨((n : Int),(q : Int)),(t : Nat),(k : Nat),(wk : Nat),0,Evt.p0,ds⟩,lr) from fun ds lr hx=>by
    simp [HDK.out,decK,decL,HK1.out,HK2.out,HDM.out,hm96,hx])
  clear hm96;have cs : wc.cell? ⟨b,13,none⟩ = some (.slice none 0 0):=bC.cell 13
  go_upto_region 18 with fail
  by_cases hm0 : m = 0
  · subst hm0
    have HF:=HDK2.out [] lm rfl;have HFF:=Lib.hid HF;clear HF
    go_region
    go_wp2_with fail;refine wp_loop_rounds 1 ?_;rw [rounds_succ];go_wp2_with fail
    go_end0
    exact ⟨oC.drewN 1,.inl ⟨_,_,HFF.out,rfl,⟨Am,cm,hM⟩,none,0,0,bC,OwnD.nil _ _⟩⟩
  have hmn : ((0 : Int) != (m : Int)) = true:=by rw [bne_iff_ne];omega
  have hmk:=run_makeD wc.drew m (by have:=H96.out;omega);have hbw : b < wc.heap.size:=bC.lt;have fb:=bC.free 13
  go_region
  go_upto_region 20 with fail
  refine nameW ?_;intro wd hwd;obtain ⟨d,hd⟩ : ∃ d,d = wc.heap.size:=⟨_,rfl⟩;rw [← hd]
  have kd : Blk wd d 100 (dzs [] m):=by
    have h1:=Blk.new (wc.setCell ⟨b,13,none⟩ (.slice (some ⟨wc.heap.size,0,none⟩) m m)) 100 (dzs [] m);rw [show (wc.setCell ⟨b,13,none⟩ (.slice (some ⟨wc.heap.size,0,none⟩) m m)).heap.size = wc.heap.size by simp [World.setCell]] at h1;rw [hwd,hd];exact h1
  have bD : Blk wd b 109 #[.int .i64 (n : Nat),.int .i64 (q : Nat),.int .i64 (t : Nat),.int .i64 (k : Nat),.int .i64 (wk : Nat),.int .i64 0,.int .i64 0,.int .i64 0,.int .i64 0,.int .i64 0,.int .i64 0,.int .i64 0,.int .i64 0,.slice (some ⟨d,0,none⟩) m m]:=by
    rw [hwd,hd];exact (bC.set_ 13 (.slice (some ⟨wc.heap.size,0,none⟩) m m)).alloc _
  have hD : Rdr wd g Am lm.length cm lm 0:=by
    rw [hwd];refine hM.below ?_;have h1 : Below (g + 1) wc (wc.setCell ⟨b,13,none⟩ (.slice (some ⟨wc.heap.size,0,none⟩) m m)):=(Below.refl _ _).setCell (by show g + 1≤b;have:=HGB.out;omega) _;exact (h1.alloc (by have:=hM.lt;simp [World.setCell];omega) _).drew
  have oD : Only (GB g b) w wd:=by
    rw [hwd];have h1:=(oC.setCell (p:=⟨b,13,none⟩) (.inl (.inr rfl)) (.slice (some ⟨wc.heap.size,0,none⟩) m m)).alloc (.cells (dzs [] m) 100);exact ⟨h1.os,h1.tape,h1.output,h1.size,h1.block⟩
  have hgd : g < d:=by have:=hM.lt;omega
  have hbd : b < d:=by omega
  have HGD:=Lib.hid (show g < d∧b < d∧w.heap.size≤d from ⟨hgd,hbd,by rw [hd];exact oC.size⟩);clear hwd hd hM bC kc oC cr cs hmk fb hbw hmn hgd hbd hm0;have cs : wd.cell? ⟨b,13,none⟩ = some (.slice (some ⟨d,0,none⟩) m m):=bD.cell 13;go_wp2_with fail
  go_loopw [93] (fun i wr=>∃ (j : Nat) (ds : List Dt) (lr : List UInt8) (A : Option Addr) (c : Nat),j≤m∧i = .int .i64 j∧decD j lm = .ok (ds,lr)∧Rdr wr g A lr.length c lr 0∧Blk wr b 109 #[.int .i64 (n : Nat),.int .i64 (q : Nat),.int .i64 (t : Nat),.int .i64 (k : Nat),.int .i64 (wk : Nat),.int .i64 0,.int .i64 0,.int .i64 0,.int .i64 0,.int .i64 0,.int .i64 0,.int .i64 0,.int .i64 0,.slice (some ⟨d,0,none⟩) m m]∧Blk wr d 100 (dzs ds m)∧Only (GB g b) w wr) (fun i _=>m - (intOf i).toNat)
  case atStart=>exact ⟨0,[],lm,Am,cm,by omega,rfl,rfl,hD,bD,kd,oD⟩
  case round =>
    clear hD bD kd oD cs;obtain ⟨j,ds,lr,A,c,hj,rfl,hdj,hR,bR,kR,oR⟩:=hrel;have cs : wr.cell? ⟨b,13,none⟩ = some (.slice (some ⟨d,0,none⟩) m m):=bR.cell 13;have hdl:=decD_len _ _ _ _ hdj;have HDJ:=Lib.hid hdj;have HDL:=Lib.hid hdl;clear hdj hdl
    by_cases hlt : j < m
    · have hj0 : (0 : Int)≤(j : Int):=by omega
      have hjm : (j : Int) < (m : Int):=by omega
      have hsz:=dzs_size (ds:=ds) (m:=m) (by rw [HDL.out];omega);have HSZ:=Lib.hid hsz;clear hsz;go_wp2_with fail;refine (rdnum_any g d 100 _ (j * 2) A _ c lr _ hR kR HGD.out.1 (by rw [HSZ.out];omega)).mono ?_;intro e wx hn
      rcases hd : Vint.dec lr with x | ⟨x,lx⟩
      · obtain ⟨rfl,oo⟩:=hn.bad hd
        have HE:=Lib.hid (HDD.out (j + 1) x (by omega) (by simp [decD,HDJ.out,hd]));have HO:=Lib.hid (gb_new oR oo HGD.out.2.2);clear hd hn oo;go_wp2_with fail;exact ⟨rfl,HO.out,.inr ⟨x,HE.out,rfl⟩⟩
      obtain ⟨rfl,⟨Ax,cx,hX⟩,kX,oo⟩:=hn.good hd;have bX:=(show Blk wx b _ _ from (oo.block b bR.lt (by rintro (h | h);have:=HGB.out;omega;have:=HGD.out.2.1;omega)).trans bR);have oX:=gb_new oR oo HGD.out.2.2;have HDX:=Lib.hid hd;have cs : wx.cell? ⟨b,13,none⟩ = some (.slice (some ⟨d,0,none⟩) m m):=bX.cell 13;clear hd hn oo hR kR bR oR;go_wp2_with fail;refine (rdnum_any g d 100 _ (j * 2 + 1) Ax _ cx lx _ hX kX HGD.out.1 (by rw [Array.size_setIfInBounds,HSZ.out];omega)).mono ?_;intro e wy hn
      rcases hd : Vint.dec lx with y | ⟨y,ly⟩
      · obtain ⟨rfl,oo⟩:=hn.bad hd
        have HE:=Lib.hid (HDD.out (j + 1) y (by omega) (by simp [decD,HDJ.out,HDX.out,hd]));have HO:=Lib.hid (gb_new oX oo HGD.out.2.2);clear hd hn oo;go_wp2_with fail;exact ⟨rfl,HO.out,.inr ⟨y,HE.out,rfl⟩⟩
      obtain ⟨rfl,⟨Ay,cy,hY⟩,kY,oo⟩:=hn.good hd;have bY:=(show Blk wy b _ _ from (oo.block b bX.lt (by rintro (h | h);have:=HGB.out;omega;have:=HGD.out.2.1;omega)).trans bX);have oY:=gb_new oX oo HGD.out.2.2;have hds:=dzs_set ds m x y (by rw [HDL.out];exact hlt);rw [HDL.out] at hds;rw [hds] at kY;have HDY:=Lib.hid (show decD (j + 1) lm = .ok (ds ++ [((x : Int),(y : Int))],ly) by simp [decD,HDJ.out,HDX.out,hd]);clear hd hn oo hX kX bX oX hds;go_wp2_with fail
      go_roundw
      case rel=>exact ⟨j + 1,_,ly,Ay,cy,by omega,num_succ j (by have:=H96.out;omega),HDY.out,hY,bY,kY,oY⟩
      case measure=>exact meas_succ j m hlt (by have:=H96.out;omega)
    · obtain rfl : j = m:=by omega
      have HF:=Lib.hid (HDK2.out ds lr HDJ.out);have hkd : decide ((j : Int) < (j : Int)) = false:=decide_eq_false (by omega);go_wp2_with fail
      go_end0
      exact ⟨oR,.inl ⟨_,_,HF.out,rfl,⟨A,c,hR⟩,_,_,_,bR,own_dzs kR HDL.out HGD.out.2.2 (by have:=H96.out;omega)⟩⟩
end Go.Proofs.YtcgalmnllegnbaaGreat
