/- MsgBodies: the same of any body in a frame: the whole statement, without a condition. -/
import Derived.Test.YtcgalmnllegnbaaGreatMsgRRight
import Derived.Test.YtcgalmnllegnbaaGreatFactsD
import Derived.Test.YtcgalmnllegnbaaGreatRRead
import Derived.Test.YtcgalmnllegnbaaGreatStep
import Derived.Deep.RegionHeld3
import Derived.Test.YtcgalmnllegnbaaGreatMem
import Derived.Deep.RegionHeld
import Derived.Test.YtcgalmnllegnbaaGreatEvThrR
import Derived.Deep.DeepCutAuto
import Derived.Deep.CutBlock
import Derived.Test.YtcgalmnllegnbaaGreatRows
import Derived.ProofKit
import Derived.OpenShut
import Derived.ShutString
import Derived.ChangeOld
import Derived.Below
import Derived.Test.YtcgalmnllegnbaaGreatDotMem
import Derived.Test.YtcgalmnllegnbaaGreatDotPut
import Derived.SizedLaws
import Derived.Deep.Slices
import Derived.Deep.Fields
import Derived.Deep.Strs
namespace Go.Proofs.YtcgalmnllegnbaaGreat
set_option linter.unusedVariables false
set_option linter.unusedSimpArgs false
set_option maxRecDepth 100000
open Go.RowKit
open Dot Evt
open Ms (Mem)
section
variable {w w' : World} {g n c : Nat} {A : Option Addr} {bs r : List UInt8} {e : Nat}
theorem RSt.err (h : RSt w g A n c bs r e) : w.cell? ⟨g,2,none⟩ = some (.int .i64 (e : Nat)):=by
  obtain ⟨at',_,h2,_⟩:=h;exact h2.cell 2
theorem RSt.fr (h : RSt w g A n c bs r e) : w.frozen? ⟨g,2,none⟩ = false:=by
  obtain ⟨at',_,h2,_⟩:=h;exact h2.free 2
theorem RSt.setE (h : RSt w g A n c bs r e) (y : Nat) : RSt (w.setCell ⟨g,2,none⟩ (.int .i64 (y : Nat))) g A n c bs r y:=by
  obtain ⟨at',h1,h2,h3⟩:=h;exact ⟨at',h1,h2.set_ 2 (.int .i64 (y : Nat)),h3⟩
theorem RSt.below (h : RSt w g A n c bs r e) (hb : Below w.heap.size w w') : RSt w' g A n c bs r e:=h.map fun t cs k=>k.below hb k.lt
theorem RSt.grown {b : Nat} (h : RSt w g A n c bs r e) (hg : w.grownBy w' (some b)) (hne : b ≠ g) : RSt w' g A n c bs r e:=h.map fun t cs k=>k.grown hg (by intro x;injection x with x;exact hne x)
theorem RSt.far {p : Addr} (h : RSt w g A n c bs r e) (hp : g ≠ p.block) (u : Value) : RSt (w.setCell p u) g A n c bs r e:=h.map fun t cs k=>k.far hp u
theorem RSt.lt (h : RSt w g A n c bs r e) : g < w.heap.size:=by
  obtain ⟨at',_,h2,_⟩:=h;exact h2.lt
end
theorem wp_bdM {P : Program} {o : Oper} {a : Act} {w w' : World} {v : Value} {K : Act→World→Prop} {Q : Exit→Act→World→Prop} (t : TypeId) (parts : Array (Nat × Operand)) (ho : o.op = .build t parts)
    (hrun : (Instr.build t (parts.map fun (i,x)=>(i,a.eval x))).run P w = .ok v w') (h : K (a.put o.dst v) w') : Oper.wp P o a w K Q:=by
  unfold Oper.wp execOp
  simp only [ho,Sem.run_bind,hrun,Result.andThen_ok]
  exact h
structure GSm (B1 : Nat) (w1 w : World) (Y gR : Nat) (A : Option Addr) (n c : Nat) (xs : List UInt8) (m : Ms.Msg) (A3 : Option Addr) (c3 : Nat) (r : List UInt8) (e : Nat) : Prop where
  gB : Below B1 w1 w
  hx : RdB w1 B1 A n xs
  n9 : n≤1000000000
  b1 : B1≤w1.heap.size
  y1 : B1≤Y
  r1 : B1≤gR
  ne : Y ≠ gR
  y : Blk w Y 30 (mgc m sN sN (.slice A3 m.mem.length c3))
  o : OwnMb 71 w B1 A3 m.mem.length c3 m.mem
  rd : RSt w gR A n c xs r e
section
variable {B1 : Nat} {w1 w w' w2 : World} {Y gR : Nat} {A : Option Addr} {n c : Nat} {xs : List UInt8} {m m' : Ms.Msg} {A3 A' : Option Addr} {c3 c' : Nat} {r : List UInt8} {e : Nat}
theorem GSm.bw (h : GSm B1 w1 w Y gR A n c xs m A3 c3 r e) : B1≤w.heap.size:=Nat.le_trans h.b1 h.gB.size
theorem GSm.fr (h : GSm B1 w1 w Y gR A n c xs m A3 c3 r e) : A3.map (·.block) ≠ some gR:=by obtain ⟨_,_,k,_⟩:=h.rd;exact own_ne h.o.2 k (by decide)
theorem GSm.fy (h : GSm B1 w1 w Y gR A n c xs m A3 c3 r e) : A3.map (·.block) ≠ some Y:=own_ne h.o.2 h.y (by decide)
theorem GSm.grownR (h : GSm B1 w1 w Y gR A n c xs m A3 c3 r e) (hg : w.grownBy w' (some gR)) {r' : List UInt8} {e' : Nat} (hr : RSt w' gR A n c xs r' e') : GSm B1 w1 w' Y gR A n c xs m A3 c3 r' e' :=
  ⟨h.gB.grown hg h.bw (fun q hq=>by injection hq;have:=h.r1;omega),h.hx,h.n9,h.b1,h.y1,h.r1,h.ne,h.y.grown hg (fun x=>by injection x with x;exact h.ne x.symm),h.o.grown hg (.inr h.fr),hr⟩
theorem GSm.int (h : GSm B1 w1 w Y gR A n c xs m A3 c3 r e) {z : Nat} {rz : List UInt8} {ez : Nat} (hI : Vint.intM r e = (z,rz,ez)) :
    Calls Tryz.prog 26 #[.pointer (some ⟨gR,0,none⟩)] w (fun x w'=>x = .returned (.int .i64 (z : Nat))∧GSm B1 w1 w' Y gR A n c xs m A3 c3 rz ez∧w.grownBy w' (some gR)):=by
  have:=rint_m gR A n c B1 xs r e w h.rd (h.hx.below h.gB) h.n9
  refine this.mono ?_;rintro x w' ⟨h1,h2,h3⟩;rw [hI] at h1 h3;exact ⟨h1,h.grownR h2 h3,h2⟩
theorem GSm.fail (h : GSm B1 w1 w Y gR A n c xs m A3 c3 r e) (y : Nat) :
    Calls Tryz.prog 27 #[.pointer (some ⟨gR,0,none⟩),.int .i64 (y : Nat)] w (fun x w'=>x = .returned (.tuple #[])∧GSm B1 w1 w' Y gR A n c xs m A3 c3 r (if e = 0 then y else e)):=by
  have:=rfail_m gR y A n c xs r e w h.rd
  refine this.mono ?_;rintro x w' ⟨h1,h2,h3⟩;exact ⟨h1,h.grownR h2 h3⟩
theorem GSm.setE (h : GSm B1 w1 w Y gR A n c xs m A3 c3 r e) (y : Nat) : GSm B1 w1 (w.setCell ⟨gR,2,none⟩ (.int .i64 (y : Nat))) Y gR A n c xs m A3 c3 r y :=
  h.grownR (set_grownM w gR 2 _) (h.rd.setE y)
theorem GSm.grownY (h : GSm B1 w1 w Y gR A n c xs m A3 c3 r e) (hg : w.grownBy w' (some Y)) (hy : Blk w' Y 30 (mgc m' sN sN (.slice A' m'.mem.length c'))) (ho : OwnMb 71 w' B1 A' m'.mem.length c' m'.mem) : GSm B1 w1 w' Y gR A n c xs m' A' c' r e :=
  ⟨h.gB.grown hg h.bw (fun q hq=>by injection hq;have:=h.y1;omega),h.hx,h.n9,h.b1,h.y1,h.r1,h.ne,hy,ho,h.rd.grown hg h.ne⟩
theorem GSm.set (h : GSm B1 w1 w Y gR A n c xs m A3 c3 r e) (k : Nat) (v : Value) (hm : m'.mem = m.mem) (hc : (mgc m sN sN (.slice A3 m.mem.length c3)).setIfInBounds k v = mgc m' sN sN (.slice A3 m.mem.length c3)) : GSm B1 w1 (w.setCell ⟨Y,k,none⟩ v) Y gR A n c xs m' A3 c3 r e:=by
  have hy:=h.y.set_ k v;rw [hc] at hy;refine h.grownY (set_grownM w Y k v) (by rw [hm];exact hy) ?_;rw [hm];exact h.o.grown (set_grownM w Y k v) (.inr h.fy)
theorem GSm.below (h : GSm B1 w1 w Y gR A n c xs m A3 c3 r e) (hb : Below w.heap.size w w') : GSm B1 w1 w' Y gR A n c xs m A3 c3 r e :=
  ⟨h.gB.trans (hb.mono h.bw),h.hx,h.n9,h.b1,h.y1,h.r1,h.ne,h.y.below hb h.y.lt,h.o.below hb (Nat.le_refl _),h.rd.below hb⟩
theorem GSm.farV (h : GSm B1 w1 w Y gR A n c xs m A3 c3 r e) {q i : Nat} (h1 : B1≤q) (h2 : Y ≠ q) (h3 : gR ≠ q) (h4 : A3.map (·.block) ≠ some q) (v : Value) : GSm B1 w1 (w.setCell ⟨q,i,none⟩ v) Y gR A n c xs m A3 c3 r e :=
  ⟨h.gB.setCell (p:=⟨q,i,none⟩) h1 v,h.hx,h.n9,h.b1,h.y1,h.r1,h.ne,h.y.far (p:=⟨q,i,none⟩) h2 v,h.o.setFar (p:=⟨q,i,none⟩) h4 v,h.rd.far (p:=⟨q,i,none⟩) h3 v⟩
theorem GSm.more (h : GSm B1 w1 w Y gR A n c xs m A3 c3 r e) {v : Mem} (ho : OwnMb 71 w2 B1 A' (m.mem.length + 1) c' (m.mem ++ [v])) (hb : Below w.heap.size w w') (hg : w'.grownBy w2 (A3.map (·.block))) (hB : Below B1 w' w2) :
    Blk w2 Y 30 (mgc m sN sN (.slice A3 m.mem.length c3))∧GSm B1 w1 (w2.setCell ⟨Y,15,none⟩ (.slice A' (m.mem.length + 1) c')) Y gR A n c xs { m with mem:=m.mem ++ [v] } A' c' r e:=by
  have h':=h.below hb;have ky:=h'.y.grown hg h'.fy
  have hr : RSt w2 gR A n c xs r e:=h'.rd.map fun t cs k=>k.grown hg (by
    obtain ⟨_,_,k2,_⟩:=h'.rd
    exact own_ne h'.o.2 k2 (by decide))
  refine ⟨ky,(h'.gB.trans hB).setCell (p:=⟨Y,15,none⟩) h.y1 _,h.hx,h.n9,h.b1,h.y1,h.r1,h.ne,?_,?_,hr.far (p:=⟨Y,15,none⟩) (fun x=>h.ne x.symm) _⟩
  · have:=ky.set_ 15 (.slice A' (m.mem.length + 1) c')
    rw [List.length_append];exact this
  · have:=ho.setFar (p:=⟨Y,15,none⟩) (own_ne ho.2 ky (by decide)) (.slice A' (m.mem.length + 1) c')
    rw [List.length_append];exact this
end
end Go.Proofs.YtcgalmnllegnbaaGreat

namespace Go.Proofs.YtcgalmnllegnbaaGreat
set_option linter.unusedVariables false
set_option linter.unusedSimpArgs false
set_option maxRecDepth 100000
open Go.RowKit
namespace Frame
def RGetF (w : World) (bs : List UInt8) (e : Ending) (w' : World) : Prop :=
  Below w.heap.size w w'∧match dec bs with
    | .ok (x,r)=>∃ A1 c1 A2 c2,e = .returned (.tuple #[.slice A1 x.length c1,.slice A2 r.length c2,.int .i64 0])∧OwnB w' w.heap.size A1 x.length c1 x∧OwnB w' w.heap.size A2 r.length c2 r
    | .error y=>e = .returned (.tuple #[.slice none 0 0,.slice none 0 0,.int .i64 (y : Nat)])
theorem RGetF.bad {w w' : World} {bs : List UInt8} {e : Ending} {y : Nat} (h : dec bs = .error y) (he : e = .returned (.tuple #[.slice none 0 0,.slice none 0 0,.int .i64 (y : Nat)])) (hb : Below w.heap.size w w') : RGetF w bs e w':=by
  unfold RGetF
  rw [h];exact ⟨hb,he⟩
theorem RGetF.good {w w' : World} {bs x r : List UInt8} {e : Ending} {A5 A6 : Option Addr} {n5 n6 c5 c6 base : Nat} (hd : dec bs = .ok (x,r)) (hbase : w.heap.size≤base) (h5 : OwnB w' base A5 n5 c5 x) (h6 : OwnB w' base A6 n6 c6 r) (he : e = .returned (.tuple #[.slice A5 n5 c5,.slice A6 n6 c6,.int .i64 0])) (hb : Below w.heap.size w w') : RGetF w bs e w':=by
  unfold RGetF
  rw [hd];obtain rfl:=h5.1;obtain rfl:=h6.1;exact ⟨hb,A5,c5,A6,c6,he,h5.mono hbase,h6.mono hbase⟩
theorem apart_last {w : World} {base n c s : Nat} {A : Option Addr} {bs : List UInt8} (h : OwnB w base A n c bs) (hs : w.heap.size = s) : A.map (·.block) = none∨A.map (·.block) ≠ some s:=.inr fun e=>by have:=(h.lt _ e).2;omega
theorem apart_moved {A : Option Addr} {b s g : Nat} (h : Moved A (some b) s) (h1 : b ≠ g) (h2 : s ≠ g) : A.map (·.block) = none∨A.map (·.block) ≠ some g:=.inr fun e=>by
  rcases h with h | h
  · rw [h] at e;injection e with e;exact h1 e
  · rw [h] at e;injection e with e;exact h2 e
theorem addNZ (a : Addr) (n : Nat) (hn : n ≠ 0) : a.add n = ⟨a.block,a.off + n,none⟩:=by unfold Addr.add;rw [if_neg hn]
theorem blk_at {w : World} {g : Nat} {t : TypeId} {cs : Array Value} (h : w.heap.size = g) : Blk (w.alloc (.cells cs t)) g t cs:=h ▸ Blk.new w t cs
theorem bnext {a w : World} (h : Below a.heap.size a w) (o : Obj) : Below a.heap.size a (w.alloc o):=h.alloc h.size o
theorem own_emp {w : World} {g base : Nat} (h : Blk w g 5 #[]) (hb : base≤g) : OwnB w base (some ⟨g,0,none⟩) 0 0 [] :=
  ⟨rfl,rfl,.inr ⟨g,0,#[],rfl,hb,h,Nat.le_refl _,Nat.zero_le _,rfl,rfl⟩⟩
theorem four {l : List UInt8} {E : Nat} {z0 z1 z2 z3 : UInt8} (h0 : l[E]? = some z0) (h1 : l[E + 1]? = some z1) (h2 : l[E + 2]? = some z2) (h3 : l[E + 3]? = some z3) : (l.drop E).take 4 = [z0,z1,z2,z3]:=by
  apply List.ext_getElem?
  intro i;rw [List.getElem?_take]
  match i with
  | 0=>simpa using h0
  | 1=>simpa using h1
  | 2=>simpa using h2
  | 3=>simpa using h3
  | i + 4 =>
    rw [if_neg (by omega)]
    rfl
theorem be_four {S : Nat} {z0 z1 z2 z3 : UInt8} (hS : S < 4294967296) : ([z0,z1,z2,z3] = be S)↔((z0.toNat : Int) = (S : Int) / 16777216∧(z1.toNat : Int) = (S : Int) / 65536 % 256∧(z2.toNat : Int) = (S : Int) / 256 % 256∧(z3.toNat : Int) = (S : Int) % 256):=by
  unfold be
  simp only [List.cons.injEq,and_true,← UInt8.toNat_inj,Vint.toNat_ofNat]
  constructor
  · rintro ⟨a,b,c,d⟩;omega
  · rintro ⟨a,b,c,d⟩;omega
set_option maxRecDepth 100000 in
set_option maxHeartbeats 1000000 in
theorem rget_any (A : Option Addr) (n c : Nat) (bs : List UInt8) (B : Nat) (w : World) (hb : RdB w B A n bs) (hB : B≤w.heap.size) (hl : n≤1000000000000) (hc : n≤c) (hm : c≤maxLen) :
    Calls Tryz.prog 25 #[.slice A n c] w (RGetF w bs):=by
  obtain rfl:=hb.1
  unfold maxLen at hm
  rcases bs with _ | ⟨v,t⟩
  · go_enter Tryz.func25,Tryz.ntmps25
    go_wp2_with fail;go_ret3;exact RGetF.bad dec_nil rfl (Below.refl _ _)
  have hd0 : (((v :: t).length : Int) == 0) = false:=by rw [beq_eq_false_iff_ne];simp;omega
  obtain ⟨a,rfl,hab,hv0⟩:=hb.at_ (k:=0) (by simp)
  have hv1 : w.cell? a = some (bv v):=by simpa [go_sem] using hv0
  clear hv0;obtain ⟨L,hL⟩ : ∃ L,L = (v :: t).length:=⟨_,rfl⟩;rw [← hL] at hb hl hc hd0 ⊢
  have hLt : t.length + 1 = L:=by rw [hL];simp
  have hd1 : 0 < L:=by omega
  clear hL
  by_cases hv : v ≠ 1
  · have hq : ((v.toNat : Int) != 1) = true:=by
      rw [bne_iff_ne];intro e;exact hv (UInt8.toNat_inj.1 (by show v.toNat = 1;omega))
    go_enter Tryz.func25,Tryz.ntmps25
    go_wp2_with fail;go_ret3;exact RGetF.bad (dec_form hv) rfl (Below.refl _ _)
  have hv:=Decidable.not_not.1 hv
  have hq : ((v.toNat : Int) != 1) = false:=by rw [hv];rfl
  have HV:=Lib.hid hv;clear hv
  go_enter Tryz.func25,Tryz.ntmps25
  go_wp2_with fail;refine (rint_any _ _ _ _ 1 (v :: t) B _ (Blk.new _ _ _) (hb.alloc hB _) (by omega) (by omega)).mono ?_;rintro e w2 ⟨hg2,hm2⟩;have hb2 : Below w.heap.size w w2:=((Below.refl _ _).alloc (Nat.le_refl _) _).trans (only_Below hg2 (Nat.le_refl _) (by simp));rw [show (v :: t).drop 1 = t from rfl] at hm2;clear hg2
  rcases hdt : Vint.dec t with x | ⟨k,r⟩
  · rw [hdt] at hm2
    simp only at hm2
    obtain ⟨rfl,hR2⟩:=hm2
    have hx : x ≠ 0:=by have:=Vint.dec_err hdt;omega
    have hq0 : ((x : Int) != 0) = true:=by rw [bne_iff_ne];omega
    have c2 : w2.cell? ⟨w.heap.size,2,none⟩ = some (.int .i64 (x : Nat)):=hR2.cell 2;have HD:=Lib.hid hdt;clear hdt;go_wp2_with fail
    go_quiet (fail)
    go_wp2_with fail;go_ret3;refine RGetF.bad (y:=x) ?_ rfl (below_drewN hb2 _);rw [HV.out];exact dec_int HD.out
  rw [hdt] at hm2
  simp only at hm2
  obtain ⟨rfl,hR2⟩:=hm2;have hkt:=(Vint.dec_ok hdt).2;have hrl:=(Vint.dec_ok_lt hdt).1
  unfold Vint.top at hkt
  obtain ⟨q,hq9⟩ : ∃ q,q = r.length:=⟨_,rfl⟩;rw [← hq9] at hR2 hrl;have HQ:=Lib.hid hq9;have HD:=Lib.hid hdt;clear hdt hq9;obtain ⟨H,hH⟩ : ∃ H,H = L - q:=⟨_,rfl⟩;rw [← hH] at hR2
  have hHq : H + q = L:=by omega
  have HH:=Lib.hid hHq
  have hHL : H≤L:=by omega
  have c1 : w2.cell? ⟨w.heap.size,1,none⟩ = some (.int .i64 (H : Nat)):=hR2.cell 1;have c2 : w2.cell? ⟨w.heap.size,2,none⟩ = some (.int .i64 0):=hR2.cell 2;clear hH hHq
  by_cases hk : 4096 < k
  · have hdk : decide ((4096 : Int) < (k : Int)) = true:=decide_eq_true (by omega)
    go_wp2_with fail;go_ret3;refine RGetF.bad (y:=6) ?_ rfl hb2;rw [HV.out];exact dec_size HD.out hk
  have hdk : decide ((4096 : Int) < (k : Int)) = false:=decide_eq_false (by omega);obtain ⟨E,hE⟩ : ∃ E,H + k = E:=⟨_,rfl⟩
  have eE : IntKind.i64.wrap ((H : Int) + (k : Int)) = (E : Int):=by rw [IntWalk.i64_in _ (by omega)];omega
  have HE:=Lib.hid hE
  have hEb : E≤1000000005000:=by omega
  clear hE
  by_cases hs : L < E + 4
  · have hdk : decide ((L : Int) < (E : Int) + 4) = true:=decide_eq_true (by omega)
    go_wp2_with fail;go_ret3;refine RGetF.bad (y:=3) ?_ rfl hb2;rw [HV.out];exact dec_short HD.out (by omega) (by rw [← HQ.out];have:=HE.out;have:=HH.out;omega)
  have hdk : decide ((L : Int) < (E : Int) + 4) = false:=decide_eq_false (by omega)
  have hEL : E + 4≤L:=by omega
  have hcE : E≤c:=by omega
  have hbw : RdB w2 B (some a) L (v :: t):=hb.below (hb2.mono hB);have rdP : RdB w2 B (some a) E ((v :: t).take E):=hbw.take (by omega);go_wp2_with fail;refine (Crc.rsum_any _ _ _ _ _ _ rdP (by unfold maxLen;omega)).mono ?_;rintro e w3 ⟨rfl,rfl⟩;have hsl:=Crc.sum_lt ((v :: t).take E);obtain ⟨S,hS⟩ : ∃ S,S = Crc.sum ((v :: t).take E):=⟨_,rfl⟩;rw [← hS] at hsl ⊢;have HS:=Lib.hid hS;clear hS
  have hcell : ∀ i,i < 4→∃ z,(v :: t)[E + i]? = some z∧w2.cell? (a.add (E + i)) = some (bv z):=by
    intro i hi;obtain ⟨a',e,_,hc⟩:=hbw.at_ (k:=E + i) (by have:=hbw.1;omega)
    injection e with e
    subst e;exact ⟨_,List.getElem?_eq_getElem (by have:=hbw.1;omega),hc⟩
  obtain ⟨z0,p0,q0⟩:=hcell 0 (by omega);obtain ⟨z1,p1,q1⟩:=hcell 1 (by omega);obtain ⟨z2,p2,q2⟩:=hcell 2 (by omega);obtain ⟨z3,p3,q3⟩:=hcell 3 (by omega);rw [Nat.add_zero] at p0 q0;rw [addNZ a _ (by omega)] at q1 q2 q3;have HP0:=Lib.hid p0;have HP1:=Lib.hid p1;have HP2:=Lib.hid p2;have HP3:=Lib.hid p3;clear p0 p1 p2 p3 hcell
  have hdrop : ((v :: t).drop E).take 4 = (r.drop k).take 4:=by
    have e1:=(Vint.dec_ok HD.out).1;have l1:=congrArg List.length e1;rw [List.length_append,← HQ.out] at l1;rw [← HE.out,← List.drop_drop]
    congr 2
    have e2 : v :: t = (v :: Vint.enc k) ++ r:=by rw [e1];rfl
    have:=HH.out
    rw [e2,show H = (v :: Vint.enc k).length by rw [List.length_cons];omega,List.drop_left]
  have hsum : (v :: t).length - r.length + k = E:=by
    rw [← HQ.out,List.length_cons,hLt]
    have:=HH.out
    have:=HE.out
    omega
  have hbad : ¬ [z0,z1,z2,z3] = be S→dec (v :: t) = .error 5:=by
    intro h;rw [HV.out];refine dec_sum HD.out (by omega) (by rw [← HQ.out];have:=HH.out;have:=HE.out;omega) ?_;rw [← hdrop,four HP0.out HP1.out HP2.out HP3.out,← HV.out,hsum,← HS.out];exact h
  have hgood : [z0,z1,z2,z3] = be S→dec (v :: t) = .ok (r.take k,r.drop (k + 4)):=by
    intro h;rw [HV.out];refine dec_good HD.out (by omega) (by rw [← HQ.out];have:=HH.out;have:=HE.out;omega) ?_;rw [← hdrop,four HP0.out HP1.out HP2.out HP3.out,← HV.out,hsum,← HS.out];exact h
  rw [be_four hsl] at hbad hgood;have HB:=Lib.hid hbad;have HG:=Lib.hid hgood;clear hdrop hsum hbad hgood
  go_upto_region 15 with fail
  by_cases e0 : (z0.toNat : Int) = (S : Int) / 16777216
  case neg =>
    have t0 : ((z0.toNat : Int) != (S : Int) / 16777216) = true:=by rw [bne_iff_ne];exact e0
    have HZ:=Lib.hid e0;clear e0;go_wp2_with fail;go_ret3;exact RGetF.bad (HB.out fun h=>HZ.out h.1) rfl hb2
  have t0 : ((z0.toNat : Int) != (S : Int) / 16777216) = false:=by rw [bne_eq_false_iff_eq];exact e0
  have H0:=Lib.hid e0;clear e0
  by_cases e1 : (z1.toNat : Int) = (S : Int) / 65536 % 256
  case neg =>
    have t1 : ((z1.toNat : Int) != (S : Int) / 65536 % 256) = true:=by rw [bne_iff_ne];exact e1
    have HZ:=Lib.hid e1;clear e1;go_wp2_with fail;go_ret3;exact RGetF.bad (HB.out fun h=>HZ.out h.2.1) rfl hb2
  have t1 : ((z1.toNat : Int) != (S : Int) / 65536 % 256) = false:=by rw [bne_eq_false_iff_eq];exact e1
  have H1:=Lib.hid e1;clear e1
  by_cases e2 : (z2.toNat : Int) = (S : Int) / 256 % 256
  case neg =>
    have t2 : ((z2.toNat : Int) != (S : Int) / 256 % 256) = true:=by rw [bne_iff_ne];exact e2
    have HZ:=Lib.hid e2;clear e2;go_wp2_with fail;go_ret3;exact RGetF.bad (HB.out fun h=>HZ.out h.2.2.1) rfl hb2
  have t2 : ((z2.toNat : Int) != (S : Int) / 256 % 256) = false:=by rw [bne_eq_false_iff_eq];exact e2
  have H2:=Lib.hid e2;clear e2
  by_cases e3 : (z3.toNat : Int) = (S : Int) % 256
  case neg =>
    have t3 : ((z3.toNat : Int) != (S : Int) % 256) = true:=by rw [bne_iff_ne];exact e3
    have HZ:=Lib.hid e3;clear e3;go_wp2_with fail;go_ret3;exact RGetF.bad (HB.out fun h=>HZ.out h.2.2.2) rfl hb2
  have t3 : ((z3.toNat : Int) != (S : Int) % 256) = false:=by rw [bne_eq_false_iff_eq];exact e3
  have hdec:=HG.out ⟨H0.out,H1.out,H2.out,e3⟩;have HDE:=Lib.hid hdec;clear e3 hdec;go_wp2_with fail;obtain ⟨E4,hE4⟩ : ∃ E4,E4 = E + 4:=⟨_,rfl⟩;obtain ⟨m,hm⟩ : ∃ m,m = L - E4:=⟨_,rfl⟩;obtain ⟨A2,hA2⟩ : ∃ A2,A2 = (if c = E4 then some a else some (a.add E4)):=⟨_,rfl⟩;have hA3:=hA2.symm
  have rdX : ∀ w',Below w2.heap.size w2 w'→RdB w' B (some (a.add H)) k (r.take k):=fun w' hb'=>by
    have e1:=(Vint.dec_ok HD.out).1;have l1:=congrArg List.length e1;rw [List.length_append,← HQ.out] at l1
    have e2 : (v :: t).drop H = r:=by
      have e2 : v :: t = (v :: Vint.enc k) ++ r:=by rw [e1];rfl
      have:=HH.out
      rw [e2,show H = (v :: Vint.enc k).length by rw [List.length_cons];omega,List.drop_left]
    have:=((hbw.below (hb'.mono (Nat.le_trans hB hb2.size))).drop H).take (k:=k) (by have:=HH.out;have:=HE.out;omega)
    rw [e2] at this;exact this
  have rdY : ∀ w',Below w2.heap.size w2 w'→RdB w' B A2 m (r.drop (k + 4)):=fun w' hb'=>by
    have e1:=(Vint.dec_ok HD.out).1;have l1:=congrArg List.length e1;rw [List.length_append,← HQ.out] at l1
    have e2 : (v :: t).drop E4 = r.drop (k + 4):=by
      have e2 : v :: t = (v :: Vint.enc k) ++ r:=by rw [e1];rfl
      have:=HH.out
      have:=HE.out
      rw [e2,show E4 = (v :: Vint.enc k).length + (k + 4) by rw [List.length_cons];omega,← List.drop_drop,List.drop_left]
    have:=(hbw.below (hb'.mono (Nat.le_trans hB hb2.size))).drop E4
    rw [e2,← hm] at this;rw [hA2]
    split
    · have h0 : m = 0:=by omega
      rw [h0] at this ⊢;have : r.drop (k + 4) = []:=List.eq_nil_of_length_eq_zero this.1.symm;rw [this];exact RdB.nil _ _ _
    · exact this
  have RX:=Lib.hid rdX;have RY:=Lib.hid rdY
  have eE5 : (E : Int) + 4 = (E4 : Int):=by omega
  have ew5 : IntKind.i64.wrap (E4 : Int) = (E4 : Int):=IntWalk.i64_in _ (by omega)
  have le1 : E4≤c:=by omega
  have le2 : E4≤L:=by omega
  have le3 : L - E4 = m:=hm.symm
  have le4 : H≤E:=by have:=HE.out;omega
  have le5 : E≤c:=by omega
  have le6 : E - H = k:=by have:=HE.out;omega
  have le7 : ¬ c = H:=by have:=HE.out;omega
  have hml : m≤1000000000000:=by omega
  have hB2 : w.heap.size < w2.heap.size:=by have:=hR2.lt;exact this
  clear rdX rdY hm hA2 hE4
  go_region_held3 (fun w'=>w'.cell? ⟨w.heap.size,1,none⟩ = some (.int .i64 (H : Nat)))
    (first
      | go_keep
      | (rw [below5.cell (p:=⟨w.heap.size,1,none⟩) hB2];go_keep)
      | (rw [below6.cell (p:=⟨w.heap.size,1,none⟩) hB2];go_keep)
      | (rw [below5.cell (p:=⟨w.heap.size,1,none⟩) hB2];assumption)
      | (rw [below6.cell (p:=⟨w.heap.size,1,none⟩) hB2];assumption))
    (first
      | ((refine step_appB rfl (.tmp 87) (.tmp 94) rfl (by rfl) (own_emp (base:=w2.heap.size) (by first | exact Blk.new _ _ _ | exact (Blk.new _ _ _).drew | exact ((Blk.new _ _ _).alloc _).drew | exact (blk_at (by simp)).drew | exact blk_at (by simp) | exact (((Blk.new _ _ _).alloc _).drew).grown grown6 (by simp) | exact ((blk_at (by simp)).drew).grown grown6 (by simp) | exact ((Blk.new _ _ _).drew).grown grown6 (by simp)) (by first | exact Nat.le_refl _ | (simp;done) | (simp;omega) | (have:=below6.size;simp at this ⊢;omega))) (by rfl) (RX.out _ (by first | exact (bnext (Below.refl _ _) _).drew | exact (bnext (bnext (Below.refl _ _) _) _).drew | exact bnext (((bnext (Below.refl _ _) _).drew).trans below6) _ | exact ((bnext (bnext (Below.refl _ _) _) _).drew).trans below6)) (by omega) (by first | exact Nat.le_refl _ | (simp;done) | (simp;omega) | (have:=below6.size;simp at this ⊢;omega)) ?_;intro A5 c5 w5 own5 grown5 moved5 below5;rw [Nat.zero_add,List.nil_append] at own5))
      | ((refine step_appB rfl (.tmp 96) (.tmp 100) rfl (by rfl) (own_emp (base:=w2.heap.size) (by first | exact Blk.new _ _ _ | exact (Blk.new _ _ _).drew | exact ((Blk.new _ _ _).alloc _).drew | exact (blk_at (by simp)).drew | exact blk_at (by simp) | exact (((Blk.new _ _ _).alloc _).drew).grown grown5 (by simp) | exact ((blk_at (by simp)).drew).grown grown5 (by simp) | exact ((Blk.new _ _ _).drew).grown grown5 (by simp)) (by first | exact Nat.le_refl _ | (simp;done) | (simp;omega) | (have:=below5.size;simp at this ⊢;omega))) (by rfl) (RY.out _ (by first | exact (bnext (Below.refl _ _) _).drew | exact (bnext (bnext (Below.refl _ _) _) _).drew | exact bnext (((bnext (Below.refl _ _) _).drew).trans below5) _ | exact ((bnext (bnext (Below.refl _ _) _) _).drew).trans below5)) (by omega) (by first | exact Nat.le_refl _ | (simp;done) | (simp;omega) | (have:=below5.size;simp at this ⊢;omega)) ?_;intro A6 c6 w6 own6 grown6 moved6 below6;rw [Nat.zero_add,List.nil_append] at own6)))
  all_goals
    go_wp2_with fail;go_ret3
    refine RGetF.good HDE.out (Nat.le_of_lt hB2) (base:=w2.heap.size) (by first
      | exact own5
      | exact own5.grown grown6 (apart_moved moved5 (by simp <;> omega) (by simp <;> omega))
      | exact (own5.alloc _).grown grown6 (apart_last own5 (by simp))) (by first
      | exact own6
      | exact own6.grown grown5 (apart_moved moved6 (by simp <;> omega) (by simp <;> omega))
      | exact (own6.alloc _).grown grown5 (apart_last own6 (by simp))) rfl ?_
    refine hb2.trans (Below.mono ?_ (Nat.le_of_lt hB2))
    first
      | exact (bnext (((bnext (Below.refl _ _) _).drew).trans below5) _).trans below6
      | exact (bnext (((bnext (Below.refl _ _) _).drew).trans below6) _).trans below5
      | exact (((bnext (bnext (Below.refl _ _) _) _).drew).trans below5).trans below6
      | exact (((bnext (bnext (Below.refl _ _) _) _).drew).trans below6).trans below5
end Frame
end Go.Proofs.YtcgalmnllegnbaaGreat

namespace Go.Proofs.YtcgalmnllegnbaaGreat
set_option linter.unusedVariables false
set_option linter.unusedSimpArgs false
set_option maxRecDepth 100000
open Go.RowKit
open Dot
def ReadEnd (w : World) (g : Nat) (A : Option Addr) (n c : Nat) (bs : List UInt8) (e : Ending) (w' : World) : Prop :=
  ∃ A' m c',e = .returned (.agg (uc (rdU bs) (.slice A' m c')))∧OwnD w' w.heap.size A' m c' (rdL bs).1∧RSt w' g A n c bs (rdL bs).2.1 (rdL bs).2.2∧w.grownBy w' (some g)
set_option maxRecDepth 100000 in
set_option maxHeartbeats 1000000 in
theorem read_any (g : Nat) (A : Option Addr) (n c B : Nat) (bs : List UInt8) (w : World) (hR : RSt w g A n c bs bs 0) (hb : RdB w B A n bs) (hB : B≤g) (hglt : g < w.heap.size) (hn : n≤1000000000) :
    Calls Tryz.prog 63 #[.pointer (some ⟨g,0,none⟩)] w (ReadEnd w g A n c bs):=by
  unfold ReadEnd
  have ZS:=Lib.hid (show (#[.int .i64 0,.int .i64 0,.int .i64 0,.int .i64 0,.int .i64 0,.int .i64 0,.int .i64 0,.int .i64 0,.slice none 0 0] : Array Value).size = 9 from rfl);have hbg : RdB w g A n bs:=hb.more hB;have HBG:=Lib.hid hbg;clear hb hbg
  go_enter Tryz.func63,Tryz.ntmps63
  go_upto_region 2 with fail
  refine nameW ?_;intro wv hwv;obtain ⟨b,hbb⟩ : ∃ b,b = w.heap.size:=⟨_,rfl⟩;rw [← hbb]
  have kz : Blk wv b 72 #[.int .i64 0,.int .i64 0,.int .i64 0,.int .i64 0,.int .i64 0,.int .i64 0,.int .i64 0,.int .i64 0,.slice none 0 0]:=by rw [hwv,hbb];exact (Blk.new w _ _).alloc _
  have ks : Blk wv (b + 1) 72 (uc (pad8 []) (.slice none 0 0)):=by
    have h:=Blk.new (w.alloc (.cells #[.int .i64 0,.int .i64 0,.int .i64 0,.int .i64 0,.int .i64 0,.int .i64 0,.int .i64 0,.int .i64 0,.slice none 0 0] 72)) 72 #[.int .i64 0,.int .i64 0,.int .i64 0,.int .i64 0,.int .i64 0,.int .i64 0,.int .i64 0,.int .i64 0,.slice none 0 0];rw [hwv,hbb,← zero9p]
    simpa using h
  have gW : w.grownBy wv (some g):=by rw [hwv];exact only_alloc (only_alloc (grown_refl _ _) _) _
  have hR1 : RSt wv g A n c bs bs 0:=by rw [hwv];exact hR.map (fun _ _ k=>(k.alloc _).alloc _)
  have hwb : w.heap.size≤b:=by omega
  have hgb : g < b:=by omega
  clear hwv hbb hR;go_wp2_with fail
  go_loopw [8] (fun i wr=>∃ (k : Nat),k≤8∧i = .int .i64 k∧RSt wr g A n c bs (rdI k bs 0).2.1 (rdI k bs 0).2.2∧Blk wr (b + 1) 72 (uc (pad8 (rdI k bs 0).1) (.slice none 0 0))∧Blk wr b 72 #[.int .i64 0,.int .i64 0,.int .i64 0,.int .i64 0,.int .i64 0,.int .i64 0,.int .i64 0,.int .i64 0,.slice none 0 0]∧w.grownBy wr (some g)) (fun i _=>8 - (intOf i).toNat)
  case atStart=>exact ⟨0,by omega,rfl,hR1,ks,kz,gW⟩
  case round =>
  clear hR1 ks kz gW;obtain ⟨k,hk,rfl,hR,ks,kz,gW⟩:=hrel;have hrb:=Rdr.only HBG.out gW hglt
  by_cases hlt : k < 8
  case pos =>
    have hln:=rdI_len bs 0 k
    have hs : rdI (k + 1) bs 0 = ((rdI k bs 0).1 ++ [((Vint.intM (rdI k bs 0).2.1 (rdI k bs 0).2.2).1 : Int)],(Vint.intM (rdI k bs 0).2.1 (rdI k bs 0).2.2).2):=by rw [rdI]
    generalize rdI k bs 0 = S at *
    obtain ⟨L,r,e⟩:=S
    simp only at hs hR ks hln
    have hps:=pad8_set (l:=L) (by omega);have hpl:=pad8_len (l:=L) (by omega);have HSt:=Lib.hid hs;have HPS:=Lib.hid hps;have HPL:=Lib.hid hpl
    have hk0 : (0 : Int)≤(k : Int):=by omega
    have hk1 : (k : Int) < 8:=by omega
    clear hs hps hpl;go_wp2_with fail;refine (rint_m g A n c g bs r e wr hR hrb hn).mono ?_;rintro e' w3 ⟨rfl,g3,R3⟩
    generalize Vint.intM r e = V at *
    obtain ⟨v,r',e'⟩:=V
    simp only at R3 HSt
    have ks3:=ks.grown g3 (fun h=>by injection h;omega);have kz3:=kz.grown g3 (fun h=>by injection h;omega);have gW3:=grown_trans gW g3;have c0 : w3.cell? ⟨b + 1,k,none⟩ = some (.int .i64 ((pad8 L).getD k 0)):=(ks3.cell k).trans (uc_at HPL.out _ hlt);have f0:=ks3.free k;have hset:=uc_set HPL.out (.slice none 0 0) hlt ((v : Nat) : Int);rw [show (pad8 L).set k ((v : Nat) : Int) = pad8 (L ++ [((v : Nat) : Int)]) by rw [← hln];exact HPS.out _] at hset;have ks4:=ks3.set_ k (.int .i64 ((v : Nat) : Int));rw [hset] at ks4;have kz4:=kz3.far (p:=⟨b + 1,k,none⟩) (by show b ≠ b + 1;omega) (.int .i64 ((v : Nat) : Int));have gW4:=only_new gW3 (p:=⟨b + 1,k,none⟩) (by show _≤b + 1;omega) (.int .i64 ((v : Nat) : Int));have R4:=R3.map (fun _ _ q=>q.far (p:=⟨b + 1,k,none⟩) (by show g ≠ b + 1;omega) (.int .i64 ((v : Nat) : Int)));have KS:=Lib.hid ks4;have KZ:=Lib.hid kz4;have GW:=Lib.hid gW4;have RR:=Lib.hid R4;clear hset ks4 kz4 gW4 R4 ks kz gW hR R3 ks3 kz3 gW3 g3 hrb;go_wp2_with fail
    go_roundw
    case rel=>exact ⟨k + 1,by omega,by go_num,by rw [HSt.out];exact RR.out,by rw [HSt.out];exact KS.out,KZ.out,GW.out⟩
    case measure=>simp [intOf];omega
  case neg =>
  obtain rfl : k = 8:=by omega
  have hUl:=rdI_len bs 0 8
  have hNN : rdN bs = Vint.intM (rdI 8 bs 0).2.1 (rdI 8 bs 0).2.2:=by rw [rdN]
  have hUU : rdU bs = (rdI 8 bs 0).1:=by rw [rdU]
  rw [pad8_all hUl,← hUU] at ks;rw [← hUU] at hUl
  generalize rdI 8 bs 0 = S at *
  obtain ⟨L0,r,e⟩:=S
  simp only at hNN hR
  have HNN:=Lib.hid hNN;have HUL:=Lib.hid hUl;have HRL:=Lib.hid (show rdL bs = rdDs (rdN bs).1 (rdN bs).2.1 (failM (rdN bs).1 (rdN bs).2.2) by rw [rdL]);clear hNN hUU hUl
  generalize hUe : rdU bs = U at *
  have HUE:=Lib.hid hUe;clear hUe;go_wp2_with fail;refine (rint_m g A n c g bs r e wr hR hrb hn).mono ?_;rintro e1 w3 ⟨rfl,g3,R3⟩;have hsm:=intM_small r e;rw [← HNN.out] at R3 hsm ⊢
  generalize rdN bs = V at *
  obtain ⟨v,r,e⟩:=V
  simp only at R3 HRL hsm ⊢
  have ks3:=ks.grown g3 (fun h=>by injection h;omega);have kz3:=kz.grown g3 (fun h=>by injection h;omega);have gW3:=grown_trans gW g3;clear ks kz gW hR g3 HNN hrb
  by_cases hbig : 768 < v
  case pos =>
    have he0 : e = 0:=by
      false_or_by_contra
      have:=hsm (by assumption)
      omega
    subst he0
    have hfm : failM v 0 = 6:=by unfold failM;rw [if_pos hbig];rfl
    have hrl:=HRL.out;rw [hfm,rdDs_stuck r 6 0 (show (6 : Nat) ≠ 0 by decide) v (by omega)] at hrl;have hrl2 : rdL bs = ([],r,6):=hrl;have HRLx:=Lib.hid hrl2;have hdb : decide ((768 : Int) < ((v : Nat) : Int)) = true:=decide_eq_true (by omega);clear HRL hfm hrl hrl2 hsm;go_wp2_with fail;refine (rfail_m g 6 A n c bs r 0 _ R3).mono ?_;rintro e1 w4 ⟨rfl,g4,R4⟩;rw [if_pos rfl] at R4;have ks4:=ks3.grown g4 (fun h=>by injection h;omega);have kz4:=kz3.grown g4 (fun h=>by injection h;omega);have gW4:=grown_trans gW3 g4;clear ks3 kz3 gW3 R3 g4;go_wp2_with fail
    go_loopw [6] (fun i wr=>∃ k : Nat,k = 0∧i = .int .i64 k∧w4 = wr) (fun _ _=>0)
    case atStart=>exact ⟨0,rfl,rfl,rfl⟩
    case round =>
      obtain ⟨k,hk0,rfl,rfl⟩:=hrel
      have hk1 : (k : Int) < ((v : Nat) : Int):=by omega
      clear hk0 hbig hdb;have hR:=R4;have ks:=ks4;have kz:=kz4;have gW:=gW4;have oD : OwnD w4 w4.heap.size none 0 0 []:=OwnD.nil _ _;obtain ⟨Ad,hAd⟩ : ∃ Ad : Option Addr,Ad = none:=⟨_,rfl⟩;obtain ⟨m,hm0⟩ : ∃ m : Nat,m = 0:=⟨_,rfl⟩;obtain ⟨cd,hcd⟩ : ∃ cd : Nat,cd = 0:=⟨_,rfl⟩
      have oD : OwnD w4 w4.heap.size Ad m cd []:=by rw [hAd,hm0,hcd];exact OwnD.nil _ _
      rw [show (uc U (.slice none 0 0)) = uc U (.slice Ad m cd) by rw [hAd,hm0,hcd]] at ks;have hwo0 : w.heap.size≤w4.heap.size:=gW.size;obtain ⟨at9,_,k9,_⟩:=R4;have c2 : w4.cell? ⟨g,2,none⟩ = some (.int .i64 6):=k9.cell 2;clear kz4 gW4 ks4 k9 hAd hm0 hcd
      go_upto_region 15 with fail
      clear c2;have HUS:=Lib.hid (uc_size HUL.out (.slice Ad m cd));have HUO:=Lib.hid (uc_one (U:=U) (s:=.slice Ad m cd) rfl);obtain ⟨su,hsu⟩ : ∃ su,su = uc U (.slice Ad m cd):=⟨_,rfl⟩;rw [← hsu] at HUS HUO ks;have HSU:=Lib.hid hsu;clear hsu
      go_wp2_with (first
        | ((with_reducible refine wpList_ld rowRS ks HUS.out ?_ ?_);rotate_left;(rfl))
        | ((with_reducible refine wpList_st rowRS kz HUS.out ZS.out HUO.out ?_ ?_ ?_);rotate_left;(rfl);(rfl);intro w92 k92 g92 z92))
      have o92:=oD.grown g92 (.inr (own_ne oD.2 kz (by decide)));have gz:=grown_on gW g92 hwb;have r92:=hR.map (fun _ _ k=>k.grown g92 (fun h=>by injection h;omega));have hrl:=HRLx.out;exact bodyPost_ret (v:=.agg su) (results_blk rfl rowRS k92 HUS.out rfl) rfl ⟨Ad,m,cd,by rw [HSU.out,HUE.out],by rw [hrl];exact o92.mono hwo0,by rw [hrl];exact r92,gz⟩
  case neg =>
    have hfm : failM v e = e:=by unfold failM;rw [if_neg hbig]
    have hdb : decide ((768 : Int) < ((v : Nat) : Int)) = false:=decide_eq_false (by omega);have hrl:=HRL.out;rw [hfm] at hrl;have HRL2:=Lib.hid hrl;clear hrl hfm HRL hsm;go_wp2_with fail;obtain ⟨wo,hwo⟩ : ∃ wo,wo = w3:=⟨_,rfl⟩
    have hbs2 : b + 1 < wo.heap.size:=by rw [hwo];exact ks3.lt
    have hbs4 : wo.heap.size≤w3.heap.size:=by rw [hwo];exact Nat.le_refl _
    have hwo0 : w.heap.size≤wo.heap.size:=by rw [hwo];exact gW3.size
    clear hwo
    go_loopw [6] (fun i wr=>∃ (k : Nat) (Ad : Option Addr) (m cd : Nat),k≤v∧i = .int .i64 k∧m≤k∧RSt wr g A n c bs (rdDs k r e).2.1 (rdDs k r e).2.2∧Blk wr (b + 1) 72 (uc U (.slice Ad m cd))∧OwnD wr wo.heap.size Ad m cd (rdDs k r e).1∧Blk wr b 72 #[.int .i64 0,.int .i64 0,.int .i64 0,.int .i64 0,.int .i64 0,.int .i64 0,.int .i64 0,.int .i64 0,.slice none 0 0]∧w.grownBy wr (some g)∧wo.heap.size≤wr.heap.size) (fun i _=>v - (intOf i).toNat)
    case atStart=>exact ⟨0,none,0,0,by omega,rfl,by omega,R3,ks3,OwnD.nil _ _,kz3,gW3,hbs4⟩
    case round =>
    clear R3 ks3 kz3 gW3 hbs4;obtain ⟨k,Ad,m,cd,hk,rfl,hmk,hR,ks,oD,kz,gW,hws⟩:=hrel
    have hk0 : (0 : Int)≤(k : Int):=by omega
    have hst : k < v→(rdDs k r e).2.2 = 0→rdDs (k + 1) r e = ((rdDs k r e).1 ++ [(rdD1 (rdDs k r e).2).1],(rdD1 (rdDs k r e).2).2):=fun _ h=>by rw [rdDs,if_pos h]
    have hfin : (k = v∨(rdDs k r e).2.2 ≠ 0)→rdDs v r e = rdDs k r e:=fun h=>by
      rcases h with h | h
      · rw [h]
      · exact rdDs_stuck r e k h v hk
    generalize rdDs k r e = S at *
    obtain ⟨L,r1,e1⟩:=S
    simp only at hR oD hst hfin
    have HST:=Lib.hid hst;have HFN:=Lib.hid hfin;clear hst hfin;have hrb:=Rdr.only HBG.out gW hglt;obtain ⟨at9,h91,k9,h92⟩:=hR;have c2 : wr.cell? ⟨g,2,none⟩ = some (.int .i64 (e1 : Nat)):=k9.cell 2;have hR : RSt wr g A n c bs r1 e1:=⟨at9,h91,k9,h92⟩;clear h91 k9 h92
    by_cases hgo : k < v∧e1 = 0
    case pos =>
      obtain ⟨hlt,rfl⟩:=hgo;have hst:=HST.out hlt rfl;have HST2:=Lib.hid hst
      have hk1 : (k : Int) < ((v : Nat) : Int):=by omega
      have hv:=hbig;clear HST HFN hst HRL2;go_wp2_with fail;clear c2;refine (rint_m g A n c g bs r1 0 wr hR hrb hn).mono ?_;rintro e' w4 ⟨rfl,g4,R4⟩
      have hrd : rdD1 (r1,0) = ((((Vint.intM r1 0).1 : Int),((Vint.intM (Vint.intM r1 0).2.1 (Vint.intM r1 0).2.2).1 : Int)),(Vint.intM (Vint.intM r1 0).2.1 (Vint.intM r1 0).2.2).2):=by rw [rdD1]
      rw [hrd] at HST2;clear hrd
      generalize Vint.intM r1 0 = V1 at *
      obtain ⟨x1,r2,e2⟩:=V1
      simp only at R4 HST2
      have ks4:=ks.grown g4 (fun h=>by injection h;omega);have kz4:=kz.grown g4 (fun h=>by injection h;omega);have gW4:=grown_trans gW g4;have o4:=oD.grown g4 (.inr (fun h=>by have:=(oD.lt g h).1;omega));have hws4:=Nat.le_trans hws g4.size;have hrb4:=Rdr.only HBG.out gW4 hglt;clear ks kz gW oD hR g4 hrb;have hri:=rint_m g A n c g bs r2 e2
      unfold RIntM at hri
      generalize Vint.intM r2 e2 = V2 at *
      obtain ⟨x2,r3,e3⟩:=V2
      simp only at hri HST2
      have HRI:=Lib.hid hri;clear hri
      go_upto_region 14 with fail
      have c8 : w4.cell? ⟨b + 1,8,none⟩ = some (.slice Ad m cd):=(ks4.cell 8).trans (uc_last HUL.out _);refine wp_region_held_drew (S:=fun _=>True) (by kernel_rfl) trivial (fun hS=>?_)
      replace ks4:=ks4.drew
      replace kz4:=kz4.drew
      replace gW4 : w.grownBy w4.drew (some g):=only_drew gW4
      replace o4:=o4.drew
      replace R4 : RSt w4.drew g A n c bs r2 e2:=R4.map (fun _ _ q=>q.drew)
      replace hrb4 : RdB w4.drew g A n bs:=Rdr.only HBG.out gW4 hglt
      replace c8 : w4.drew.cell? ⟨b + 1,8,none⟩ = some (.slice Ad m cd):=(ks4.cell 8).trans (uc_last HUL.out _)
      replace hws4 : wo.heap.size≤w4.drew.heap.size:=hws4
      generalize w4.drew = wd at *
      refine wpAnyH_take (i:=0) (v:=?rv249) rfl (by kernel_rfl) (by kernel_rfl) (by kernel_rfl) (fun _ _ _ h=>h) (Or.inl ⟨by rfl,?ry249⟩) hS ?_
      case ry249=>(intro wS hSw;clear hSw;go_simp;(try with_reducible rfl))
      simp only [Act.put,List.getElem_toArray,List.getElem_cons_zero,List.getElem_cons_succ,List.setIfInBounds_toArray,List.set_cons_succ,List.set_cons_zero]
      refine wpAnyH_take (i:=2) (v:=?rv252) rfl (by kernel_rfl) (by kernel_rfl) (by kernel_rfl) (fun _ _ _ h=>h) (Or.inl ⟨by rfl,?ry252⟩) hS ?_
      case ry252=>(intro wS hSw;clear hSw;go_simp;(try with_reducible rfl))
      simp only [Act.put,List.getElem_toArray,List.getElem_cons_zero,List.getElem_cons_succ,List.setIfInBounds_toArray,List.set_cons_succ,List.set_cons_zero]
      refine wpAnyH_take (i:=3) (v:=?rv255) rfl (by kernel_rfl) (by kernel_rfl) (by kernel_rfl) (fun _ _ _ h=>h) (Or.inl ⟨by rfl,?ry255⟩) hS ?_
      case ry255=>(intro wS hSw;clear hSw;go_simp;(try with_reducible rfl))
      simp only [Act.put,List.getElem_toArray,List.getElem_cons_zero,List.getElem_cons_succ,List.setIfInBounds_toArray,List.set_cons_succ,List.set_cons_zero]
      clear c8;refine wpAnyH_ready (rs:=[1,4]) (by kernel_rfl) (by simp) ?_;refine AllReadyH.cons rfl (fun K hK=>?first) (AllReadyH.cons rfl (fun K hK=>?second) .nil)
      case' first =>
        have c8 : wd.cell? ⟨b + 1,8,none⟩ = some (.slice Ad m cd):=(ks4.cell 8).trans (uc_last HUL.out _);go_simp;refine hK.out _ _ trivial (fun hS=>?_);clear hK K c8;refine wpAnyH_ready (rs:=[4]) (by kernel_rfl) (by simp) ?_;refine AllReadyH.cons rfl (fun K hK=>?_) .nil;go_simp;refine (HRI.out _ R4 hrb4 hn).mono ?_;rintro e' w6 ⟨rfl,g6,R6⟩;have ks6:=ks4.grown g6 (fun h=>by injection h;omega);have kz6:=kz4.grown g6 (fun h=>by injection h;omega);have gW6:=grown_trans gW4 g6;have o6:=o4.grown g6 (.inr (fun h=>by have:=(o4.lt g h).1;omega));have hws6:=Nat.le_trans hws4 g6.size;refine hK.out _ _ trivial (fun hS=>?_);clear hK K ks4 kz4 gW4 o4 hws4 R4 hrb4 g6;refine wpAnyH_take (i:=5) (v:=?rv278) rfl (by kernel_rfl) (by kernel_rfl) (by kernel_rfl) (fun _ _ _ h=>h) (Or.inl ⟨by rfl,?ry278⟩) hS ?_
        case ry278=>(intro wS hSw;clear hSw;go_simp;(try with_reducible rfl))
        simp only [Act.put,List.getElem_toArray,List.getElem_cons_zero,List.getElem_cons_succ,List.setIfInBounds_toArray,List.set_cons_succ,List.set_cons_zero]
        refine wpAnyH_ready (rs:=[6]) (by kernel_rfl) (by simp) ?_;refine AllReadyH.cons rfl (fun K hK=>?_) .nil;go_simp;have ks7:=ks6.alloc (.cells #[.int .i64 (x1 : Nat),.int .i64 (x2 : Nat)] 100);have kz7:=kz6.alloc (.cells #[.int .i64 (x1 : Nat),.int .i64 (x2 : Nat)] 100);have gW7:=only_alloc gW6 (.cells #[.int .i64 (x1 : Nat),.int .i64 (x2 : Nat)] 100);have o7:=o6.alloc (.cells #[.int .i64 (x1 : Nat),.int .i64 (x2 : Nat)] 100);have R7:=R6.map (w':=w6.alloc (.cells #[.int .i64 (x1 : Nat),.int .i64 (x2 : Nat)] 100)) (fun _ _ q=>q.alloc _);have rX:=Rd.made w6 #[.int .i64 (x1 : Nat),.int .i64 (x2 : Nat)] 100 (0,0)
        have hws7 : wo.heap.size≤(w6.alloc (.cells #[.int .i64 (x1 : Nat),.int .i64 (x2 : Nat)] 100)).heap.size:=by simp;omega
        refine hK.out _ _ trivial (fun hS=>?_);clear hK K ks6 kz6 gW6 o6 R6 hws6
        generalize w6.alloc (.cells #[.int .i64 (x1 : Nat),.int .i64 (x2 : Nat)] 100) = w7 at *
        generalize w6.heap.size = gx at *
      case' second =>
        go_simp;refine (HRI.out _ R4 hrb4 hn).mono ?_;rintro e' w6 ⟨rfl,g6,R6⟩;have ks6:=ks4.grown g6 (fun h=>by injection h;omega);have kz6:=kz4.grown g6 (fun h=>by injection h;omega);have gW6:=grown_trans gW4 g6;have o6:=o4.grown g6 (.inr (fun h=>by have:=(o4.lt g h).1;omega));have hws6:=Nat.le_trans hws4 g6.size;refine hK.out _ _ trivial (fun hS=>?_);clear hK K ks4 kz4 gW4 o4 hws4 R4 hrb4 g6;refine wpAnyH_take (i:=5) (v:=?rv306) rfl (by kernel_rfl) (by kernel_rfl) (by kernel_rfl) (fun _ _ _ h=>h) (Or.inl ⟨by rfl,?ry306⟩) hS ?_
        case ry306=>(intro wS hSw;clear hSw;go_simp;(try with_reducible rfl))
        simp only [Act.put,List.getElem_toArray,List.getElem_cons_zero,List.getElem_cons_succ,List.setIfInBounds_toArray,List.set_cons_succ,List.set_cons_zero]
        refine wpAnyH_ready (rs:=[1,6]) (by kernel_rfl) (by simp) ?_;refine AllReadyH.cons rfl (fun K hK=>?third) (AllReadyH.cons rfl (fun K hK=>?fourth) .nil)
      case' third =>
        have c8 : w6.cell? ⟨b + 1,8,none⟩ = some (.slice Ad m cd):=(ks6.cell 8).trans (uc_last HUL.out _);go_simp;refine hK.out _ _ trivial (fun hS=>?_);clear hK K c8;refine wpAnyH_ready (rs:=[6]) (by kernel_rfl) (by simp) ?_;refine AllReadyH.cons rfl (fun K hK=>?_) .nil;go_simp;have ks7:=ks6.alloc (.cells #[.int .i64 (x1 : Nat),.int .i64 (x2 : Nat)] 100);have kz7:=kz6.alloc (.cells #[.int .i64 (x1 : Nat),.int .i64 (x2 : Nat)] 100);have gW7:=only_alloc gW6 (.cells #[.int .i64 (x1 : Nat),.int .i64 (x2 : Nat)] 100);have o7:=o6.alloc (.cells #[.int .i64 (x1 : Nat),.int .i64 (x2 : Nat)] 100);have R7:=R6.map (w':=w6.alloc (.cells #[.int .i64 (x1 : Nat),.int .i64 (x2 : Nat)] 100)) (fun _ _ q=>q.alloc _);have rX:=Rd.made w6 #[.int .i64 (x1 : Nat),.int .i64 (x2 : Nat)] 100 (0,0)
        have hws7 : wo.heap.size≤(w6.alloc (.cells #[.int .i64 (x1 : Nat),.int .i64 (x2 : Nat)] 100)).heap.size:=by simp;omega
        refine hK.out _ _ trivial (fun hS=>?_);clear hK K ks6 kz6 gW6 o6 R6 hws6
        generalize w6.alloc (.cells #[.int .i64 (x1 : Nat),.int .i64 (x2 : Nat)] 100) = w7 at *
        generalize w6.heap.size = gx at *
      case' fourth =>
        go_simp;have ks7:=ks6.alloc (.cells #[.int .i64 (x1 : Nat),.int .i64 (x2 : Nat)] 100);have kz7:=kz6.alloc (.cells #[.int .i64 (x1 : Nat),.int .i64 (x2 : Nat)] 100);have gW7:=only_alloc gW6 (.cells #[.int .i64 (x1 : Nat),.int .i64 (x2 : Nat)] 100);have o7:=o6.alloc (.cells #[.int .i64 (x1 : Nat),.int .i64 (x2 : Nat)] 100);have R7:=R6.map (w':=w6.alloc (.cells #[.int .i64 (x1 : Nat),.int .i64 (x2 : Nat)] 100)) (fun _ _ q=>q.alloc _);have rX:=Rd.made w6 #[.int .i64 (x1 : Nat),.int .i64 (x2 : Nat)] 100 (0,0)
        have hws7 : wo.heap.size≤(w6.alloc (.cells #[.int .i64 (x1 : Nat),.int .i64 (x2 : Nat)] 100)).heap.size:=by simp;omega
        refine hK.out _ _ trivial (fun hS=>?_);clear hK K ks6 kz6 gW6 o6 R6 hws6
        generalize w6.alloc (.cells #[.int .i64 (x1 : Nat),.int .i64 (x2 : Nat)] 100) = w7 at *
        generalize w6.heap.size = gx at *
        refine wpAnyH_ready (rs:=[1]) (by kernel_rfl) (by simp) ?_;refine AllReadyH.cons rfl (fun K hK=>?_) .nil;have c8 : w7.cell? ⟨b + 1,8,none⟩ = some (.slice Ad m cd):=(ks7.cell 8).trans (uc_last HUL.out _);go_simp;refine hK.out _ _ trivial (fun hS=>?_);clear hK K c8
      all_goals
        refine wpAnyH_ready (rs:=[7]) (by kernel_rfl) (by simp) ?_;refine AllReadyH.cons rfl (fun K hK=>?_) .nil;refine step_appD rfl (.tmp 38) (.tmp 43) rfl (by rfl) o7 (by rfl) (m:=1) (news:=[(((x1 : Nat) : Int),((x2 : Nat) : Int))]) rX rfl (by omega) hws7 ?_;intro A8 c8' w8 o8 g8 m8 b8;have ks8:=ks7.grown g8 (own_ne o7.2 ks7 (by decide));have kz8:=kz7.grown g8 (own_ne o7.2 kz7 (by decide));have gW8:=only_below gW7 (b8.mono hwo0);have R8:=R7.map (fun _ _ q=>q.grown g8 (fun h=>by have:=(o7.lt g h).1;omega));have hws8:=Nat.le_trans hws7 b8.size;refine hK.out _ _ trivial (fun hS=>?_);clear hK K ks7 kz7 gW7 o7 R7 hws7 g8 m8 b8 rX;refine wpAnyH_take (i:=8) (v:=?rv361) rfl (by kernel_rfl) (by kernel_rfl) (by kernel_rfl) (fun _ _ _ h=>h) (Or.inl ⟨by rfl,?ry361⟩) hS ?_
        case ry361=>(intro wS hSw;clear hSw;go_simp;(try with_reducible rfl))
        simp only [Act.put,List.getElem_toArray,List.getElem_cons_zero,List.getElem_cons_succ,List.setIfInBounds_toArray,List.set_cons_succ,List.set_cons_zero]
        have c9 : w8.cell? ⟨b + 1,8,none⟩ = some (.slice Ad m cd):=(ks8.cell 8).trans (uc_last HUL.out _);have f9:=ks8.free 8;have hne8:=own_ne o8.2 ks8 (by decide);have ks9:=ks8.set_ 8 (.slice A8 (m + 1) c8');rw [uc_setS HUL.out] at ks9;have kz9:=kz8.far (p:=⟨b + 1,8,none⟩) (by show b ≠ b + 1;omega) (.slice A8 (m + 1) c8');have gW9:=only_new gW8 (p:=⟨b + 1,8,none⟩) (by show _≤b + 1;omega) (.slice A8 (m + 1) c8');have o9:=o8.setFar (p:=⟨b + 1,8,none⟩) hne8 (.slice A8 (m + 1) c8');have R9:=R8.map (fun _ _ q=>q.far (p:=⟨b + 1,8,none⟩) (by show g ≠ b + 1;omega) (.slice A8 (m + 1) c8'))
        have hws9 : wo.heap.size≤(w8.setCell ⟨b + 1,8,none⟩ (.slice A8 (m + 1) c8')).heap.size:=by simpa [World.setCell] using hws8
        have KS:=Lib.hid ks9;have KZ:=Lib.hid kz9;have GW:=Lib.hid gW9;have OO:=Lib.hid o9;have RR:=Lib.hid R9;have WS:=Lib.hid hws9;clear ks9 kz9 gW9 o9 R9 hws9 ks8 kz8 gW8 o8 R8 hws8 hne8;refine wpAnyH_ready (rs:=[9]) (by kernel_rfl) (by simp) ?_;refine AllReadyH.cons rfl (fun K hK=>?_) .nil;go_simp;refine hK.out _ _ trivial (fun hS=>?_);clear hK K c9 f9;refine wpAnyH_done (by kernel_rfl) ?_ _;go_wp2_with fail
        go_roundw
        case rel=>exact ⟨_,_,_,_,_,_,_,_,_,_,_,_,_,_,_,_,_,_,_,_,_,_,_,_,_,⟨k + 1,A8,m + 1,c8',by omega,by go_num,by omega,by rw [HST2.out];exact RR.out,KS.out,by rw [HST2.out];exact OO.out,KZ.out,GW.out,WS.out⟩,rfl⟩
        case measure=>simp [intOf];omega
    case neg =>
      have hf2:=HFN.out (by omega);have hrl:=HRL2.out;rw [hf2] at hrl;have HRLx:=Lib.hid hrl;clear HST HFN hf2 hrl HRL2 hrb
      by_cases hlt : k < v
      case' pos =>
        have he1 : e1 ≠ 0:=fun h=>hgo ⟨hlt,h⟩
        have hk1 : (k : Int) < ((v : Nat) : Int):=by omega
        have hq : (((e1 : Nat) : Int) == 0) = false:=by rw [beq_eq_false_iff_ne];omega
        go_upto_region 15 with fail
        clear c2
      case' neg =>
        obtain rfl : k = v:=by omega
        clear hgo
        go_upto_region 15 with fail
        clear c2
      all_goals
        have HUS:=Lib.hid (uc_size HUL.out (.slice Ad m cd));have HUO:=Lib.hid (uc_one (U:=U) (s:=.slice Ad m cd) rfl);obtain ⟨su,hsu⟩ : ∃ su,su = uc U (.slice Ad m cd):=⟨_,rfl⟩;rw [← hsu] at HUS HUO ks;have HSU:=Lib.hid hsu;clear hsu
        go_wp2_with (first
          | ((with_reducible refine wpList_ld rowRS ks HUS.out ?_ ?_);rotate_left;(rfl))
          | ((with_reducible refine wpList_st rowRS kz HUS.out ZS.out HUO.out ?_ ?_ ?_);rotate_left;(rfl);(rfl);intro w92 k92 g92 z92))
        have o92:=oD.grown g92 (.inr (own_ne oD.2 kz (by decide)));have gz:=grown_on gW g92 hwb;have r92:=hR.map (fun _ _ k=>k.grown g92 (fun h=>by injection h;omega));have hrl:=HRLx.out;exact bodyPost_ret (v:=.agg su) (results_blk rfl rowRS k92 HUS.out rfl) rfl ⟨Ad,m,cd,by rw [HSU.out,HUE.out],by rw [hrl];exact o92.mono hwo0,by rw [hrl];exact r92,gz⟩
end Go.Proofs.YtcgalmnllegnbaaGreat

namespace Go.Proofs.YtcgalmnllegnbaaGreat
set_option linter.unusedVariables false
set_option linter.unusedSimpArgs false
set_option maxRecDepth 100000
open Go.RowKit
open Dot
set_option maxRecDepth 100000 in
set_option maxHeartbeats 1000000 in
theorem rget_any (A : Option Addr) (n c : Nat) (bs : List UInt8) (B : Nat) (w : World) (hb : RdB w B A n bs) (hB : B≤w.heap.size) (hl : n≤1000000000) :
    Calls Tryz.prog 28 #[.slice A n c] w (GetEnd w bs):=by
  unfold GetEnd
  have ZS:=Lib.hid (show (#[.int .i64 0,.int .i64 0,.int .i64 0,.int .i64 0,.int .i64 0,.int .i64 0,.int .i64 0,.int .i64 0,.slice none 0 0] : Array Value).size = 9 from rfl);have ZS1:=Lib.hid (show (#[.int .i64 0,.int .i64 0,.int .i64 0,.int .i64 0,.int .i64 0,.int .i64 0,.int .i64 0,.int .i64 0,.slice none 0 0] : Array Value).all (·.oneCell') = true by rw [zero9];exact uc_one rfl);have HNB:=Lib.hid hb.1
  go_enter Tryz.func28,Tryz.ntmps28
  go_upto_region 2 with fail
  refine nameW ?_;intro wv hwv;obtain ⟨b,hbb⟩ : ∃ b,b = w.heap.size:=⟨_,rfl⟩;rw [← hbb]
  have kz : Blk wv b 72 #[.int .i64 0,.int .i64 0,.int .i64 0,.int .i64 0,.int .i64 0,.int .i64 0,.int .i64 0,.int .i64 0,.slice none 0 0]:=by rw [hwv,hbb];exact (Blk.new w _ _).alloc _
  have kr : Blk wv (b + 1) 68 #[.slice A n c,.int .i64 0,.int .i64 0]:=by
    have h:=Blk.new (w.alloc (.cells #[.int .i64 0,.int .i64 0,.int .i64 0,.int .i64 0,.int .i64 0,.int .i64 0,.int .i64 0,.int .i64 0,.slice none 0 0] 72)) 68 #[.slice A n c,.int .i64 0,.int .i64 0];rw [hwv,hbb]
    simpa using h
  have gW : Below w.heap.size w wv:=by rw [hwv];exact ((Below.refl _ _).alloc (Nat.le_refl _) _).alloc (by simp) _
  have hwb : w.heap.size≤b:=by omega
  have hrv : RdB wv B A n bs:=hb.below (gW.mono hB)
  have hBb : B≤b:=by omega
  have hwv1:=gW.size;clear hwv hbb hb;have hRs : RSt wv (b + 1) A n c bs bs 0:=⟨0,Nat.zero_le _,kr,rfl⟩;have hgl:=kr.lt;clear kr;obtain ⟨g,hg⟩ : ∃ g,g = b + 1:=⟨_,rfl⟩;rw [← hg] at hRs hgl ⊢
  have hbg : b < g:=by omega
  have hBg : B≤g:=by omega
  clear hg hBb;go_wp2_with fail;refine (read_any g A n c B bs wv hRs hrv hBg hgl (by omega)).mono ?_;rintro e w1 ⟨A1,m1,c1,rfl,o1,R1,g1⟩;have kz1:=kz.grown g1 (fun h=>by injection h;omega);have gW1:=gW.grown g1 gW.size (fun q hq=>by injection hq;omega);have hgl1:=Nat.lt_of_lt_of_le hgl g1.size;have hUl : (rdU bs).length = 8:=rdI_len bs 0 8
  have hgedef : getE bs = if (rdL bs).2.2 = 0∧((rdL bs).2.1 ≠ []∨rightB (rdU bs) (rdL bs).1 = false) then 4 else (rdL bs).2.2:=by rw [getE]
  have hgu : getE bs = 0→getU bs = rdU bs∧getL bs = (rdL bs).1:=fun h=>by unfold getU getL;rw [if_pos h,if_pos h];exact ⟨rfl,rfl⟩
  generalize rdL bs = S at *
  obtain ⟨L,r,e⟩:=S
  simp only at o1 R1 hgedef hgu
  have HGEd:=Lib.hid hgedef;have HGUd:=Lib.hid hgu;have HUL:=Lib.hid hUl;have HUS:=Lib.hid (uc_size hUl (.slice A1 m1 c1));have HUO:=Lib.hid (uc_one (U:=rdU bs) (s:=.slice A1 m1 c1) rfl)
  have hra:=fun w' (h : Below w1.heap.size w1 w')=>rright_any (rdU bs) hUl A1 m1 c1 L w' ((o1.rd.below h).more h.size)
  obtain ⟨su,hsu⟩ : ∃ su,su = uc (rdU bs) (.slice A1 m1 c1):=⟨_,rfl⟩;rw [← hsu] at HUS HUO hra ⊢;have HRA:=Lib.hid hra;have HSU:=Lib.hid hsu;clear hUl hgedef hgu hsu hra kz gW hgl hRs hrv g1
  go_upto_region 3 with ((with_reducible refine wpList_st rowRS (Blk.new _ _ _) HUS.out ?_ HUO.out ?_ ?_ ?_);(rfl);rotate_left;(rfl);(rfl);intro w2 k2 g2 z2)
  have q2 : Below w1.heap.size w1 w2:=((Below.refl _ _).alloc (Nat.le_refl _) _).grown g2 (by simp) (fun q hq=>by injection hq with hq;omega);have kz:=kz1.below q2 kz1.lt;have gW:=gW1.trans (q2.mono gW1.size);have o2:=o1.below q2 (Nat.le_refl _);have R2 : RSt w2 g A n c bs r e:=R1.map (fun _ _ k=>k.below q2 hgl1);have hgl:=Nat.lt_of_lt_of_le hgl1 q2.size;obtain ⟨gs,hgs⟩ : ∃ gs,gs = w1.heap.size:=⟨_,rfl⟩
  have hggs : g < gs:=by omega
  have hw1g : w1.heap.size≤gs:=by omega
  rw [← hgs] at k2 ⊢;clear hgs g2 z2 kz1 gW1 o1 R1 hgl1;obtain ⟨at',hat,kR,hdr⟩:=R2;have c1' : w2.cell? ⟨g,1,none⟩ = some (.int .i64 (at' : Nat)):=kR.cell 1;have c2 : w2.cell? ⟨g,2,none⟩ = some (.int .i64 (e : Nat)):=kR.cell 2;have f2:=kR.free 2
  have hrn : r = []↔at' = n:=by
    have:=HNB.out
    have h2:=congrArg List.length hdr;rw [List.length_drop] at h2
    constructor
    · intro h;rw [h] at h2;simp at h2;omega
    · intro h;rw [← List.length_eq_zero_iff];omega
  have HRN:=Lib.hid hrn;obtain ⟨kzc,hkzc⟩ : ∃ kzc : Array Value,kzc = #[.int .i64 0,.int .i64 0,.int .i64 0,.int .i64 0,.int .i64 0,.int .i64 0,.int .i64 0,.int .i64 0,.slice none 0 0]:=⟨_,rfl⟩;rw [← hkzc] at kz;have KZS:=Lib.hid (show kzc.size = 9 by rw [hkzc];rfl);clear hkzc hrn hdr;have hk4:=Blk.set_ kR 2 (.int .i64 4)
  by_cases he : e = 0
  case neg =>
    have hq : (((e : Nat) : Int) == 0) = false:=by rw [beq_eq_false_iff_ne];omega
    have hge:=HGEd.out;rw [if_neg (fun h=>he h.1)] at hge;have HGE:=Lib.hid hge;clear HGEd HGUd HRA hge c1' hk4 f2 kR
    have hxe : ((((e : Nat) : Int)) != 0) = true:=by rw [bne_iff_ne];omega
    go_upto_region 6 with fail
    refine wp_region_held_drew (S:=fun w'=>w'.cell? ⟨g,2,none⟩ = some (.int .i64 ((e : Nat) : Int))∧Blk w' b 72 kzc∨w'.cell? ⟨g,2,none⟩ = some (.int .i64 ((e : Nat) : Int))) (by kernel_rfl) (.inr c2) (fun hS=>?_)
    replace kz:=kz.drew
    replace gW:=gW.drew
    have c2d : (w2).drew.cell? ⟨g,2,none⟩ = some (.int .i64 ((e : Nat) : Int)):=c2;clear c2 hS
    generalize (w2).drew = wd at *
    have hS:=Or.inr (a:=wd.cell? ⟨g,2,none⟩ = some (.int .i64 ((e : Nat) : Int))∧Blk wd b 72 kzc) c2d;refine wpAnyH_take (i:=0) (v:=?rv107) rfl (by kernel_rfl) (by kernel_rfl) (by kernel_rfl) (fun _ _ _ h=>h) (Or.inl ⟨by rfl,?ry107⟩) hS ?_
    case ry107=>(intro wS hSw;clear hSw;go_simp;(try with_reducible rfl))
    simp only [Act.put,List.getElem_toArray,List.getElem_cons_zero,List.getElem_cons_succ,List.setIfInBounds_toArray,List.set_cons_succ,List.set_cons_zero]
    refine wpAnyH_take (i:=1) (v:=?rv110) rfl (by kernel_rfl) (by kernel_rfl) (by kernel_rfl) (fun _ _ _ h=>h) (Or.inl ⟨by rfl,?ry110⟩) hS ?_
    case ry110=>(intro wS hSw;clear hSw;go_simp;(try with_reducible rfl))
    simp only [Act.put,List.getElem_toArray,List.getElem_cons_zero,List.getElem_cons_succ,List.setIfInBounds_toArray,List.set_cons_succ,List.set_cons_zero]
    refine wpAnyH_take (i:=2) (v:=?rv113) rfl (by kernel_rfl) (by kernel_rfl) (by kernel_rfl) (fun _ _ _ h=>h) (Or.inl ⟨by rfl,?ry113⟩) hS ?_
    case ry113=>(intro wS hSw;clear hSw;go_simp;(try with_reducible rfl))
    simp only [Act.put,List.getElem_toArray,List.getElem_cons_zero,List.getElem_cons_succ,List.setIfInBounds_toArray,List.set_cons_succ,List.set_cons_zero]
    refine wpAnyH_take (i:=3) (v:=?rv116) rfl (by kernel_rfl) (by kernel_rfl) (by kernel_rfl) (fun _ _ _ h=>h) (Or.inl ⟨by rfl,?ry116⟩) hS ?_
    case ry116=>(intro wS hSw;clear hSw;go_simp;(try with_reducible rfl))
    simp only [Act.put,List.getElem_toArray,List.getElem_cons_zero,List.getElem_cons_succ,List.setIfInBounds_toArray,List.set_cons_succ,List.set_cons_zero]
    refine wpAnyH_take (i:=4) (v:=?rv119) rfl (by kernel_rfl) (by kernel_rfl) (by kernel_rfl) (fun _ _ _ h=>h) (Or.inl ⟨by rfl,?ry119⟩) hS ?_
    case ry119=>(intro wS hSw;have c2:=(hSw.elim (fun h=>h.1) id);clear hSw;go_simp;(try with_reducible rfl))
    simp only [Act.put,List.getElem_toArray,List.getElem_cons_zero,List.getElem_cons_succ,List.setIfInBounds_toArray,List.set_cons_succ,List.set_cons_zero]
    refine wpAnyH_ready (rs:=[5]) (by kernel_rfl) (by simp) ?_;refine AllReadyH.cons rfl (fun K hK=>?_) .nil;refine step_st rfl rowRS (.tmp 2) (.tmp 38) rfl (by rfl) (by rfl) kz ZS.out KZS.out ZS1.out ?_;intro w92 k92 g92 z92;rw [zero9] at k92;have gz:=gW.grown g92 gW.size (fun q hq=>by injection hq;omega);refine hK.out _ _ (.inr ((grown_cell (p:=⟨g,2,none⟩) g92 (World.block_lt_of_cell? wd _ c2d) (by show g ≠ b;omega)).trans c2d)) (fun hS=>?_);clear hK K;refine wpAnyH_take (i:=6) (v:=?rv130) rfl (by kernel_rfl) (by kernel_rfl) (by kernel_rfl) (fun _ _ _ h=>h) (Or.inl ⟨by rfl,?ry130⟩) hS ?_
    case ry130=>(intro wS hSw;clear hSw;go_simp;(try with_reducible rfl))
    simp only [Act.put,List.getElem_toArray,List.getElem_cons_zero,List.getElem_cons_succ,List.setIfInBounds_toArray,List.set_cons_succ,List.set_cons_zero]
    refine wpAnyH_done (by kernel_rfl) ?_ _;go_wp2_with fail;have hbad:=get_bad (bs:=bs) (by rw [HGE.out];omega);refine bodyPost_ret (v:=.tuple #[.agg (uc (uptoS noG) (.slice none 0 0)),.int .i64 ((e : Nat) : Int)]) (results_blk2 rfl rowRS k92 (by rfl) rfl rfl) rfl ⟨none,0,0,by rw [HGE.out,hbad.1],by rw [hbad.2];exact OwnD.nil _ _,gz⟩
  case pos =>
    subst he
    by_cases hlt : at' < n
    case pos =>
      have hge:=HGEd.out;rw [if_pos (by have:=HRN.out;simp [this];omega)] at hge;have HGE:=Lib.hid hge
      have hl1 : ((at' : Nat) : Int) < ((n : Nat) : Int):=by omega
      have c4 : (w2.setCell ⟨g,2,none⟩ (.int .i64 4)).cell? ⟨g,2,none⟩ = some (.int .i64 4):=hk4.cell 2;have kz4:=kz.far (p:=⟨g,2,none⟩) (by show b ≠ g;omega) (.int .i64 4);have gW4:=gW.setCell (p:=⟨g,2,none⟩) (by show _≤g;omega) (.int .i64 4);obtain ⟨w3,hw3⟩ : ∃ w3,w3 = w2.setCell ⟨g,2,none⟩ (.int .i64 4):=⟨_,rfl⟩;rw [← hw3] at c4 kz4 gW4;have HW3:=Lib.hid hw3;have hgl3 : g < w3.heap.size:=World.block_lt_of_cell? w3 _ c4;clear HGEd HGUd HRA hge hk4 kR hw3 hgl kz gW
      go_upto_region 5 with fail
      rw [← HW3.out];have c2:=c4;have kz:=kz4;have gW:=gW4;have hgl:=hgl3;clear c4 kz4 gW4 hgl3 c1' f2
      have hxe : ((((4 : Nat) : Int)) != 0) = true:=by rw [bne_iff_ne];omega
      go_upto_region 6 with fail
      refine wp_region_held_drew (S:=fun w'=>w'.cell? ⟨g,2,none⟩ = some (.int .i64 ((4 : Nat) : Int))∧Blk w' b 72 kzc∨w'.cell? ⟨g,2,none⟩ = some (.int .i64 ((4 : Nat) : Int))) (by kernel_rfl) (.inr c2) (fun hS=>?_)
      replace kz:=kz.drew
      replace gW:=gW.drew
      have c2d : (w3).drew.cell? ⟨g,2,none⟩ = some (.int .i64 ((4 : Nat) : Int)):=c2;clear c2 hS
      generalize (w3).drew = wd at *
      have hS:=Or.inr (a:=wd.cell? ⟨g,2,none⟩ = some (.int .i64 ((4 : Nat) : Int))∧Blk wd b 72 kzc) c2d;refine wpAnyH_take (i:=0) (v:=?rv169) rfl (by kernel_rfl) (by kernel_rfl) (by kernel_rfl) (fun _ _ _ h=>h) (Or.inl ⟨by rfl,?ry169⟩) hS ?_
      case ry169=>(intro wS hSw;clear hSw;go_simp;(try with_reducible rfl))
      simp only [Act.put,List.getElem_toArray,List.getElem_cons_zero,List.getElem_cons_succ,List.setIfInBounds_toArray,List.set_cons_succ,List.set_cons_zero]
      refine wpAnyH_take (i:=1) (v:=?rv172) rfl (by kernel_rfl) (by kernel_rfl) (by kernel_rfl) (fun _ _ _ h=>h) (Or.inl ⟨by rfl,?ry172⟩) hS ?_
      case ry172=>(intro wS hSw;clear hSw;go_simp;(try with_reducible rfl))
      simp only [Act.put,List.getElem_toArray,List.getElem_cons_zero,List.getElem_cons_succ,List.setIfInBounds_toArray,List.set_cons_succ,List.set_cons_zero]
      refine wpAnyH_take (i:=2) (v:=?rv175) rfl (by kernel_rfl) (by kernel_rfl) (by kernel_rfl) (fun _ _ _ h=>h) (Or.inl ⟨by rfl,?ry175⟩) hS ?_
      case ry175=>(intro wS hSw;clear hSw;go_simp;(try with_reducible rfl))
      simp only [Act.put,List.getElem_toArray,List.getElem_cons_zero,List.getElem_cons_succ,List.setIfInBounds_toArray,List.set_cons_succ,List.set_cons_zero]
      refine wpAnyH_take (i:=3) (v:=?rv178) rfl (by kernel_rfl) (by kernel_rfl) (by kernel_rfl) (fun _ _ _ h=>h) (Or.inl ⟨by rfl,?ry178⟩) hS ?_
      case ry178=>(intro wS hSw;clear hSw;go_simp;(try with_reducible rfl))
      simp only [Act.put,List.getElem_toArray,List.getElem_cons_zero,List.getElem_cons_succ,List.setIfInBounds_toArray,List.set_cons_succ,List.set_cons_zero]
      refine wpAnyH_take (i:=4) (v:=?rv181) rfl (by kernel_rfl) (by kernel_rfl) (by kernel_rfl) (fun _ _ _ h=>h) (Or.inl ⟨by rfl,?ry181⟩) hS ?_
      case ry181=>(intro wS hSw;have c2:=(hSw.elim (fun h=>h.1) id);clear hSw;go_simp;(try with_reducible rfl))
      simp only [Act.put,List.getElem_toArray,List.getElem_cons_zero,List.getElem_cons_succ,List.setIfInBounds_toArray,List.set_cons_succ,List.set_cons_zero]
      refine wpAnyH_ready (rs:=[5]) (by kernel_rfl) (by simp) ?_;refine AllReadyH.cons rfl (fun K hK=>?_) .nil;refine step_st rfl rowRS (.tmp 2) (.tmp 38) rfl (by rfl) (by rfl) kz ZS.out KZS.out ZS1.out ?_;intro w92 k92 g92 z92;rw [zero9] at k92;have gz:=gW.grown g92 gW.size (fun q hq=>by injection hq;omega);refine hK.out _ _ (.inr ((grown_cell (p:=⟨g,2,none⟩) g92 (World.block_lt_of_cell? wd _ c2d) (by show g ≠ b;omega)).trans c2d)) (fun hS=>?_);clear hK K;refine wpAnyH_take (i:=6) (v:=?rv192) rfl (by kernel_rfl) (by kernel_rfl) (by kernel_rfl) (fun _ _ _ h=>h) (Or.inl ⟨by rfl,?ry192⟩) hS ?_
      case ry192=>(intro wS hSw;clear hSw;go_simp;(try with_reducible rfl))
      simp only [Act.put,List.getElem_toArray,List.getElem_cons_zero,List.getElem_cons_succ,List.setIfInBounds_toArray,List.set_cons_succ,List.set_cons_zero]
      refine wpAnyH_done (by kernel_rfl) ?_ _;go_wp2_with fail;have hbad:=get_bad (bs:=bs) (by rw [HGE.out];omega);refine bodyPost_ret (v:=.tuple #[.agg (uc (uptoS noG) (.slice none 0 0)),.int .i64 ((4 : Nat) : Int)]) (results_blk2 rfl rowRS k92 (by rfl) rfl rfl) rfl ⟨none,0,0,by rw [HGE.out,hbad.1],by rw [hbad.2];exact OwnD.nil _ _,gz⟩
    case neg =>
      obtain rfl : at' = n:=by omega
      have hrr:=HRN.out.2 rfl;subst hrr
      go_wp2_with ((with_reducible refine wpList_ldg rowRS k2 HUS.out ?_ ?_ ?_);rotate_left;(rfl);(rfl))
      refine (HRA.out _ q2).mono ?_;rintro e w3 ⟨rfl,h3⟩
      replace kz:=kz.below h3 kz.lt
      replace gW:=gW.trans (h3.mono gW.size)
      replace k2:=k2.below h3 k2.lt
      replace o2:=o2.below h3 (Nat.le_refl _)
      replace kR:=Blk.below kR h3 hgl
      replace hgl:=Nat.lt_of_lt_of_le hgl h3.size
      clear c1' c2 f2 hk4;have c2 : w3.cell? ⟨g,2,none⟩ = some (.int .i64 0):=kR.cell 2;have f2:=kR.free 2;have hk4:=Blk.set_ kR 2 (.int .i64 4)
      cases hright : rightB (rdU bs) L
      case false =>
        have hge:=HGEd.out;rw [if_pos (by simp [hright])] at hge;have HGE:=Lib.hid hge;have c4 : (w3.setCell ⟨g,2,none⟩ (.int .i64 4)).cell? ⟨g,2,none⟩ = some (.int .i64 4):=hk4.cell 2;have kz4:=kz.far (p:=⟨g,2,none⟩) (by show b ≠ g;omega) (.int .i64 4);have gW4:=gW.setCell (p:=⟨g,2,none⟩) (by show _≤g;omega) (.int .i64 4);obtain ⟨w4,hw4⟩ : ∃ w4,w4 = w3.setCell ⟨g,2,none⟩ (.int .i64 4):=⟨_,rfl⟩;rw [← hw4] at c4 kz4 gW4;have HW4:=Lib.hid hw4;have hgl3 : g < w4.heap.size:=World.block_lt_of_cell? w4 _ c4;clear HGEd HGUd HRA hge hk4 kR hw4 hgl kz gW h3 hright
        go_upto_region 5 with fail
        rw [← HW4.out];have c2:=c4;have kz:=kz4;have gW:=gW4;have hgl:=hgl3;clear c4 kz4 gW4 hgl3 f2
        have hxe : ((((4 : Nat) : Int)) != 0) = true:=by rw [bne_iff_ne];omega
        go_upto_region 6 with fail
        refine wp_region_held_drew (S:=fun w'=>w'.cell? ⟨g,2,none⟩ = some (.int .i64 ((4 : Nat) : Int))∧Blk w' b 72 kzc∨w'.cell? ⟨g,2,none⟩ = some (.int .i64 ((4 : Nat) : Int))) (by kernel_rfl) (.inr c2) (fun hS=>?_)
        replace kz:=kz.drew
        replace gW:=gW.drew
        have c2d : (w4).drew.cell? ⟨g,2,none⟩ = some (.int .i64 ((4 : Nat) : Int)):=c2;clear c2 hS
        generalize (w4).drew = wd at *
        have hS:=Or.inr (a:=wd.cell? ⟨g,2,none⟩ = some (.int .i64 ((4 : Nat) : Int))∧Blk wd b 72 kzc) c2d;refine wpAnyH_take (i:=0) (v:=?rv245) rfl (by kernel_rfl) (by kernel_rfl) (by kernel_rfl) (fun _ _ _ h=>h) (Or.inl ⟨by rfl,?ry245⟩) hS ?_
        case ry245=>(intro wS hSw;clear hSw;go_simp;(try with_reducible rfl))
        simp only [Act.put,List.getElem_toArray,List.getElem_cons_zero,List.getElem_cons_succ,List.setIfInBounds_toArray,List.set_cons_succ,List.set_cons_zero]
        refine wpAnyH_take (i:=1) (v:=?rv248) rfl (by kernel_rfl) (by kernel_rfl) (by kernel_rfl) (fun _ _ _ h=>h) (Or.inl ⟨by rfl,?ry248⟩) hS ?_
        case ry248=>(intro wS hSw;clear hSw;go_simp;(try with_reducible rfl))
        simp only [Act.put,List.getElem_toArray,List.getElem_cons_zero,List.getElem_cons_succ,List.setIfInBounds_toArray,List.set_cons_succ,List.set_cons_zero]
        refine wpAnyH_take (i:=2) (v:=?rv251) rfl (by kernel_rfl) (by kernel_rfl) (by kernel_rfl) (fun _ _ _ h=>h) (Or.inl ⟨by rfl,?ry251⟩) hS ?_
        case ry251=>(intro wS hSw;clear hSw;go_simp;(try with_reducible rfl))
        simp only [Act.put,List.getElem_toArray,List.getElem_cons_zero,List.getElem_cons_succ,List.setIfInBounds_toArray,List.set_cons_succ,List.set_cons_zero]
        refine wpAnyH_take (i:=3) (v:=?rv254) rfl (by kernel_rfl) (by kernel_rfl) (by kernel_rfl) (fun _ _ _ h=>h) (Or.inl ⟨by rfl,?ry254⟩) hS ?_
        case ry254=>(intro wS hSw;clear hSw;go_simp;(try with_reducible rfl))
        simp only [Act.put,List.getElem_toArray,List.getElem_cons_zero,List.getElem_cons_succ,List.setIfInBounds_toArray,List.set_cons_succ,List.set_cons_zero]
        refine wpAnyH_take (i:=4) (v:=?rv257) rfl (by kernel_rfl) (by kernel_rfl) (by kernel_rfl) (fun _ _ _ h=>h) (Or.inl ⟨by rfl,?ry257⟩) hS ?_
        case ry257=>(intro wS hSw;have c2:=(hSw.elim (fun h=>h.1) id);clear hSw;go_simp;(try with_reducible rfl))
        simp only [Act.put,List.getElem_toArray,List.getElem_cons_zero,List.getElem_cons_succ,List.setIfInBounds_toArray,List.set_cons_succ,List.set_cons_zero]
        refine wpAnyH_ready (rs:=[5]) (by kernel_rfl) (by simp) ?_;refine AllReadyH.cons rfl (fun K hK=>?_) .nil;refine step_st rfl rowRS (.tmp 2) (.tmp 38) rfl (by rfl) (by rfl) kz ZS.out KZS.out ZS1.out ?_;intro w92 k92 g92 z92;rw [zero9] at k92;have gz:=gW.grown g92 gW.size (fun q hq=>by injection hq;omega);refine hK.out _ _ (.inr ((grown_cell (p:=⟨g,2,none⟩) g92 (World.block_lt_of_cell? wd _ c2d) (by show g ≠ b;omega)).trans c2d)) (fun hS=>?_);clear hK K;refine wpAnyH_take (i:=6) (v:=?rv268) rfl (by kernel_rfl) (by kernel_rfl) (by kernel_rfl) (fun _ _ _ h=>h) (Or.inl ⟨by rfl,?ry268⟩) hS ?_
        case ry268=>(intro wS hSw;clear hSw;go_simp;(try with_reducible rfl))
        simp only [Act.put,List.getElem_toArray,List.getElem_cons_zero,List.getElem_cons_succ,List.setIfInBounds_toArray,List.set_cons_succ,List.set_cons_zero]
        refine wpAnyH_done (by kernel_rfl) ?_ _;go_wp2_with fail;have hbad:=get_bad (bs:=bs) (by rw [HGE.out];omega);refine bodyPost_ret (v:=.tuple #[.agg (uc (uptoS noG) (.slice none 0 0)),.int .i64 ((4 : Nat) : Int)]) (results_blk2 rfl rowRS k92 (by rfl) rfl rfl) rfl ⟨none,0,0,by rw [HGE.out,hbad.1],by rw [hbad.2];exact OwnD.nil _ _,gz⟩
      case true =>
        have hge:=HGEd.out;rw [if_neg (by simp [hright])] at hge;have hgu:=HGUd.out hge;clear HGEd HGUd hright h3 HRA;have HGE:=Lib.hid hge;have HGUu:=Lib.hid hgu;clear hge hgu hk4 kR
        go_wp2_with (first
          | ((with_reducible refine wpList_ld rowRS k2 HUS.out ?_ ?_);rotate_left;(rfl))
          | ((with_reducible refine wpList_st rowRS kz HUS.out KZS.out HUO.out ?_ ?_ ?_);rotate_left;(rfl);(rfl);intro w92 k92 g92 z92))
        have o92:=o2.grown g92 (.inr (own_ne o2.2 kz (by decide)));have gz:=gW.grown g92 gW.size (fun q hq=>by injection hq;omega);refine bodyPost_ret (v:=.tuple #[.agg su,.int .i64 0]) (results_blk2 rfl rowRS k92 HUS.out rfl rfl) rfl ⟨A1,m1,c1,by rw [HGE.out,HGUu.out.1,HSU.out];rfl,by rw [HGUu.out.2];exact o92.mono hwv1,gz⟩
end Go.Proofs.YtcgalmnllegnbaaGreat

namespace Go.Proofs.YtcgalmnllegnbaaGreat
set_option linter.unusedVariables false
set_option linter.unusedSimpArgs false
set_option maxRecDepth 100000
open Go.RowKit
section
variable {P : Program} {ops : Array Oper} {Q : Exit→Act→World→Prop} {md : Region.Mode} {S : World→Prop} {c : Nat}
def wpAnyC (P : Program) (md : Region.Mode) (ops : Array Oper) (Q : Exit→Act→World→Prop) (S : World→Prop) (c : Nat) : Nat→Array Bool→Act→World→Prop
  | 0,listed,a,w=>Region.ready md ops listed = []∧Q .normal a w
  | fuel + 1,listed,a,w =>
    (Region.ready md ops listed = []→Q .normal a w) ∧
    ∀ i ∈ Region.ready md ops listed,wpOp P ops Q i (fun a' w'=>((listed.setIfInBounds i true).getD c true = false→S w')∧wpAnyC P md ops Q S c fuel (listed.setIfInBounds i true) a' w') a w
theorem wpAny_of_C : ∀ (fuel : Nat) (listed : Array Bool) (a : Act) (w : World),wpAnyC P md ops Q S c fuel listed a w→wpAny P md ops Q fuel listed a w
  | 0,_,_,_,h=>h
  | fuel + 1,_,_,_,h=>⟨h.1,fun i hi=>wpOp_mono (fun a' w' h'=>wpAny_of_C fuel _ a' w' h'.2) (h.2 i hi)⟩
theorem wpAnyC_first {i : Nat} {oi : Oper} {v : Value} (hi : ops[i]? = some oi) (hsel : ∀ (j : Nat) (o : Oper) cs b,ops[j]? = some o→o.op ≠ .select cs b)
    (hQ : ∀ c a w,Q (.panic c) (a.put oi.dst v) w→Q (.panic c) a w) (hic : i ≠ c) (hdep : ∀ oc,ops[c]? = some oc→∃ e ∈ oc.after,Region.binds md e = true∧e.on = i) :
    ∀ (fuel : Nat) (listed : Array Bool) (a : Act) (w : World),
      (∀ j oj,ops[j]? = some oj→j ≠ i→listed.getD j true = false→(∀ e ∈ oj.after,Region.binds md e = true→e.on ≠ i)→oi.apart ops oj = true) →
      i ∈ Region.ready md ops listed→listed.getD c true = false→YieldsIf P ops S oi v a→S w →
      wpAnyC P md ops Q S c fuel (listed.setIfInBounds i true) (a.put oi.dst v) w→wpAnyC P md ops Q S c (fuel + 1) listed a w:=by
  intro fuel
  induction fuel with
  | zero =>
    intro listed a w _ hr _ hy hS H;refine ⟨fun h=>(by rw [h] at hr;cases hr),fun j hj=>?_⟩
    by_cases hji : j = i
    · subst hji;exact hy.wpOp hi hS ⟨fun _=>hS,H⟩
    · have:=ready_mono hj hji
      rw [H.1] at this
      cases this
  | succ fuel ih =>
    intro listed a w hfree hr hcl hy hS H;refine ⟨fun h=>(by rw [h] at hr;cases hr),fun j hj=>?_⟩
    by_cases hji : j = i
    · subst hji;exact hy.wpOp hi hS ⟨fun _=>hS,H⟩
    · have h1:=H.2 j (ready_mono hj hji)
      obtain ⟨hjun,oj,hoj,hall⟩:=mem_ready.1 hj
      have hnot : ∀ e ∈ oj.after,Region.binds md e = true→e.on ≠ i:=fun e he hb heq=>by
        have h1:=hall e he hb;have h0:=(mem_ready.1 hr).1;rw [heq] at h1
        rcases Nat.lt_or_ge i listed.size with h' | h'
        · simp [h'] at h0 h1;rw [h0] at h1;cases h1
        · simp [Array.getElem?_eq_none h'] at h1
      have hjc : j ≠ c:=fun e=>by
        subst e;obtain ⟨e,he,hb,hon⟩:=hdep oj hoj;exact hnot e he hb hon
      have hcl2 : (listed.setIfInBounds j true).getD c true = false:=by rw [getD_set_ne true hjc];exact hcl
      have hcl3 : ((listed.setIfInBounds i true).setIfInBounds j true).getD c true = false:=by rw [getD_set_ne true hjc,getD_set_ne true hic];exact hcl
      have h2:=wpOp_putIf hoj (hfree j oj hoj hji hjun hnot) (fun cs b=>hsel i oi cs b hi) (fun cs b=>hsel j oj cs b hoj) hQ hy h1
      have hfree' : ∀ k ok,ops[k]? = some ok→k ≠ i→(listed.setIfInBounds j true).getD k true = false →
          (∀ e ∈ ok.after,Region.binds md e = true→e.on ≠ i)→oi.apart ops ok = true:=fun k ok hk hki hun hno=>by
        refine hfree k ok hk hki ?_ hno
        by_cases hjk : j = k
        · subst hjk;exact hjun
        · rw [getD_set_ne true hjk] at hun;exact hun
      refine wpOp_mono (fun a' w' h3=>⟨fun _=>h3.2.1 hcl3,ih (listed.setIfInBounds j true) a' w' hfree' (ready_mono hr (Ne.symm hji)) hcl2 h3.1 (h3.2.1 hcl3) ?_⟩) h2;rw [Array.setIfInBounds_comm _ _ hji];exact h3.2.2
theorem wpAnyC_take {i : Nat} {oi : Oper} {v : Value} {fuel : Nat} {listed : Array Bool} {a : Act} {w : World} (hi : ops[i]? = some oi)
    (hs : Region.noSelect ops = true) (hf : Region.free md ops listed i = true) (hr : (Region.ready md ops listed).contains i = true)
    (hQ : ∀ c a w,Q (.panic c) (a.put oi.dst v) w→Q (.panic c) a w) (hic : i ≠ c) (hdep : ((ops[c]?).map fun oc=>oc.after.any fun e=>Region.binds md e && e.on == i) = some true) (hcl : listed.getD c true = false)
    (hy : YieldsIf P ops S oi v a) (hS : S w)
    (h : wpAnyC P md ops Q S c fuel (listed.setIfInBounds i true) (a.put oi.dst v) w) : wpAnyC P md ops Q S c (fuel + 1) listed a w :=
  wpAnyC_first hi (Region.noSelect_spec hs) hQ hic (fun oc ho=>by
    rw [ho] at hdep
    simp only [Option.map_some,Option.some.injEq] at hdep
    obtain ⟨e,he,hb⟩:=Array.any_eq_true'.1 hdep
    simp only [Bool.and_eq_true,beq_iff_eq] at hb
    exact ⟨e,he,hb.1,hb.2⟩) fuel listed a w (Region.free_spec hi hf) (by simpa using hr) hcl hy hS h
theorem wpAnyC_first0 {i : Nat} {oi : Oper} {v : Value} (hi : ops[i]? = some oi) (hsel : ∀ (j : Nat) (o : Oper) cs b,ops[j]? = some o→o.op ≠ .select cs b)
    (hQ : ∀ c a w,Q (.panic c) (a.put oi.dst v) w→Q (.panic c) a w) (hic : i ≠ c) :
    ∀ (fuel : Nat) (listed : Array Bool) (a : Act) (w : World),
      (∀ j oj,ops[j]? = some oj→j ≠ i→listed.getD j true = false→(∀ e ∈ oj.after,Region.binds md e = true→e.on ≠ i)→oi.apart ops oj = true) →
      i ∈ Region.ready md ops listed→YieldsIf P ops (fun _=>True) oi v a→(listed.getD c true = false→S w) →
      wpAnyC P md ops Q S c fuel (listed.setIfInBounds i true) (a.put oi.dst v) w→wpAnyC P md ops Q S c (fuel + 1) listed a w:=by
  intro fuel
  induction fuel with
  | zero =>
    intro listed a w _ hr hy hS H;refine ⟨fun h=>(by rw [h] at hr;cases hr),fun j hj=>?_⟩
    by_cases hji : j = i
    · subst hji;exact hy.wpOp hi trivial ⟨fun h=>hS (by rw [getD_set_ne true hic] at h;exact h),H⟩
    · have:=ready_mono hj hji
      rw [H.1] at this
      cases this
  | succ fuel ih =>
    intro listed a w hfree hr hy hS H;refine ⟨fun h=>(by rw [h] at hr;cases hr),fun j hj=>?_⟩
    by_cases hji : j = i
    · subst hji;exact hy.wpOp hi trivial ⟨fun h=>hS (by rw [getD_set_ne true hic] at h;exact h),H⟩
    · have h1:=H.2 j (ready_mono hj hji)
      obtain ⟨hjun,oj,hoj,hall⟩:=mem_ready.1 hj
      have hnot : ∀ e ∈ oj.after,Region.binds md e = true→e.on ≠ i:=fun e he hb heq=>by
        have h1:=hall e he hb;have h0:=(mem_ready.1 hr).1;rw [heq] at h1
        rcases Nat.lt_or_ge i listed.size with h' | h'
        · simp [h'] at h0 h1;rw [h0] at h1;cases h1
        · simp [Array.getElem?_eq_none h'] at h1
      have h2:=wpOp_putIf hoj (hfree j oj hoj hji hjun hnot) (fun cs b=>hsel i oi cs b hi) (fun cs b=>hsel j oj cs b hoj) hQ hy h1
      have hfree' : ∀ k ok,ops[k]? = some ok→k ≠ i→(listed.setIfInBounds j true).getD k true = false →
          (∀ e ∈ ok.after,Region.binds md e = true→e.on ≠ i)→oi.apart ops ok = true:=fun k ok hk hki hun hno=>by
        refine hfree k ok hk hki ?_ hno
        by_cases hjk : j = k
        · subst hjk;exact hjun
        · rw [getD_set_ne true hjk] at hun;exact hun
      have hsw : ∀ w',(((listed.setIfInBounds i true).setIfInBounds j true).getD c true = false→S w')→(listed.setIfInBounds j true).getD c true = false→S w':=fun w' h h'=>h (by
        rw [Array.setIfInBounds_comm _ _ (Ne.symm hji),getD_set_ne true hic];exact h')
      refine wpOp_mono (fun a' w' h3=>⟨hsw w' h3.2.1,ih (listed.setIfInBounds j true) a' w' hfree' (ready_mono hr (Ne.symm hji)) h3.1 (hsw w' h3.2.1) ?_⟩) h2;rw [Array.setIfInBounds_comm _ _ hji];exact h3.2.2
theorem wpAnyC_pure {i : Nat} {oi : Oper} {v : Value} {fuel : Nat} {listed : Array Bool} {a : Act} {w : World} (hi : ops[i]? = some oi)
    (hs : Region.noSelect ops = true) (hf : Region.free md ops listed i = true) (hr : (Region.ready md ops listed).contains i = true)
    (hQ : ∀ c a w,Q (.panic c) (a.put oi.dst v) w→Q (.panic c) a w) (hic : i ≠ c) (hy : Yields P ops oi v a) (hS : listed.getD c true = false→S w)
    (h : wpAnyC P md ops Q S c fuel (listed.setIfInBounds i true) (a.put oi.dst v) w) : wpAnyC P md ops Q S c (fuel + 1) listed a w :=
  wpAnyC_first0 hi (Region.noSelect_spec hs) hQ hic fuel listed a w (Region.free_spec hi hf) (by simpa using hr) (Yields.yieldsIf hy) hS h
def AllReadyC (P : Program) (md : Region.Mode) (ops : Array Oper) (Q : Exit→Act→World→Prop) (S : World→Prop) (c : Nat) (fuel : Nat) (listed : Array Bool) (a : Act) (w : World) (rs : List Nat) : Prop :=
  ∀ i ∈ rs,wpOp P ops Q i (fun a' w'=>((listed.setIfInBounds i true).getD c true = false→S w')∧wpAnyC P md ops Q S c fuel (listed.setIfInBounds i true) a' w') a w
theorem AllReadyC.nil {fuel : Nat} {listed : Array Bool} {a : Act} {w : World} : AllReadyC P md ops Q S c fuel listed a w []:=fun _ h=>by cases h
theorem AllReadyC.cons {fuel : Nat} {listed : Array Bool} {a : Act} {w : World} {i : Nat} {o : Oper} {rs : List Nat} (ho : ops[i]? = some o) (hl : (listed.setIfInBounds i true).getD c true = true)
    (h : ∀ K' : Act→World→Prop,Shut (∀ a w,wpAnyC P md ops Q S c fuel (listed.setIfInBounds i true) a w→K' a w)→if Region.wanted o (yielded ops a.tmps) = true then Oper.wp P o a w K' Q else K' (a.put o.dst undef) w)
    (hs : AllReadyC P md ops Q S c fuel listed a w rs) : AllReadyC P md ops Q S c fuel listed a w (i :: rs):=fun j hj=>by
  rcases List.mem_cons.1 hj with rfl | hj
  · exact wpOp_step ho (fun K' hK=>h K' (fun a w hW=>hK a w ⟨(fun h=>by rw [hl] at h;cases h),hW⟩))
  · exact hs j hj
theorem AllReadyC.consS {fuel : Nat} {listed : Array Bool} {a : Act} {w : World} {i : Nat} {o : Oper} {rs : List Nat} (ho : ops[i]? = some o)
    (h : ∀ K' : Act→World→Prop,Shut (∀ a w,S w→wpAnyC P md ops Q S c fuel (listed.setIfInBounds i true) a w→K' a w)→if Region.wanted o (yielded ops a.tmps) = true then Oper.wp P o a w K' Q else K' (a.put o.dst undef) w)
    (hs : AllReadyC P md ops Q S c fuel listed a w rs) : AllReadyC P md ops Q S c fuel listed a w (i :: rs):=fun j hj=>by
  rcases List.mem_cons.1 hj with rfl | hj
  · exact wpOp_step ho (fun K' hK=>h K' (fun a w hS hW=>hK a w ⟨fun _=>hS,hW⟩))
  · exact hs j hj
theorem wpAnyC_ready {rs : List Nat} {fuel : Nat} {listed : Array Bool} {a : Act} {w : World} (hr : Region.ready md ops listed = rs) (hne : rs ≠ [])
    (h : AllReadyC P md ops Q S c fuel listed a w rs) : wpAnyC P md ops Q S c (fuel + 1) listed a w:=⟨fun h0=>absurd (hr ▸ h0) hne,fun i hi=>h i (hr ▸ hi)⟩
theorem wpAnyC_done {listed : Array Bool} {a : Act} {w : World} (hr : Region.ready md ops listed = []) (h : Q .normal a w) : ∀ fuel,wpAnyC P md ops Q S c fuel listed a w
  | 0=>⟨hr,h⟩
  | _ + 1=>⟨fun _=>h,by rw [hr];simp⟩
theorem wp_region_C (S : World→Prop) (c : Nat) {id : Nat} {a : Act} {w : World} (hm : P.follows .mixedOrders = true)
    (h : wpAnyC P .any ops Q S c ops.size (Array.replicate ops.size false) a w.drew) : (Code.region id ops true).wp P Q a w :=
  wp_region_any hm (wpAny_of_C _ _ _ _ h)
end
end Go.Proofs.YtcgalmnllegnbaaGreat

namespace Go.Proofs.YtcgalmnllegnbaaGreat
set_option linter.unusedVariables false
set_option linter.unusedSimpArgs false
set_option maxRecDepth 100000
open Go.RowKit
open Dot Evt
namespace Evt
def rdNv : Nat→List UInt8→Nat→List Int × List UInt8 × Nat
  | 0,l,e=>([],l,e)
  | k + 1,l,e =>
    let a:=Vint.intM l e
    let R:=rdNv k a.2.1 a.2.2
    ((a.1 : Int) :: R.1,R.2)
def rd7 (l : List UInt8) (e : Nat) : List Int × List UInt8 × Nat:=rdNv 7 l e
def rdDD : Nat→List UInt8→Nat→List Dt × List UInt8 × Nat
  | 0,l,e=>([],l,e)
  | k + 1,l,e=>if (rdDD k l e).2.2 = 0 then
      let a:=Vint.intM (rdDD k l e).2.1 0
      let b:=Vint.intM a.2.1 a.2.2
      ((rdDD k l e).1 ++ [((a.1 : Int),(b.1 : Int))],b.2)
    else rdDD k l e
def rdK (n q t k w : Nat) (l : List UInt8) (e : Nat) : Ev × List UInt8 × Nat :=
  if k = 1 then
    let v:=Vint.intM l e
    (⟨((n : Int),(q : Int)),t,k,w,(v.1 : Nat),p0,[]⟩,v.2)
  else
    let P:=if k = 2 then rd7 l e else (p0,l,e)
    let m:=Vint.intM P.2.1 P.2.2
    let e6:=if 96 < m.1 then (if m.2.2 = 0 then 6 else m.2.2) else m.2.2
    let D:=rdDD m.1 m.2.1 e6
    (⟨((n : Int),(q : Int)),t,k,w,0,P.1,D.1⟩,D.2)
def rdE (l : List UInt8) : Ev × List UInt8 × Nat :=
  let a:=Vint.intM l 0
  let b:=Vint.intM a.2.1 a.2.2
  let c:=Vint.intM b.2.1 b.2.2
  let d:=Vint.intM c.2.1 c.2.2
  let e4:=if d.2.2 = 0∧¬ (1≤d.1∧d.1≤3) then 4 else d.2.2
  let f:=Vint.intM d.2.1 e4
  rdK a.1 b.1 c.1 d.1 f.1 f.2.1 f.2.2
theorem rd7_len (l : List UInt8) (e : Nat) : (rd7 l e).1.length = 7:=rfl
theorem rdK_p (n q t k w : Nat) (l : List UInt8) (e : Nat) : (rdK n q t k w l e).1.p.length = 7:=by
  unfold rdK
  by_cases h1 : k = 1
  · rw [if_pos h1];rfl
  · rw [if_neg h1]
    by_cases h2 : k = 2
    · simp only [if_pos h2];exact rd7_len l e
    · simp only [if_neg h2];rfl
theorem rdDD_stuck (l : List UInt8) (e k : Nat) (h : (rdDD k l e).2.2 ≠ 0) : ∀ m,k≤m→rdDD m l e = rdDD k l e:=by
  intro m
  induction m with
  | zero => intro hk; obtain rfl : k = 0 := by omega
            rfl
  | succ m ih =>
    intro hk
    by_cases e1 : k = m + 1
    · rw [e1]
    · have h1:=ih (by omega)
      rw [rdDD,if_neg (by rw [h1];exact h),h1]
/-! the same as with early ends -/
theorem rdN_bad (k : Nat) : ∀ (l : List UInt8) (e : Nat),e ≠ 0→(rdNv k l e).2.2 = e:=by
  induction k with
  | zero=>intro l e _;rfl
  | succ k ih =>
    intro l e h
    show (rdNv k (Vint.intM l e).2.1 (Vint.intM l e).2.2).2.2 = e
    rw [intM_err h];exact ih l e h
theorem rdN_ok (k : Nat) : ∀ (l : List UInt8) (ns : List Nat) (r : List UInt8),decs k l = .ok (ns,r)→rdNv k l 0 = (ns.map fun x : Nat=>(x : Int),r,0):=by
  induction k with
  | zero=>intro l ns r h;simp [decs] at h;obtain ⟨rfl,rfl⟩:=h;rfl
  | succ k ih =>
    intro l ns r h
    unfold decs at h
    split at h
    · cases h
    · rename_i n l1 h1
      split at h
      · cases h
      · rename_i ns' r' h2
        injection h with h
        injection h with h h'
        subst h h'
        show (((Vint.intM l 0).1 : Int) :: (rdNv k (Vint.intM l 0).2.1 (Vint.intM l 0).2.2).1,(rdNv k (Vint.intM l 0).2.1 (Vint.intM l 0).2.2).2) = _
        rw [Vint.intM_ok h1]
        simp only
        rw [ih _ _ _ h2]
        rfl
theorem rdN_err (k : Nat) : ∀ (l : List UInt8) (y : Nat),decs k l = .error y→(rdNv k l 0).2.2 = y∧y ≠ 0:=by
  induction k with
  | zero=>intro l y h;cases h
  | succ k ih =>
    intro l y h
    unfold decs at h
    show (rdNv k (Vint.intM l 0).2.1 (Vint.intM l 0).2.2).2.2 = y∧_
    split at h
    · rename_i x h1
      injection h with h
      subst h;have hx:=Vint.dec_err h1
      have hne : x ≠ 0:=by omega
      rw [Vint.intM_bad h1];exact ⟨rdN_bad k _ _ hne,hne⟩
    · rename_i n l1 h1
      split at h
      · rename_i x h2
        injection h with h
        subst h;rw [Vint.intM_ok h1];exact ih _ _ h2
      · cases h
theorem rdDD_ok (k : Nat) (l : List UInt8) : ∀ (ds : List Dt) (r : List UInt8),decD k l = .ok (ds,r)→rdDD k l 0 = (ds,r,0):=by
  induction k with
  | zero=>intro ds r h;simp [decD] at h;obtain ⟨rfl,rfl⟩:=h;rfl
  | succ k ih =>
    intro ds r h
    unfold decD at h
    split at h
    · cases h
    · rename_i ds' r' h0
      split at h
      · cases h
      · rename_i n r1 h1
        split at h
        · cases h
        · rename_i q r2 h2
          injection h with h
          injection h with h h'
          subst h h';rw [rdDD,ih _ _ h0,if_pos rfl]
          simp only [Vint.intM_ok h1,Vint.intM_ok h2]
theorem rdDD_err (k : Nat) (l : List UInt8) : ∀ (y : Nat),decD k l = .error y→(rdDD k l 0).2.2 = y∧y ≠ 0:=by
  induction k with
  | zero=>intro y h;cases h
  | succ k ih =>
    intro y h
    unfold decD at h
    split at h
    · rename_i x h0
      injection h with h
      subst h;obtain ⟨q1,q2⟩:=ih _ h0;rw [rdDD,if_neg (by rw [q1];exact q2)];exact ⟨q1,q2⟩
    · rename_i ds' r' h0
      rw [rdDD,rdDD_ok k l _ _ h0,if_pos rfl]
      split at h
      · rename_i x h1
        injection h with h
        subst h;have hx:=Vint.dec_err h1
        simp only [Vint.intM_bad h1]
        rw [intM_err (by omega)];exact ⟨rfl,by omega⟩
      · rename_i n r1 h1
        split at h
        · rename_i x h2
          injection h with h
          subst h;have hx:=Vint.dec_err h2
          simp only [Vint.intM_ok h1,Vint.intM_bad h2]
          first | exact ⟨rfl,by omega⟩ | exact ⟨trivial,by omega⟩
        · cases h
theorem rdDD_bad (k : Nat) (l : List UInt8) (e : Nat) (h : e ≠ 0) : rdDD k l e = ([],l,e):=rdDD_stuck l e 0 h k (Nat.zero_le _)
def rdLL (l : List UInt8) (e : Nat) : List Dt × List UInt8 × Nat :=
  let m:=Vint.intM l e
  let e6:=if 96 < m.1 then (if m.2.2 = 0 then 6 else m.2.2) else m.2.2
  rdDD m.1 m.2.1 e6
theorem rdLL_ok {l : List UInt8} {ds : List Dt} {r : List UInt8} (h : decL l = .ok (ds,r)) : rdLL l 0 = (ds,r,0):=by
  unfold decL at h
  split at h
  · cases h
  · rename_i m r1 h1
    split at h
    · cases h
    · rename_i hm
      simp only [rdLL,Vint.intM_ok h1,if_neg hm]
      exact rdDD_ok _ _ _ _ h
theorem rdLL_err {l : List UInt8} {y : Nat} (h : decL l = .error y) : (rdLL l 0).2.2 = y∧y ≠ 0:=by
  unfold decL at h
  split at h
  · rename_i x h1
    injection h with h
    subst h;have hx:=Vint.dec_err h1
    simp only [rdLL,Vint.intM_bad h1]
    rw [if_neg (by omega),rdDD_bad _ _ _ (by omega)];exact ⟨rfl,by omega⟩
  · rename_i m r1 h1
    split at h
    · rename_i hm
      injection h with h
      subst h
      simp only [rdLL,Vint.intM_ok h1,if_pos hm,if_true]
      rw [rdDD_bad _ _ _ (by omega)];exact ⟨rfl,by omega⟩
    · rename_i hm
      simp only [rdLL,Vint.intM_ok h1,if_neg hm]
      exact rdDD_err _ _ _ h
theorem rdLL_bad {l : List UInt8} {e : Nat} (h : e ≠ 0) : (rdLL l e).2.2 = e:=by
  simp only [rdLL,intM_err h]
  rw [if_neg (by omega),rdDD_bad _ _ _ h]
theorem rdK_eq (n q t k w : Nat) (l : List UInt8) (e : Nat) : rdK n q t k w l e = if k = 1 then (⟨((n : Int),(q : Int)),t,k,w,((Vint.intM l e).1 : Nat),p0,[]⟩,(Vint.intM l e).2) else
    if k = 2 then (⟨((n : Int),(q : Int)),t,k,w,0,(rd7 l e).1,(rdLL (rd7 l e).2.1 (rd7 l e).2.2).1⟩,(rdLL (rd7 l e).2.1 (rd7 l e).2.2).2)
    else (⟨((n : Int),(q : Int)),t,k,w,0,p0,(rdLL l e).1⟩,(rdLL l e).2):=by
  unfold rdK
  by_cases h1 : k = 1
  · rw [if_pos h1,if_pos h1]
  · rw [if_neg h1,if_neg h1]
    by_cases h2 : k = 2
    · simp only [if_pos h2];rfl
    · simp only [if_neg h2];rfl
theorem rdK_bad (n q t k w : Nat) {l : List UInt8} {e : Nat} (h : e ≠ 0) : (rdK n q t k w l e).2.2 = e:=by
  rw [rdK_eq]
  by_cases h1 : k = 1
  · rw [if_pos h1];simp only [intM_err h]
  · rw [if_neg h1]
    by_cases h2 : k = 2
    · rw [if_pos h2]
      have h3:=rdN_bad 7 l e h
      simp only
      rw [rdLL_bad (by unfold rd7;rw [h3];exact h)];exact h3
    · rw [if_neg h2]
      exact rdLL_bad h
theorem rdK_ok {n q t k w : Nat} {l : List UInt8} {x : Ev} {r : List UInt8} (h : decK n q t k w l = .ok (x,r)) : rdK n q t k w l 0 = (x,r,0):=by
  rw [rdK_eq]
  unfold decK at h
  by_cases h1 : k = 1
  · rw [if_pos h1] at h ⊢
    split at h
    · cases h
    · rename_i h2
      injection h with h
      injection h with h h'
      subst h h'
      simp only [Vint.intM_ok h2]
  · rw [if_neg h1] at h ⊢
    by_cases h2 : k = 2
    · rw [if_pos h2] at h ⊢
      split at h
      · cases h
      · rename_i h3
        split at h
        · cases h
        · rename_i h4
          injection h with h
          injection h with h h'
          subst h h';have h5:=rdN_ok 7 _ _ _ h3
          unfold rd7
          rw [h5]
          simp only [rdLL_ok h4]
    · rw [if_neg h2] at h ⊢
      split at h
      · cases h
      · rename_i h4
        injection h with h
        injection h with h h'
        subst h h'
        simp only [rdLL_ok h4]
theorem rdK_err {n q t k w : Nat} {l : List UInt8} {y : Nat} (h : decK n q t k w l = .error y) : (rdK n q t k w l 0).2.2 = y∧y ≠ 0:=by
  rw [rdK_eq]
  unfold decK at h
  by_cases h1 : k = 1
  · rw [if_pos h1] at h ⊢
    split at h
    · rename_i h2
      injection h with h
      subst h
      have:=Vint.dec_err h2
      simp only [Vint.intM_bad h2]
      exact ⟨trivial,by omega⟩
    · cases h
  · rw [if_neg h1] at h ⊢
    by_cases h2 : k = 2
    · rw [if_pos h2] at h ⊢
      split at h
      · rename_i h3
        injection h with h
        subst h;obtain ⟨q1,q2⟩:=rdN_err 7 _ _ h3
        unfold rd7
        simp only
        rw [rdLL_bad (by rw [q1];exact q2)];exact ⟨q1,q2⟩
      · rename_i h3
        split at h
        · rename_i h4
          injection h with h
          subst h;have h5:=rdN_ok 7 _ _ _ h3
          unfold rd7
          rw [h5];exact rdLL_err h4
        · cases h
    · rw [if_neg h2] at h ⊢
      split at h
      · rename_i h4
        injection h with h
        subst h;exact rdLL_err h4
      · cases h
theorem rdE_eq {l : List UInt8} : (∀ x r,decE l = .ok (x,r)→rdE l = (x,r,0))∧∀ y,decE l = .error y→(rdE l).2.2 = y∧y ≠ 0:=by
  cases h0 : Vint.dec l with
  | error x0 =>
    have hx:=Vint.dec_err h0;refine ⟨fun x r h=>?_,fun y h=>?_⟩
    · simp [decE,h0] at h
    · simp [decE,h0] at h
      subst h
      have hne : x0 ≠ 0:=by omega
      simp only [rdE,Vint.intM_bad h0,intM_err hne,hne,false_and,if_false]
      exact ⟨rdK_bad _ _ _ _ _ hne,hne⟩
  | ok p0 =>
    obtain ⟨n,l1⟩:=p0
    cases h1 : Vint.dec l1 with
    | error x0 =>
      have hx:=Vint.dec_err h1;refine ⟨fun x r h=>?_,fun y h=>?_⟩
      · simp [decE,h0,h1] at h
      · simp [decE,h0,h1] at h
        subst h
        have hne : x0 ≠ 0:=by omega
        simp only [rdE,Vint.intM_ok h0,Vint.intM_bad h1,intM_err hne,hne,false_and,if_false]
        exact ⟨rdK_bad _ _ _ _ _ hne,hne⟩
    | ok p1 =>
      obtain ⟨q,l2⟩:=p1
      cases h2 : Vint.dec l2 with
      | error x0 =>
        have hx:=Vint.dec_err h2;refine ⟨fun x r h=>?_,fun y h=>?_⟩
        · simp [decE,h0,h1,h2] at h
        · simp [decE,h0,h1,h2] at h
          subst h
          have hne : x0 ≠ 0:=by omega
          simp only [rdE,Vint.intM_ok h0,Vint.intM_ok h1,Vint.intM_bad h2,intM_err hne,hne,false_and,if_false]
          exact ⟨rdK_bad _ _ _ _ _ hne,hne⟩
      | ok p2 =>
        obtain ⟨t,l3⟩:=p2
        cases h3 : Vint.dec l3 with
        | error x0 =>
          have hx:=Vint.dec_err h3;refine ⟨fun x r h=>?_,fun y h=>?_⟩
          · simp [decE,h0,h1,h2,h3] at h
          · simp [decE,h0,h1,h2,h3] at h
            subst h
            have hne : x0 ≠ 0:=by omega
            simp only [rdE,Vint.intM_ok h0,Vint.intM_ok h1,Vint.intM_ok h2,Vint.intM_bad h3,intM_err hne,hne,false_and,if_false]
            exact ⟨rdK_bad _ _ _ _ _ hne,hne⟩
        | ok p3 =>
          obtain ⟨k,l4⟩:=p3
          by_cases hk : 1≤k∧k≤3
          · cases h4 : Vint.dec l4 with
            | error x0 =>
              have hx:=Vint.dec_err h4;refine ⟨fun x r h=>?_,fun y h=>?_⟩
              · simp [decE,h0,h1,h2,h3,h4,hk] at h
              · simp [decE,h0,h1,h2,h3,h4,hk] at h
                subst h
                have hne : x0 ≠ 0:=by omega
                simp only [rdE,Vint.intM_ok h0,Vint.intM_ok h1,Vint.intM_ok h2,Vint.intM_ok h3,hk,and_self,not_true_eq_false,and_false,if_false,Vint.intM_bad h4]
                exact ⟨rdK_bad _ _ _ _ _ hne,hne⟩
            | ok p4 =>
              obtain ⟨w,l5⟩:=p4;refine ⟨fun x r h=>?_,fun y h=>?_⟩
              · have h' : decK n q t k w l5 = .ok (x,r):=by simpa [decE,h0,h1,h2,h3,h4,hk] using h
                simp only [rdE,Vint.intM_ok h0,Vint.intM_ok h1,Vint.intM_ok h2,Vint.intM_ok h3,hk,and_self,not_true_eq_false,and_false,if_false,Vint.intM_ok h4]
                exact rdK_ok h'
              · have h' : decK n q t k w l5 = .error y:=by simpa [decE,h0,h1,h2,h3,h4,hk] using h
                simp only [rdE,Vint.intM_ok h0,Vint.intM_ok h1,Vint.intM_ok h2,Vint.intM_ok h3,hk,and_self,not_true_eq_false,and_false,if_false,Vint.intM_ok h4]
                exact rdK_err h'
          · refine ⟨fun x r h=>?_,fun y h=>?_⟩
            · simp [decE,h0,h1,h2,h3,hk] at h
            · simp [decE,h0,h1,h2,h3,hk] at h
              subst h
              simp only [rdE,Vint.intM_ok h0,Vint.intM_ok h1,Vint.intM_ok h2,Vint.intM_ok h3,hk,not_false_eq_true,and_true,if_true,intM_err (show (4 : Nat) ≠ 0 by omega)]
              exact ⟨rdK_bad _ _ _ _ _ (by omega),by omega⟩
end Evt
def ReadEv (w : World) (g : Nat) (A : Option Addr) (n c : Nat) (bs r0 : List UInt8) (e : Ending) (w' : World) : Prop :=
  ∃ A' m' c',e = .returned (.agg (ec (rdE r0).1 (.slice A' m' c')))∧OwnD w' w.heap.size A' m' c' (rdE r0).1.l∧RSt w' g A n c bs (rdE r0).2.1 (rdE r0).2.2∧w.grownBy w' (some g)
theorem stepsD {w : World} {ops : Array Oper} {o : Oper} {a : Act} {K : Act→World→Prop} {Q : Exit→Act→World→Prop} {E : Prop} (hgd : o.guard = none) (s x : Operand)
    (ho : o.op = .call { callee:=.builtin .append,args:=#[s,x],argTypes:=#[26,26] })
    {base : Nat} {A : Option Addr} {n c : Nat} {bs : List Dt} (hs : a.eval s = .slice A n c) (hown : OwnD w base A n c bs)
    {B : Nat} {D : Option Addr} {m d : Nat} {news : List Dt} (hx : a.eval x = .slice D m d) (hr : Rd w B D (dcs news)) (hm : m = news.length)
    (hbytes : n + m≤1000000000000) (hbase : base≤w.heap.size)
    (h : ∀ A' c' w',OwnD w' base A' (n + m) c' (bs ++ news)→w.grownBy w' (A.map (·.block))→Moved A' (A.map (·.block)) w.heap.size→Below base w w' →
      K (a.put o.dst (.slice A' (n + m) c')) w') :
    if Region.wanted o (yielded ops a.tmps) = true then Oper.wp Tryz.prog o a w K Q else E:=by
  have hw : Region.wanted o (yielded ops a.tmps) = true:=by simp [Region.wanted,hgd]
  rw [if_pos hw];obtain ⟨i0,hi,hz0,hz1,hz2⟩:=info_parts infoD
  have hob : (Value.slice A n c).ownBlock = A.map (·.block):=by cases A <;> rfl
  obtain ⟨v',w',hrun,h2,h3,h4⟩:=run_app (P:=Tryz.prog) w base 26 o.type 100 i0 (.agg #[.int .i64 0,.int .i64 0]) 2 16 Tryz.underlying26 hi hz0 hz1 hz2 rfl (by decide) (.slice A n c) n _ hown.2 B D m d (dcs news) hr (by rw [dcs_len,hm]) (dcs_one _) (by unfold maxLen;omega) (by omega) hbase
  unfold Oper.wp execOp
  simp only [ho,resolve,invoke,builtin,Sem.run_bind,Sem.run_pure,Result.andThen_ok,List.map_toArray,List.map_cons,List.map_nil,hs,hx,hrun]
  have hv : ∃ A' c',v' = .slice A' (n + m) c'∧v'.ownBlock = A'.map (·.block):=by
    rcases h2.2 with ⟨rfl,h0⟩ | ⟨g,cap,cur,rfl,_⟩
    · exact ⟨none,0,by rw [h0],rfl⟩
    · exact ⟨_,_,rfl,rfl⟩
  obtain ⟨A',c',rfl,hb⟩:=hv;rw [hb] at h4;rw [hob] at h3 h4;exact h _ _ _ ⟨by rw [List.length_append,hown.1,hm],by rw [dcs_app];exact h2⟩ h3 h4 ((Below.refl _ _).grown h3 hbase (fun g hg=>(hown.lt g hg).1))
structure RdEvS (w0 : World) (g b : Nat) (A : Option Addr) (n c : Nat) (bs : List UInt8) (cs : Array Value) (r : List UInt8) (e : Nat) (w : World) : Prop where
  kz : Blk w b 109 (cT 0)
  kx : Blk w (b + 1) 109 cs
  R : RSt w g A n c bs r e
  gW : w0.grownBy w (some g)
section
variable {w0 w w' : World} {g b n c : Nat} {A : Option Addr} {bs r : List UInt8} {cs : Array Value} {e : Nat}
theorem RdEvS.after (h : RdEvS w0 g b A n c bs cs r e w) (hgb : g < b) {r' : List UInt8} {e' : Nat} (gg : w.grownBy w' (some g)) (R : RSt w' g A n c bs r' e') : RdEvS w0 g b A n c bs cs r' e' w' :=
  ⟨h.kz.grown gg (fun h=>by injection h;omega),h.kx.grown gg (fun h=>by injection h;omega),R,grown_trans h.gW gg⟩
theorem RdEvS.set_ (h : RdEvS w0 g b A n c bs cs r e w) (hgb : g < b) (hw : w0.heap.size≤b) (i : Nat) (v : Value) : RdEvS w0 g b A n c bs (cs.setIfInBounds i v) r e (w.setCell ⟨b + 1,i,none⟩ v) :=
  ⟨h.kz.far (p:=⟨b + 1,i,none⟩) (by show b ≠ b + 1;omega) v,h.kx.set_ i v,h.R.map fun _ _ k=>k.far (p:=⟨b + 1,i,none⟩) (by show g ≠ b + 1;omega) v,only_new h.gW (p:=⟨b + 1,i,none⟩) (by show _≤b + 1;omega) v⟩
theorem RdEvS.cs_ (h : RdEvS w0 g b A n c bs cs r e w) {cs' : Array Value} (hc : cs = cs') : RdEvS w0 g b A n c bs cs' r e w:=hc ▸ h
end
set_option maxRecDepth 100000 in
set_option maxHeartbeats 4000000 in
theorem rread07_any (g : Nat) (A : Option Addr) (n c B : Nat) (bs r0 : List UInt8) (w : World) (hR : RSt w g A n c bs r0 0) (hb : RdB w B A n bs) (hB : B≤g) (hglt : g < w.heap.size) (hn : n≤1000000000) :
    Calls Tryz.prog 96 #[.pointer (some ⟨g,0,none⟩)] w (ReadEv w g A n c bs r0):=by
  have HBG:=Lib.hid (hb.more hB);have HGL:=Lib.hid hglt;clear hb;have HINT:=Lib.hid (fun (r : List UInt8) (e : Nat) (w1 : World) (h : RSt w1 g A n c bs r e) (gW : w.grownBy w1 (some g))=>rint_m g A n c g bs r e w1 h (Rdr.only HBG.out gW HGL.out) hn)
  go_enter Tryz.func96,Tryz.ntmps96
  go_upto_region 2 with fail
  refine nameW ?_;intro wv hwv;obtain ⟨b,hbb⟩ : ∃ b,b = w.heap.size:=⟨_,rfl⟩;rw [← hbb]
  have h0 : RdEvS w g b A n c bs (cT 0) r0 0 wv:=by
    refine ⟨?_,?_,?_,?_⟩
    · rw [hwv,hbb];exact (Blk.new w _ _).alloc _
    · have h:=Blk.new (w.alloc (.cells (cT 0) 109)) 109 (cT 0)
      rw [show (w.alloc (.cells (cT 0) 109)).heap.size = w.heap.size + 1 by simp] at h;rw [hwv,hbb];exact h
    · rw [hwv];exact hR.map (fun _ _ k=>(k.alloc _).alloc _)
    · rw [hwv];exact only_alloc (only_alloc (World.grownBy.refl _ _) _) _
  have HW:=Lib.hid (show w.heap.size≤b∧g < b from by omega);clear hwv hbb hR hglt;go_wp2_with fail;refine (HINT.out _ _ _ h0.R h0.gW).mono ?_;rintro e w1 ⟨rfl,gg,R1⟩;obtain ⟨n1,r1,e1,hI⟩ : ∃ n1 r1 e1,Vint.intM r0 0 = (n1,r1,e1):=⟨_,_,_,rfl⟩;rw [hI] at R1 ⊢;have HI0:=Lib.hid hI;have h0':=h0.after HW.out.2 gg R1;clear gg hI R1 h0;have cc:=h0'.kx.cell 0;have fc:=h0'.kx.free 0;have h1:=(h0'.set_ HW.out.2 HW.out.1 0 (.int .i64 (n1 : Nat))).cs_ (cs':=#[.int .i64 (n1 : Nat),.int .i64 0,.int .i64 0,.int .i64 0,.int .i64 0,.int .i64 0,.int .i64 0,.int .i64 0,.int .i64 0,.int .i64 0,.int .i64 0,.int .i64 0,.int .i64 0,.slice none 0 0]) rfl;clear h0'
  go_upto_region 3 with fail
  refine nameW ?_;intro W1 hwn;rw [← hwn] at h1;clear hwn cc fc;go_wp2_with fail;refine (HINT.out _ _ _ h1.R h1.gW).mono ?_;rintro e w2 ⟨rfl,gg,R2⟩;obtain ⟨q,r2,e2,hI⟩ : ∃ q r2 e2,Vint.intM r1 e1 = (q,r2,e2):=⟨_,_,_,rfl⟩;rw [hI] at R2 ⊢;have HI1:=Lib.hid hI;have h1':=h1.after HW.out.2 gg R2;clear gg hI R2 h1;have cc:=h1'.kx.cell 1;have fc:=h1'.kx.free 1;have h2:=(h1'.set_ HW.out.2 HW.out.1 1 (.int .i64 (q : Nat))).cs_ (cs':=#[.int .i64 (n1 : Nat),.int .i64 (q : Nat),.int .i64 0,.int .i64 0,.int .i64 0,.int .i64 0,.int .i64 0,.int .i64 0,.int .i64 0,.int .i64 0,.int .i64 0,.int .i64 0,.int .i64 0,.slice none 0 0]) rfl;clear h1'
  go_upto_region 4 with fail
  refine nameW ?_;intro W2 hwn;rw [← hwn] at h2;clear hwn cc fc;go_wp2_with fail;refine (HINT.out _ _ _ h2.R h2.gW).mono ?_;rintro e w3 ⟨rfl,gg,R3⟩;obtain ⟨t,r3,e3,hI⟩ : ∃ t r3 e3,Vint.intM r2 e2 = (t,r3,e3):=⟨_,_,_,rfl⟩;rw [hI] at R3 ⊢;have HI2:=Lib.hid hI;have h2':=h2.after HW.out.2 gg R3;clear gg hI R3 h2;have cc:=h2'.kx.cell 2;have fc:=h2'.kx.free 2;have h3:=(h2'.set_ HW.out.2 HW.out.1 2 (.int .i64 (t : Nat))).cs_ (cs':=#[.int .i64 (n1 : Nat),.int .i64 (q : Nat),.int .i64 (t : Nat),.int .i64 0,.int .i64 0,.int .i64 0,.int .i64 0,.int .i64 0,.int .i64 0,.int .i64 0,.int .i64 0,.int .i64 0,.int .i64 0,.slice none 0 0]) rfl;clear h2'
  go_upto_region 5 with fail
  refine nameW ?_;intro W3 hwn;rw [← hwn] at h3;clear hwn cc fc;go_wp2_with fail;refine (HINT.out _ _ _ h3.R h3.gW).mono ?_;rintro e w4 ⟨rfl,gg,R4⟩;obtain ⟨k,r4,e4,hI⟩ : ∃ k r4 e4,Vint.intM r3 e3 = (k,r4,e4):=⟨_,_,_,rfl⟩;rw [hI] at R4 ⊢;have HI3:=Lib.hid hI;have h3':=h3.after HW.out.2 gg R4;clear gg hI R4 h3;have cc:=h3'.kx.cell 3;have fc:=h3'.kx.free 3;have h4:=(h3'.set_ HW.out.2 HW.out.1 3 (.int .i64 (k : Nat))).cs_ (cs':=#[.int .i64 (n1 : Nat),.int .i64 (q : Nat),.int .i64 (t : Nat),.int .i64 (k : Nat),.int .i64 0,.int .i64 0,.int .i64 0,.int .i64 0,.int .i64 0,.int .i64 0,.int .i64 0,.int .i64 0,.int .i64 0,.slice none 0 0]) rfl;clear h3'
  go_upto_region 6 with fail
  refine nameW ?_;intro W4 hwn;rw [← hwn] at h4;clear hwn cc fc;obtain ⟨F,hF⟩ : ∃ F : Bool,F = decide (e4 = 0∧¬ (1≤k∧k≤3)):=⟨_,rfl⟩;have HF:=Lib.hid hF;clear hF
  go_cut [35] (fun f wx=>f = .bool F∧W4 = wx)
  case first =>
    obtain ⟨at4,_,kR,_⟩:=h4.R;have c2 : W4.cell? ⟨g,2,none⟩ = some (.int .i64 (e4 : Nat)):=kR.cell 2;have c3 : W4.cell? ⟨b + 1,3,none⟩ = some (.int .i64 (k : Nat)):=h4.kx.cell 3
    by_cases he : e4 = 0
    · have hq : ((e4 : Int) == 0) = true:=by rw [beq_iff_eq];omega
      by_cases hk1 : 1≤k
      · have d1 : decide ((k : Int) < 1) = false:=decide_eq_false (by omega)
        by_cases hk2 : k≤3
        · have d3 : decide ((3 : Int) < (k : Int)) = false:=decide_eq_false (by omega)
          have hf : F = false:=by rw [HF.out];simp [hk1,hk2]
          subst hf;clear he kR;go_wp2_with fail;go_meet;exact ⟨rfl,rfl⟩
        · have d3 : decide ((3 : Int) < (k : Int)) = true:=decide_eq_true (by omega)
          have hf : F = true:=by rw [HF.out];simp [he,hk2]
          subst hf;clear he kR;go_wp2_with fail;go_meet;exact ⟨rfl,rfl⟩
      · have d1 : decide ((k : Int) < 1) = true:=decide_eq_true (by omega)
        have hf : F = true:=by rw [HF.out];simp [he,hk1]
        subst hf;clear he kR;go_wp2_with fail;go_meet;exact ⟨rfl,rfl⟩
    · have hq : ((e4 : Int) == 0) = false:=by rw [beq_eq_false_iff_ne];omega
      have hf : F = false:=by rw [HF.out];simp [he]
      subst hf;clear he kR;go_wp2_with fail;go_meet;exact ⟨rfl,rfl⟩
  case rest =>
  obtain ⟨rfl,rfl⟩:=hcut
  obtain ⟨f4,hf4⟩ : ∃ f4 : Nat,f4 = if e4 = 0∧¬ (1≤k∧k≤3) then 4 else e4:=⟨_,rfl⟩
  have HF4:=Lib.hid hf4;clear hf4
  go_upto_if 35 with fail
  go_cut [] (fun wx=>RdEvS w g b A n c bs #[.int .i64 (n1 : Nat),.int .i64 (q : Nat),.int .i64 (t : Nat),.int .i64 (k : Nat),.int .i64 0,.int .i64 0,.int .i64 0,.int .i64 0,.int .i64 0,.int .i64 0,.int .i64 0,.int .i64 0,.int .i64 0,.slice none 0 0] r4 f4 wx)
  case first =>
    cases F
    case false =>
      have hf : f4 = e4:=by
        rw [HF4.out,if_neg];intro h
        have:=HF.out
        rw [decide_eq_true h] at this
        cases this
      rw [← hf] at h4;clear hf;go_wp2_with fail;go_meet;exact h4
    case true =>
      have hf : f4 = 4:=by
        rw [HF4.out,if_pos (of_decide_eq_true HF.out.symm)]
      obtain ⟨kz,kx,⟨at4,q1,kR,q2⟩,gW⟩:=h4;have c2 : W4.cell? ⟨g,2,none⟩ = some (.int .i64 (e4 : Nat)):=kR.cell 2;have f2:=kR.free 2;have hn5 : RdEvS w g b A n c bs #[.int .i64 (n1 : Nat),.int .i64 (q : Nat),.int .i64 (t : Nat),.int .i64 (k : Nat),.int .i64 0,.int .i64 0,.int .i64 0,.int .i64 0,.int .i64 0,.int .i64 0,.int .i64 0,.int .i64 0,.int .i64 0,.slice none 0 0] r4 4 (W4.setCell ⟨g,2,none⟩ (.int .i64 4)):=⟨kz.far (p:=⟨g,2,none⟩) (by show b ≠ g;have:=HW.out;omega) _,kx.far (p:=⟨g,2,none⟩) (by show b + 1 ≠ g;have:=HW.out;omega) _,⟨at4,q1,kR.set_ 2 _,q2⟩,only_set gW _⟩;have HN5:=Lib.hid hn5;have HFF:=Lib.hid hf;clear hf hn5 kz kx kR gW;go_wp2_with fail;go_meet;rw [HFF.out];exact HN5.out
  case rest =>
  have h4:=hcut;clear hcut
  rename_i _ W4
  go_upto_region 8 with fail
  go_wp2_with fail;refine (HINT.out _ _ _ h4.R h4.gW).mono ?_;rintro e w5 ⟨rfl,gg,R5⟩;obtain ⟨wk,r5,e5,hI⟩ : ∃ wk r5 e5,Vint.intM r4 f4 = (wk,r5,e5):=⟨_,_,_,rfl⟩;rw [hI] at R5 ⊢;have HI4:=Lib.hid hI;have h4':=h4.after HW.out.2 gg R5;clear gg hI R5 h4;have cc:=h4'.kx.cell 4;have fc:=h4'.kx.free 4;have h5:=(h4'.set_ HW.out.2 HW.out.1 4 (.int .i64 (wk : Nat))).cs_ (cs':=#[.int .i64 (n1 : Nat),.int .i64 (q : Nat),.int .i64 (t : Nat),.int .i64 (k : Nat),.int .i64 (wk : Nat),.int .i64 0,.int .i64 0,.int .i64 0,.int .i64 0,.int .i64 0,.int .i64 0,.int .i64 0,.int .i64 0,.slice none 0 0]) rfl;clear h4'
  go_upto_region 9 with fail
  refine nameW ?_;intro W5 hwn;rw [← hwn] at h5;clear hwn cc fc
  by_cases hk1 : k = 1
  · have hq1 : ((k : Int) == 1) = true:=by rw [beq_iff_eq];omega
    have HK1:=Lib.hid hk1;clear hk1;have cc:=h5.kx.cell 3;have c3 : W5.cell? ⟨b + 1,3,none⟩ = some (.int .i64 (k : Nat)):=cc;clear cc;go_wp2_with fail;clear c3;refine (HINT.out _ _ _ h5.R h5.gW).mono ?_;rintro e w6 ⟨rfl,gg,R6⟩;obtain ⟨v,r6,e6,hI⟩ : ∃ v r6 e6,Vint.intM r5 e5 = (v,r6,e6):=⟨_,_,_,rfl⟩;rw [hI] at R6 ⊢;have HI5:=Lib.hid hI;have h5':=h5.after HW.out.2 gg R6;clear gg hI R6 h5;have cc:=h5'.kx.cell 5;have fc:=h5'.kx.free 5;have h6:=(h5'.set_ HW.out.2 HW.out.1 5 (.int .i64 (v : Nat))).cs_ (cs':=#[.int .i64 (n1 : Nat),.int .i64 (q : Nat),.int .i64 (t : Nat),.int .i64 (k : Nat),.int .i64 (wk : Nat),.int .i64 (v : Nat),.int .i64 0,.int .i64 0,.int .i64 0,.int .i64 0,.int .i64 0,.int .i64 0,.int .i64 0,.slice none 0 0]) rfl;clear h5'
    go_upto_region 11 with fail
    refine nameW ?_;intro W6 hwn;rw [← hwn] at h6;clear hwn cc fc
    have HE:=Lib.hid (show rdE r0 = (⟨((n1 : Int),(q : Int)),(t : Nat),(k : Nat),(wk : Nat),(v : Nat),Evt.p0,[]⟩,r6,e6) by
      have h1:=HF4.out
      simp only [rdE,HI0.out,HI1.out,HI2.out,HI3.out]
      rw [← h1,HI4.out,rdK_eq,if_pos HK1.out,HI5.out])
    obtain ⟨cz,hcz⟩ : ∃ cz : Array Value,cz = #[.int .i64 (n1 : Nat),.int .i64 (q : Nat),.int .i64 (t : Nat),.int .i64 (k : Nat),.int .i64 (wk : Nat),.int .i64 (v : Nat),.int .i64 0,.int .i64 0,.int .i64 0,.int .i64 0,.int .i64 0,.int .i64 0,.int .i64 0,.slice none 0 0]:=⟨_,rfl⟩;have hf:=h6.cs_ hcz.symm;have SX:=Lib.hid (show cz.size = 14 by rw [hcz];rfl);have OX:=Lib.hid (show cz.all (·.oneCell') = true by rw [hcz];kernel_rfl);have SZ:=Lib.hid (show (cT 0).size = 14 from rfl);have HCZ:=Lib.hid hcz;obtain ⟨kz,kx,hRf,gWf⟩:=hf;clear hcz h6
    go_wp2_with first
      | ((with_reducible refine wpList_ld rowE kx SX.out ?_ ?_);rotate_left;(rfl))
      | ((with_reducible refine wpList_st rowE kz SX.out SZ.out OX.out ?_ ?_ ?_);rotate_left;(rfl);(rfl);intro w92 k92 g92 z92)
    have hR92:=hRf.map (fun _ _ k=>k.grown g92 (fun h=>by injection h;have:=HW.out;omega));have gW92:=grown_on gWf g92 HW.out.1;exact bodyPost_ret (v:=.agg cz) (results_blk rfl rowE k92 SX.out rfl) rfl ⟨none,0,0,by rw [HE.out,HCZ.out];rfl,by rw [HE.out];exact OwnD.nil _ _,by rw [HE.out];exact hR92,gW92⟩
  have hq1 : ((k : Int) == 1) = false:=by rw [beq_eq_false_iff_ne];omega
  have HK1:=Lib.hid hk1;clear hk1;have c3 : W5.cell? ⟨b + 1,3,none⟩ = some (.int .i64 (k : Nat)):=h5.kx.cell 3;obtain ⟨P,rP,eP,hP⟩ : ∃ P rP eP,(if k = 2 then rd7 r5 e5 else (Evt.p0,r5,e5)) = (P,rP,eP):=⟨_,_,_,rfl⟩;have HP:=Lib.hid hP;clear hP
  go_upto_if 51 with fail
  go_cut [] (fun wx=>RdEvS w g b A n c bs #[.int .i64 (n1 : Nat),.int .i64 (q : Nat),.int .i64 (t : Nat),.int .i64 (k : Nat),.int .i64 (wk : Nat),.int .i64 0,.int .i64 (P.getD 0 0),.int .i64 (P.getD 1 0),.int .i64 (P.getD 2 0),.int .i64 (P.getD 3 0),.int .i64 (P.getD 4 0),.int .i64 (P.getD 5 0),.int .i64 (P.getD 6 0),.slice none 0 0] rP eP wx)
  case first =>
    by_cases hk2 : k = 2
    · have hq2 : ((k : Int) == 2) = true:=by rw [beq_iff_eq];omega
      have HK2:=Lib.hid hk2;clear hk2;go_wp2_with fail;clear c3;refine (HINT.out _ _ _ h5.R h5.gW).mono ?_;rintro e w6 ⟨rfl,gg,R6⟩;obtain ⟨y0,r6,e6,hI⟩ : ∃ y0 r6 e6,Vint.intM r5 e5 = (y0,r6,e6):=⟨_,_,_,rfl⟩;rw [hI] at R6 ⊢;have HI5:=Lib.hid hI;have h5':=h5.after HW.out.2 gg R6;clear gg hI R6 h5;have cc:=h5'.kx.cell 6;have fc:=h5'.kx.free 6;have h6:=(h5'.set_ HW.out.2 HW.out.1 6 (.int .i64 (y0 : Nat))).cs_ (cs':=#[.int .i64 (n1 : Nat),.int .i64 (q : Nat),.int .i64 (t : Nat),.int .i64 (k : Nat),.int .i64 (wk : Nat),.int .i64 0,.int .i64 (y0 : Nat),.int .i64 0,.int .i64 0,.int .i64 0,.int .i64 0,.int .i64 0,.int .i64 0,.slice none 0 0]) rfl;clear h5'
      go_upto_region 14 with fail
      refine nameW ?_;intro W6 hwn;rw [← hwn] at h6;clear hwn cc fc;go_wp2_with fail;refine (HINT.out _ _ _ h6.R h6.gW).mono ?_;rintro e w7 ⟨rfl,gg,R7⟩;obtain ⟨y1,r7,e7,hI⟩ : ∃ y1 r7 e7,Vint.intM r6 e6 = (y1,r7,e7):=⟨_,_,_,rfl⟩;rw [hI] at R7 ⊢;have HI6:=Lib.hid hI;have h6':=h6.after HW.out.2 gg R7;clear gg hI R7 h6;have cc:=h6'.kx.cell 7;have fc:=h6'.kx.free 7;have h7:=(h6'.set_ HW.out.2 HW.out.1 7 (.int .i64 (y1 : Nat))).cs_ (cs':=#[.int .i64 (n1 : Nat),.int .i64 (q : Nat),.int .i64 (t : Nat),.int .i64 (k : Nat),.int .i64 (wk : Nat),.int .i64 0,.int .i64 (y0 : Nat),.int .i64 (y1 : Nat),.int .i64 0,.int .i64 0,.int .i64 0,.int .i64 0,.int .i64 0,.slice none 0 0]) rfl;clear h6'
      go_upto_region 15 with fail
      refine nameW ?_;intro W7 hwn;rw [← hwn] at h7;clear hwn cc fc;go_wp2_with fail;refine (HINT.out _ _ _ h7.R h7.gW).mono ?_;rintro e w8 ⟨rfl,gg,R8⟩;obtain ⟨y2,r8,e8,hI⟩ : ∃ y2 r8 e8,Vint.intM r7 e7 = (y2,r8,e8):=⟨_,_,_,rfl⟩;rw [hI] at R8 ⊢;have HI7:=Lib.hid hI;have h7':=h7.after HW.out.2 gg R8;clear gg hI R8 h7;have cc:=h7'.kx.cell 8;have fc:=h7'.kx.free 8;have h8:=(h7'.set_ HW.out.2 HW.out.1 8 (.int .i64 (y2 : Nat))).cs_ (cs':=#[.int .i64 (n1 : Nat),.int .i64 (q : Nat),.int .i64 (t : Nat),.int .i64 (k : Nat),.int .i64 (wk : Nat),.int .i64 0,.int .i64 (y0 : Nat),.int .i64 (y1 : Nat),.int .i64 (y2 : Nat),.int .i64 0,.int .i64 0,.int .i64 0,.int .i64 0,.slice none 0 0]) rfl;clear h7'
      go_upto_region 16 with fail
      refine nameW ?_;intro W8 hwn;rw [← hwn] at h8;clear hwn cc fc;go_wp2_with fail;refine (HINT.out _ _ _ h8.R h8.gW).mono ?_;rintro e w9 ⟨rfl,gg,R9⟩;obtain ⟨y3,r9,e9,hI⟩ : ∃ y3 r9 e9,Vint.intM r8 e8 = (y3,r9,e9):=⟨_,_,_,rfl⟩;rw [hI] at R9 ⊢;have HI8:=Lib.hid hI;have h8':=h8.after HW.out.2 gg R9;clear gg hI R9 h8;have cc:=h8'.kx.cell 9;have fc:=h8'.kx.free 9;have h9:=(h8'.set_ HW.out.2 HW.out.1 9 (.int .i64 (y3 : Nat))).cs_ (cs':=#[.int .i64 (n1 : Nat),.int .i64 (q : Nat),.int .i64 (t : Nat),.int .i64 (k : Nat),.int .i64 (wk : Nat),.int .i64 0,.int .i64 (y0 : Nat),.int .i64 (y1 : Nat),.int .i64 (y2 : Nat),.int .i64 (y3 : Nat),.int .i64 0,.int .i64 0,.int .i64 0,.slice none 0 0]) rfl;clear h8'
      go_upto_region 17 with fail
      refine nameW ?_;intro W9 hwn;rw [← hwn] at h9;clear hwn cc fc;go_wp2_with fail;refine (HINT.out _ _ _ h9.R h9.gW).mono ?_;rintro e w10 ⟨rfl,gg,R10⟩;obtain ⟨y4,r10,e10,hI⟩ : ∃ y4 r10 e10,Vint.intM r9 e9 = (y4,r10,e10):=⟨_,_,_,rfl⟩;rw [hI] at R10 ⊢;have HI9:=Lib.hid hI;have h9':=h9.after HW.out.2 gg R10;clear gg hI R10 h9;have cc:=h9'.kx.cell 10;have fc:=h9'.kx.free 10;have h10:=(h9'.set_ HW.out.2 HW.out.1 10 (.int .i64 (y4 : Nat))).cs_ (cs':=#[.int .i64 (n1 : Nat),.int .i64 (q : Nat),.int .i64 (t : Nat),.int .i64 (k : Nat),.int .i64 (wk : Nat),.int .i64 0,.int .i64 (y0 : Nat),.int .i64 (y1 : Nat),.int .i64 (y2 : Nat),.int .i64 (y3 : Nat),.int .i64 (y4 : Nat),.int .i64 0,.int .i64 0,.slice none 0 0]) rfl;clear h9'
      go_upto_region 18 with fail
      refine nameW ?_;intro W10 hwn;rw [← hwn] at h10;clear hwn cc fc;go_wp2_with fail;refine (HINT.out _ _ _ h10.R h10.gW).mono ?_;rintro e w11 ⟨rfl,gg,R11⟩;obtain ⟨y5,r11,e11,hI⟩ : ∃ y5 r11 e11,Vint.intM r10 e10 = (y5,r11,e11):=⟨_,_,_,rfl⟩;rw [hI] at R11 ⊢;have HI10:=Lib.hid hI;have h10':=h10.after HW.out.2 gg R11;clear gg hI R11 h10;have cc:=h10'.kx.cell 11;have fc:=h10'.kx.free 11;have h11:=(h10'.set_ HW.out.2 HW.out.1 11 (.int .i64 (y5 : Nat))).cs_ (cs':=#[.int .i64 (n1 : Nat),.int .i64 (q : Nat),.int .i64 (t : Nat),.int .i64 (k : Nat),.int .i64 (wk : Nat),.int .i64 0,.int .i64 (y0 : Nat),.int .i64 (y1 : Nat),.int .i64 (y2 : Nat),.int .i64 (y3 : Nat),.int .i64 (y4 : Nat),.int .i64 (y5 : Nat),.int .i64 0,.slice none 0 0]) rfl;clear h10'
      go_upto_region 19 with fail
      refine nameW ?_;intro W11 hwn;rw [← hwn] at h11;clear hwn cc fc;go_wp2_with fail;refine (HINT.out _ _ _ h11.R h11.gW).mono ?_;rintro e w12 ⟨rfl,gg,R12⟩;obtain ⟨y6,r12,e12,hI⟩ : ∃ y6 r12 e12,Vint.intM r11 e11 = (y6,r12,e12):=⟨_,_,_,rfl⟩;rw [hI] at R12 ⊢;have HI11:=Lib.hid hI;have h11':=h11.after HW.out.2 gg R12;clear gg hI R12 h11;have cc:=h11'.kx.cell 12;have fc:=h11'.kx.free 12;have h12:=(h11'.set_ HW.out.2 HW.out.1 12 (.int .i64 (y6 : Nat))).cs_ (cs':=#[.int .i64 (n1 : Nat),.int .i64 (q : Nat),.int .i64 (t : Nat),.int .i64 (k : Nat),.int .i64 (wk : Nat),.int .i64 0,.int .i64 (y0 : Nat),.int .i64 (y1 : Nat),.int .i64 (y2 : Nat),.int .i64 (y3 : Nat),.int .i64 (y4 : Nat),.int .i64 (y5 : Nat),.int .i64 (y6 : Nat),.slice none 0 0]) rfl;clear h11'
      have hp : P = [(y0 : Int),(y1 : Int),(y2 : Int),(y3 : Int),(y4 : Int),(y5 : Int),(y6 : Int)]∧rP = r12∧eP = e12:=by
        have h:=HP.out;rw [if_pos HK2.out] at h
        simp only [rd7,rdNv,HI5.out,HI6.out,HI7.out,HI8.out,HI9.out,HI10.out,HI11.out] at h
        injection h with h1 h2
        injection h2 with h2 h3
        exact ⟨h1.symm,h2.symm,h3.symm⟩
      have H12:=Lib.hid h12;have HPP:=Lib.hid hp;clear h12 hp;go_wp2_with fail;go_meet;obtain ⟨rfl,rfl,rfl⟩:=HPP.out;exact H12.out
    · have hq2 : ((k : Int) == 2) = false:=by rw [beq_eq_false_iff_ne];omega
      have hp : P = Evt.p0∧rP = r5∧eP = e5:=by
        have h:=HP.out;rw [if_neg hk2] at h
        injection h with h1 h2
        injection h2 with h2 h3
        exact ⟨h1.symm,h2.symm,h3.symm⟩
      have HPP:=Lib.hid hp;clear hp hk2;go_wp2_with fail;go_meet;obtain ⟨rfl,rfl,rfl⟩:=HPP.out;exact h5
  case rest =>
  have hp:=hcut;clear hcut h5 c3
  rename_i _ W6
  go_upto_region 20 with fail
  go_wp2_with fail;refine (HINT.out _ _ _ hp.R hp.gW).mono ?_;rintro e w7 ⟨rfl,gg,R7⟩;obtain ⟨m,r7,e7,hI⟩ : ∃ m r7 e7,Vint.intM rP eP = (m,r7,e7):=⟨_,_,_,rfl⟩;rw [hI] at R7 ⊢;have HIM:=Lib.hid hI;have h7:=hp.after HW.out.2 gg R7
  obtain ⟨f7,hf7⟩ : ∃ f7 : Nat,f7 = if 96 < m then (if e7 = 0 then 6 else e7) else e7:=⟨_,rfl⟩
  have HF7:=Lib.hid hf7
  have HMS:=Lib.hid (show f7 = 0→m≤96 from fun h=>by
    false_or_by_contra
    rw [hf7,if_pos (by omega)] at h
    split at h <;> omega)
  have hmb : m≤1099511627776:=by
    have h:=hI
    by_cases he : e7 = 0
    · subst he
      have:=intM_good (l:=rP) (e:=eP) (by rw [h])
      rw [h] at this;exact this.2.2
    · have:=intM_small rP eP (by rw [h];exact he)
      rw [h] at this
      simp only at this
      omega
  have HMB:=Lib.hid hmb;clear gg hI R7 hp hf7 hmb
  go_upto_if 83 with fail
  go_cut [] (fun wx=>RdEvS w g b A n c bs #[.int .i64 (n1 : Nat),.int .i64 (q : Nat),.int .i64 (t : Nat),.int .i64 (k : Nat),.int .i64 (wk : Nat),.int .i64 0,.int .i64 (P.getD 0 0),.int .i64 (P.getD 1 0),.int .i64 (P.getD 2 0),.int .i64 (P.getD 3 0),.int .i64 (P.getD 4 0),.int .i64 (P.getD 5 0),.int .i64 (P.getD 6 0),.slice none 0 0] r7 f7 wx)
  case first =>
    by_cases hm : 96 < m
    · have hd : (96 : Int) < (m : Int):=by omega
      have hf : f7 = if e7 = 0 then 6 else e7:=by rw [HF7.out,if_pos hm]
      have HFF:=Lib.hid hf;clear hf hm;go_wp2_with fail;refine (rfail_m g 6 A n c bs r7 e7 _ h7.R).mono ?_;rintro e w8 ⟨rfl,gg,R8⟩;rw [← HFF.out] at R8;have h8:=h7.after HW.out.2 gg R8;clear gg R8;go_wp2_with fail;go_meet;exact h8
    · have hd : (m : Int)≤96:=by omega
      have hf : f7 = e7:=by rw [HF7.out,if_neg hm]
      rw [← hf] at h7;clear hf hm;go_wp2_with fail;go_meet;exact h7
  case rest =>
  have h8:=hcut;clear hcut h7
  rename_i _ W8
  have HFIN:=Lib.hid (show rdE r0 = (⟨((n1 : Int),(q : Int)),(t : Nat),(k : Nat),(wk : Nat),0,P,(rdDD m r7 f7).1⟩,(rdDD m r7 f7).2) by
    have h1:=HF4.out;have h2:=HP.out;have h7:=HF7.out
    simp only [rdE,HI0.out,HI1.out,HI2.out,HI3.out]
    rw [← h1,HI4.out]
    simp only [rdK,if_neg HK1.out]
    by_cases hk2 : k = 2
    · rw [if_pos hk2] at h2
      simp only [if_pos hk2,h2,HIM.out]
      rw [← h7]
    · rw [if_neg hk2] at h2
      simp only [if_neg hk2]
      injection h2 with h3 h4
      injection h4 with h4 h5
      subst h3 h4 h5
      simp only [HIM.out]
      rw [← h7])
  go_upto_region 23 with fail
  go_wp2_with fail
  go_loopw [5] (fun i wr=>∃ (j : Nat) (Ad : Option Addr) (md cd : Nat),j≤m∧i = .int .i64 j∧RdEvS w g b A n c bs #[.int .i64 (n1 : Nat),.int .i64 (q : Nat),.int .i64 (t : Nat),.int .i64 (k : Nat),.int .i64 (wk : Nat),.int .i64 0,.int .i64 (P.getD 0 0),.int .i64 (P.getD 1 0),.int .i64 (P.getD 2 0),.int .i64 (P.getD 3 0),.int .i64 (P.getD 4 0),.int .i64 (P.getD 5 0),.int .i64 (P.getD 6 0),.slice Ad md cd] (rdDD j r7 f7).2.1 (rdDD j r7 f7).2.2 wr∧OwnD wr (b + 1 + 1) Ad md cd (rdDD j r7 f7).1∧md≤j) (fun i _=>m - (intOf i).toNat)
  case atStart=>exact ⟨0,none,0,0,by omega,rfl,h8,OwnD.nil _ _,by omega⟩
  case round =>
    clear h8;obtain ⟨j,Ad,md,cd,hj,rfl,hs,ho,hmd⟩:=hrel
    have hst : (rdDD j r7 f7).2.2 = 0→f7 = 0∧rdDD (j + 1) r7 f7 = ((rdDD j r7 f7).1 ++ [(((Vint.intM (rdDD j r7 f7).2.1 0).1 : Int),((Vint.intM (Vint.intM (rdDD j r7 f7).2.1 0).2.1 (Vint.intM (rdDD j r7 f7).2.1 0).2.2).1 : Int))],(Vint.intM (Vint.intM (rdDD j r7 f7).2.1 0).2.1 (Vint.intM (rdDD j r7 f7).2.1 0).2.2).2):=fun h=>by
      refine ⟨?_,by rw [rdDD,if_pos h]⟩
      false_or_by_contra
      rename_i hne
      rw [rdDD_bad j r7 f7 hne] at h;exact hne h
    have hfin : (j = m∨(rdDD j r7 f7).2.2 ≠ 0)→rdDD m r7 f7 = rdDD j r7 f7:=fun h=>by
      rcases h with h | h
      · rw [h]
      · exact rdDD_stuck r7 f7 j h m hj
    generalize rdDD j r7 f7 = S at *
    obtain ⟨L,r8,e8⟩:=S
    simp only at hs ho hst hfin
    have HST:=Lib.hid hst;have HFN:=Lib.hid hfin;clear hst hfin;obtain ⟨at8,_,kR,_⟩:=hs.R;have c2 : wr.cell? ⟨g,2,none⟩ = some (.int .i64 (e8 : Nat)):=kR.cell 2;clear kR;have hmb:=HMB.out
    by_cases hgo : j < m∧e8 = 0
    case pos =>
      obtain ⟨hlt,rfl⟩:=hgo;obtain ⟨hf0,hst⟩:=HST.out rfl;have hm96:=HMS.out hf0;have HST2:=Lib.hid hst;have c2 : wr.cell? ⟨g,2,none⟩ = some (.int .i64 0):=c2
      have hk1 : (j : Int) < (m : Int):=by omega
      clear HST HFN hst hf0;go_wp2_with fail;clear c2;refine (HINT.out _ _ _ hs.R hs.gW).mono ?_;rintro e w9 ⟨rfl,gg,R9⟩;obtain ⟨x1,r9,e9,hI⟩ : ∃ x1 r9 e9,Vint.intM r8 0 = (x1,r9,e9):=⟨_,_,_,rfl⟩;rw [hI] at R9 ⊢;have hst:=HST2.out;rw [hI] at hst;have HST3:=Lib.hid hst;have h9:=hs.after HW.out.2 gg R9;have o9:=ho.grown gg (.inr (fun h=>by have:=(ho.lt g h).1;have:=HW.out;omega));clear gg hI R9 hs ho HST2 hst
      go_upto_region 27 with fail
      obtain ⟨su,hsu⟩ : ∃ su : Array Value,su = #[.int .i64 (n1 : Nat),.int .i64 (q : Nat),.int .i64 (t : Nat),.int .i64 (k : Nat),.int .i64 (wk : Nat),.int .i64 0,.int .i64 (P.getD 0 0),.int .i64 (P.getD 1 0),.int .i64 (P.getD 2 0),.int .i64 (P.getD 3 0),.int .i64 (P.getD 4 0),.int .i64 (P.getD 5 0),.int .i64 (P.getD 6 0),.slice Ad md cd]:=⟨_,rfl⟩;rw [← hsu] at h9;have HU13:=Lib.hid (show su[13]? = some (.slice Ad md cd) by rw [hsu];rfl);have HUS:=Lib.hid (fun (A' : Option Addr) (m' c' : Nat)=>(show su.setIfInBounds 13 (.slice A' m' c') = #[.int .i64 (n1 : Nat),.int .i64 (q : Nat),.int .i64 (t : Nat),.int .i64 (k : Nat),.int .i64 (wk : Nat),.int .i64 0,.int .i64 (P.getD 0 0),.int .i64 (P.getD 1 0),.int .i64 (P.getD 2 0),.int .i64 (P.getD 3 0),.int .i64 (P.getD 4 0),.int .i64 (P.getD 5 0),.int .i64 (P.getD 6 0),.slice A' m' c'] by rw [hsu];rfl));clear hsu;refine wp_region_C (fun w'=>Blk w' (b + 1) 109 su) 7 (by kernel_rfl) ?_
      replace h9 : RdEvS w g b A n c bs su r9 e9 w9.drew:=⟨h9.kz,h9.kx,h9.R.map (fun _ _ q=>q.drew),only_drew h9.gW⟩
      replace o9:=o9.drew
      generalize w9.drew = wd at *
      refine wpAnyC_pure (i:=0) (v:=?rv953) rfl (by kernel_rfl) (by kernel_rfl) (by kernel_rfl) (fun _ _ _ h=>h) (by decide) (Or.inl ⟨by rfl,?ry953⟩) (fun _=>(h9.kx)) ?_
      case ry953=>((intro w;go_simp);(try with_reducible rfl))
      simp only [Act.put,List.getElem_toArray,List.getElem_cons_zero,List.getElem_cons_succ,List.setIfInBounds_toArray,List.set_cons_succ,List.set_cons_zero]
      refine wpAnyC_pure (i:=2) (v:=?rv956) rfl (by kernel_rfl) (by kernel_rfl) (by kernel_rfl) (fun _ _ _ h=>h) (by decide) (Or.inl ⟨by rfl,?ry956⟩) (fun _=>(h9.kx)) ?_
      case ry956=>((intro w;go_simp);(try with_reducible rfl))
      simp only [Act.put,List.getElem_toArray,List.getElem_cons_zero,List.getElem_cons_succ,List.setIfInBounds_toArray,List.set_cons_succ,List.set_cons_zero]
      refine wpAnyC_pure (i:=3) (v:=?rv959) rfl (by kernel_rfl) (by kernel_rfl) (by kernel_rfl) (fun _ _ _ h=>h) (by decide) (Or.inl ⟨by rfl,?ry959⟩) (fun _=>(h9.kx)) ?_
      case ry959=>((intro w;go_simp);(try with_reducible rfl))
      simp only [Act.put,List.getElem_toArray,List.getElem_cons_zero,List.getElem_cons_succ,List.setIfInBounds_toArray,List.set_cons_succ,List.set_cons_zero]
      refine wpAnyC_take (i:=1) (v:=?rv1) rfl (by kernel_rfl) (by kernel_rfl) (by kernel_rfl) (fun _ _ _ h=>h) (by decide) (by kernel_rfl) (by kernel_rfl) (Or.inl ⟨by rfl,?ry1⟩) h9.kx ?_
      case ry1=>(intro wS hSw;have c8 : wS.cell? ⟨b + 1,13,none⟩ = some (.slice Ad md cd):=(hSw.cell 13).trans HU13.out;clear hSw;go_simp;(try with_reducible rfl))
      try simp only [Act.put,List.getElem_toArray,List.getElem_cons_zero,List.getElem_cons_succ,List.setIfInBounds_toArray,List.set_cons_succ,List.set_cons_zero]
      refine wpAnyC_ready (rs:=[4]) (by kernel_rfl) (by simp) ?_;refine AllReadyC.consS rfl (fun K hK=>?_) .nil;go_simp;refine (HINT.out _ _ _ h9.R h9.gW).mono ?_;rintro e w10 ⟨rfl,gg,R10⟩;obtain ⟨x2,r10,e10,hI⟩ : ∃ x2 r10 e10,Vint.intM r9 e9 = (x2,r10,e10):=⟨_,_,_,rfl⟩;rw [hI] at R10 ⊢;have hst:=HST3.out
      simp only [hI] at hst
      have HST4:=Lib.hid hst;have h10:=h9.after HW.out.2 gg R10;have o10:=o9.grown gg (.inr (fun h=>by have:=(o9.lt g h).1;have:=HW.out;omega));refine hK.out _ _ h10.kx ?_;clear hK K gg hI R10 h9 o9 HST3 hst
      try simp only [Act.put,List.getElem_toArray,List.getElem_cons_zero,List.getElem_cons_succ,List.setIfInBounds_toArray,List.set_cons_succ,List.set_cons_zero]
      refine wpAnyC_pure (i:=5) (v:=?rv980) rfl (by kernel_rfl) (by kernel_rfl) (by kernel_rfl) (fun _ _ _ h=>h) (by decide) (Or.inl ⟨by rfl,?ry980⟩) (fun _=>(h10.kx)) ?_
      case ry980=>((intro w;go_simp);(try with_reducible rfl))
      simp only [Act.put,List.getElem_toArray,List.getElem_cons_zero,List.getElem_cons_succ,List.setIfInBounds_toArray,List.set_cons_succ,List.set_cons_zero]
      refine wpAnyC_ready (rs:=[6]) (by kernel_rfl) (by simp) ?_;refine AllReadyC.consS rfl (fun K hK=>?_) .nil;go_simp;have h11 : RdEvS w g b A n c bs su r10 e10 (w10.alloc (.cells #[.int .i64 (x1 : Nat),.int .i64 (x2 : Nat)] 100)):=⟨h10.kz.alloc _,h10.kx.alloc _,h10.R.map (fun _ _ q=>q.alloc _),only_alloc h10.gW _⟩;have o11:=o10.alloc (.cells #[.int .i64 (x1 : Nat),.int .i64 (x2 : Nat)] 100);have rX:=Rd.made w10 #[.int .i64 (x1 : Nat),.int .i64 (x2 : Nat)] 100 (0,0);refine hK.out _ _ h11.kx ?_;clear hK K h10 o10
      generalize w10.alloc (.cells #[.int .i64 (x1 : Nat),.int .i64 (x2 : Nat)] 100) = w11 at *
      generalize w10.heap.size = gx at *
      try simp only [Act.put,List.getElem_toArray,List.getElem_cons_zero,List.getElem_cons_succ,List.setIfInBounds_toArray,List.set_cons_succ,List.set_cons_zero]
      have hs11 : b + 1 < w11.heap.size:=h11.kx.lt;refine wpAnyC_ready (rs:=[7]) (by kernel_rfl) (by simp) ?_;refine AllReadyC.cons rfl (by kernel_rfl) (fun K hK=>?_) .nil;refine stepsD rfl (.tmp 101) (.tmp 106) rfl (by rfl) o11 (by rfl) (m:=1) (news:=[(((x1 : Nat) : Int),((x2 : Nat) : Int))]) rX rfl (by omega) (by omega) ?_;intro A8 c8' w12 o12 g12 m12 b12;have h12 : RdEvS w g b A n c bs su r10 e10 w12:=⟨h11.kz.grown g12 (own_ne o11.2 h11.kz (by decide)),h11.kx.grown g12 (own_ne o11.2 h11.kx (by decide)),h11.R.map (fun _ _ q=>q.grown g12 (fun h=>by have:=(o11.lt g h).1;have:=HW.out;omega)),only_below h11.gW (b12.mono (by have:=HW.out;omega))⟩;refine hK.out _ _ ?_;clear hK K h11 o11 g12 m12 b12 rX
      try simp only [Act.put,List.getElem_toArray,List.getElem_cons_zero,List.getElem_cons_succ,List.setIfInBounds_toArray,List.set_cons_succ,List.set_cons_zero]
      refine wpAnyC_pure (i:=8) (v:=?rv8) rfl (by kernel_rfl) (by kernel_rfl) (by kernel_rfl) (fun _ _ _ h=>h) (by decide) (Or.inl ⟨by rfl,?ry8⟩) (fun h=>absurd h (by decide)) ?_
      case ry8=>((intro w;go_simp);(try with_reducible rfl))
      try simp only [Act.put,List.getElem_toArray,List.getElem_cons_zero,List.getElem_cons_succ,List.setIfInBounds_toArray,List.set_cons_succ,List.set_cons_zero]
      have c9 : w12.cell? ⟨b + 1,13,none⟩ = some (.slice Ad md cd):=(h12.kx.cell 13).trans HU13.out;have f9:=h12.kx.free 13;have o13:=o12.setFar (p:=⟨b + 1,13,none⟩) (own_ne o12.2 h12.kx (by decide)) (.slice A8 (md + 1) c8');have h13:=(h12.set_ HW.out.2 HW.out.1 13 (.slice A8 (md + 1) c8')).cs_ (HUS.out A8 (md + 1) c8');have H13:=Lib.hid h13;have O13:=Lib.hid o13;refine wpAnyC_ready (rs:=[9]) (by kernel_rfl) (by simp) ?_;refine AllReadyC.cons rfl (by kernel_rfl) (fun K hK=>?_) .nil;clear h13 o13 h12 o12;go_simp;refine hK.out _ _ ?_;clear hK K c9 f9;refine wpAnyC_done (by kernel_rfl) ?_ _;go_wp2_with fail
      go_roundw
      case rel=>exact ⟨j + 1,A8,md + 1,c8',by omega,by go_num,by rw [HST4.out];exact H13.out,by rw [HST4.out];exact O13.out,by omega⟩
      case measure=>simp [intOf];omega
    case neg =>
      have hf2:=HFN.out (by omega);have hrl:=HFIN.out;rw [hf2] at hrl;have HE:=Lib.hid hrl;clear HST HFN hf2 hrl HFIN;obtain ⟨cz,hcz⟩ : ∃ cz : Array Value,cz = #[.int .i64 (n1 : Nat),.int .i64 (q : Nat),.int .i64 (t : Nat),.int .i64 (k : Nat),.int .i64 (wk : Nat),.int .i64 0,.int .i64 (P.getD 0 0),.int .i64 (P.getD 1 0),.int .i64 (P.getD 2 0),.int .i64 (P.getD 3 0),.int .i64 (P.getD 4 0),.int .i64 (P.getD 5 0),.int .i64 (P.getD 6 0),.slice Ad md cd]:=⟨_,rfl⟩;have hf:=hs.cs_ hcz.symm;have SX:=Lib.hid (show cz.size = 14 by rw [hcz];rfl);have OX:=Lib.hid (show cz.all (·.oneCell') = true by rw [hcz];kernel_rfl);have SZ:=Lib.hid (show (cT 0).size = 14 from rfl);have HCZ:=Lib.hid hcz;obtain ⟨kz,kx,hRf,gWf⟩:=hf;clear hcz hs
      by_cases hlt : j < m
      case' pos =>
        have he1 : e8 ≠ 0:=fun h=>hgo ⟨hlt,h⟩
        have hk1 : (j : Int) < (m : Int):=by omega
        have hq : (((e8 : Nat) : Int) == 0) = false:=by rw [beq_eq_false_iff_ne];omega
        clear hgo
        go_upto_region 28 with fail
        clear c2
      case' neg =>
        obtain rfl : j = m:=by omega
        clear hgo
        go_upto_region 28 with fail
        clear c2
      all_goals
        go_wp2_with first
          | ((with_reducible refine wpList_ld rowE kx SX.out ?_ ?_);rotate_left;(rfl))
          | ((with_reducible refine wpList_st rowE kz SX.out SZ.out OX.out ?_ ?_ ?_);rotate_left;(rfl);(rfl);intro w92 k92 g92 z92)
        have hR92:=hRf.map (fun _ _ k=>k.grown g92 (fun h=>by injection h;have:=HW.out;omega));have gW92:=grown_on gWf g92 HW.out.1;have o92:=(ho.grown g92 (.inr (own_ne ho.2 kz (by decide)))).mono (base':=w.heap.size) (by have:=HW.out;omega);exact bodyPost_ret (v:=.agg cz) (results_blk rfl rowE k92 SX.out rfl) rfl ⟨Ad,md,cd,by rw [HE.out,HCZ.out];rfl,by rw [HE.out];exact o92,by rw [HE.out];exact hR92,gW92⟩
end Go.Proofs.YtcgalmnllegnbaaGreat

namespace Go.Proofs.YtcgalmnllegnbaaGreat
set_option linter.unusedVariables false
set_option linter.unusedSimpArgs false
set_option maxRecDepth 100000
open Go.RowKit
open Dot Evt
namespace Evt
theorem rdDD_len (k : Nat) (l : List UInt8) (e : Nat) : (rdDD k l e).1.length≤k:=by
  induction k with
  | zero=>exact Nat.le_refl _
  | succ k ih =>
    rw [rdDD]
    by_cases h : (rdDD k l e).2.2 = 0
    · rw [if_pos h];simp only [List.length_append,List.length_cons,List.length_nil];omega
    · rw [if_neg h];omega
theorem rdLL_len (l : List UInt8) (e : Nat) : (rdLL l e).1.length≤96:=by
  simp only [rdLL]
  by_cases h : 96 < (Vint.intM l e).1
  · rw [if_pos h,rdDD_bad _ _ _ (by split <;> omega)]
    exact Nat.zero_le _
  · rw [if_neg h]
    have:=rdDD_len (Vint.intM l e).1 (Vint.intM l e).2.1 (Vint.intM l e).2.2
    omega
theorem rdK_l (n q t k w : Nat) (l : List UInt8) (e : Nat) : (rdK n q t k w l e).1.l.length≤96:=by
  rw [rdK_eq]
  by_cases h1 : k = 1
  · rw [if_pos h1];exact Nat.zero_le _
  · rw [if_neg h1]
    by_cases h2 : k = 2
    · simp only [if_pos h2];exact rdLL_len _ _
    · simp only [if_neg h2];exact rdLL_len _ _
theorem rdE_l (l : List UInt8) : (rdE l).1.l.length≤96:=by
  simp only [rdE]
  exact rdK_l _ _ _ _ _ _ _
theorem rdE_p (l : List UInt8) : (rdE l).1.p.length = 7:=by
  simp only [rdE]
  exact rdK_p _ _ _ _ _ _ _
end Evt
theorem rst_at {w : World} {g : Nat} {A : Option Addr} {n c : Nat} {bs r : List UInt8} {e : Nat} (h : RSt w g A n c bs r e) (hn : n = bs.length) : ∃ at',RRd w g A n c at' e∧(at' < n↔r ≠ [])∧at'≤n:=by
  obtain ⟨at',h1,h2,h3⟩:=h;refine ⟨at',h2,?_,h1⟩;rw [← h3]
  constructor
  · intro h4 h5
    have:=congrArg List.length h5
    rw [List.length_drop] at this
    simp at this
    omega
  · intro h4
    false_or_by_contra
    exact h4 (List.drop_eq_nil_of_le (by omega))
end Go.Proofs.YtcgalmnllegnbaaGreat

namespace Go.Proofs.YtcgalmnllegnbaaGreat
set_option linter.unusedVariables false
set_option linter.unusedSimpArgs false
set_option maxRecDepth 100000
open Go.RowKit
open Dot Evt
def decAR (l : List UInt8) : Except Nat (List Ev × List UInt8) :=
  match Vint.dec l with
  | .error y=>.error y
  | .ok (n,r)=>if 768 < n then .error 6 else decEs n r
def AllSt (xs : List Ev) (r : List UInt8) (E : Nat) (R : Except Nat (List Ev × List UInt8)) : Prop:=(E = 0→R = .ok (xs,r))∧(E ≠ 0→R = .error E)
def ReadAllEv (w : World) (g : Nat) (A : Option Addr) (n c : Nat) (bs : List UInt8) (e : Ending) (w' : World) : Prop :=
  ∃ A' m' c' ys r E,e = .returned (.slice A' m' c')∧OwnEv w' w.heap.size A' m' c' ys∧(∀ y ∈ ys,EvOwn w' w.heap.size y)∧RSt w' g A n c bs r E∧w.grownBy w' (some g)∧AllSt (ys.map (·.e)) r E (decAR bs)
theorem keepOwn2 {g x0 base : Nat} {wr w6 w7 : World} {t : TypeId} {s : Nat} {A : Option Addr} {n c : Nat} {xs : List Value} (h : wr.ownsRow base t s (.slice A n c) n xs) (hg : wr.grownBy w7 (some g)) (hbase : g < base) : w7.ownsRow base t s (.slice A n c) n xs :=
  ownsRow_keep h fun k hk=>by
    have hl:=ownsRow_lt h hk;refine hg.block k hl (fun e=>?_)
    injection e with e
    rcases h.2 with ⟨hv,_⟩ | ⟨q,cap,cur,hv,hb,_⟩
    · injection hv with hA;subst hA;cases hk
    · injection hv with hA;subst hA;injection hk with hk;simp at hk;omega
set_option maxRecDepth 100000 in
set_option maxHeartbeats 4000000 in
theorem rreadAll07_any (g : Nat) (A : Option Addr) (n c B : Nat) (bs : List UInt8) (w : World) (hR : RSt w g A n c bs bs 0) (hb : RdB w B A n bs) (hB : B≤g) (hglt : g < w.heap.size) (hn : n≤1000000000) :
    Calls Tryz.prog 65 #[.pointer (some ⟨g,0,none⟩)] w (ReadAllEv w g A n c bs):=by
  have HBG:=Lib.hid (hb.more hB);have HGL:=Lib.hid hglt;have HNN:=Lib.hid hn;clear hb hglt hn;obtain ⟨s,hs⟩ : ∃ s,s = w.heap.size:=⟨_,rfl⟩;have HS:=Lib.hid hs;have HGS:=Lib.hid (show g < s by have:=HGL.out;omega);clear hs
  go_enter Tryz.func65,Tryz.ntmps65
  go_wp2_with fail;refine (rint_m g A n c g bs bs 0 w hR HBG.out HNN.out).mono ?_;rintro e w1 ⟨rfl,g1,R1⟩;obtain ⟨m,r1,e1,hI⟩ : ∃ m r1 e1,Vint.intM bs 0 = (m,r1,e1):=⟨_,_,_,rfl⟩;rw [hI] at R1 ⊢
  simp only at R1
  have hsm:=intM_small bs 0;rw [hI] at hsm
  simp only at hsm
  -- the reader's error ahead of the loop
  obtain ⟨f1,hf1⟩ : ∃ f1 : Nat,f1 = if 768 < m then (if e1 = 0 then 6 else e1) else e1:=⟨_,rfl⟩
  have hdec : (f1 ≠ 0→decAR bs = .error f1∧True)∧(f1 = 0→m≤768∧decAR bs = decEs m r1):=by
    cases hd : Vint.dec bs with
    | error y =>
      have hy:=Vint.dec_err hd;rw [Vint.intM_bad hd] at hI
      injection hI with h1 h2
      injection h2 with h2 h3
      subst h1 h2 h3;rw [if_neg (by omega)] at hf1;subst hf1;exact ⟨fun _=>⟨by simp [decAR,hd],trivial⟩,fun h=>by omega⟩
    | ok p =>
      obtain ⟨n',r'⟩:=p;rw [Vint.intM_ok hd] at hI
      injection hI with h1 h2
      injection h2 with h2 h3
      subst h1 h2 h3
      by_cases hbig : 768 < n'
      · rw [if_pos hbig,if_pos rfl] at hf1
        subst hf1;exact ⟨fun _=>⟨by simp [decAR,hd,hbig],trivial⟩,fun h=>by omega⟩
      · rw [if_neg hbig] at hf1
        subst hf1;exact ⟨fun h=>absurd rfl h,fun _=>⟨by omega,by simp [decAR,hd,hbig]⟩⟩
  have HD:=Lib.hid hdec;have HF1:=Lib.hid hf1
  have hmb : m≤1099511627776:=by
    by_cases he : e1 = 0
    · have:=intM_good (l:=bs) (e:=0) (by rw [hI];exact he)
      rw [hI] at this;exact this.2.2
    · have:=hsm he
      omega
  have HMB:=Lib.hid hmb;clear hsm hf1 hdec hI hR hmb
  go_upto_if 10 with fail
  go_cut [] (fun wx=>RSt wx g A n c bs r1 f1∧w.grownBy wx (some g))
  case first =>
    by_cases hm : 768 < m
    · have hd : (768 : Int) < (m : Int):=by omega
      have hf : f1 = if e1 = 0 then 6 else e1:=by rw [HF1.out,if_pos hm]
      have HFF:=Lib.hid hf;clear hf hm;go_wp2_with fail;refine (rfail_m g 6 A n c bs r1 e1 _ R1).mono ?_;rintro e w8 ⟨rfl,gg,R8⟩;rw [← HFF.out] at R8;have g8:=grown_trans g1 gg;clear gg;go_wp2_with fail;go_meet;exact ⟨R8,g8⟩
    · have hd : (m : Int)≤768:=by omega
      have hf : f1 = e1:=by rw [HF1.out,if_neg hm]
      rw [← hf] at R1;clear hf hm;go_wp2_with fail;go_meet;exact ⟨R1,g1⟩
  case rest =>
  obtain ⟨R2,g2⟩:=hcut;clear R1 g1
  rename_i _ W2
  go_upto_region 5 with fail
  go_wp2_with fail
  go_loopw [3,5] (fun z i wr=>∃ (j : Nat) (ys : List EvV) (A' : Option Addr) (c' : Nat) (r : List UInt8) (E : Nat),j≤m∧i = .int .i64 j∧z = .slice A' j c'∧OwnEv wr s A' j c' ys∧(∀ y ∈ ys,EvOwn wr s y)∧RSt wr g A n c bs r E∧w.grownBy wr (some g)∧(f1 = 0→AllSt (ys.map (·.e)) r E (decEs j r1))∧(f1 ≠ 0→E = f1)) (fun _ i _=>m - (intOf i).toNat)
  case atStart=>exact ⟨0,[],none,0,r1,f1,by omega,rfl,rfl,OwnEv.nil _ _,fun y hy=>by simp at hy,R2,g2,fun h=>⟨fun _=>rfl,fun h2=>absurd h h2⟩,fun _=>rfl⟩
  case round =>
    clear R2 g2;obtain ⟨j,ys,A',c',r,E,hj,rfl,rfl,ho,hys,hR,gW,hst,hbad⟩:=hrel;have HST:=Lib.hid hst;have HBAD:=Lib.hid hbad;have HYS:=Lib.hid hys;clear hst hbad hys;have hRst:=hR;obtain ⟨at8,_,kR,_⟩:=hR;have c2 : wr.cell? ⟨g,2,none⟩ = some (.int .i64 (E : Nat)):=kR.cell 2;clear kR;have hmb:=HMB.out
    by_cases hgo : j < m∧E = 0
    case neg =>
      have hfin : AllSt (ys.map (·.e)) r E (decAR bs):=by
        by_cases hf : f1 = 0
        · obtain ⟨h1,h2⟩:=HD.out.2 hf
          obtain ⟨q1,q2⟩:=HST.out hf;rw [h2]
          by_cases hE : E = 0
          · have : j = m:=by
              false_or_by_contra
              exact hgo ⟨by omega,hE⟩
            rw [← this];exact ⟨q1,q2⟩
          · exact ⟨fun h=>absurd h hE,fun h=>decEs_err (q2 h) m hj⟩
        · obtain ⟨h1,_⟩:=HD.out.1 hf
          have h3:=HBAD.out hf;exact ⟨fun h=>absurd (h3.symm.trans h) hf,fun _=>by rw [h1,h3]⟩
      have HFIN:=Lib.hid hfin;clear hfin
      by_cases hlt : j < m
      case' pos =>
        have he1 : E ≠ 0:=fun h=>hgo ⟨hlt,h⟩
        have hk1 : (j : Int) < (m : Int):=by omega
        have hq : (((E : Nat) : Int) == 0) = false:=by rw [beq_eq_false_iff_ne];omega
        clear hgo
        go_upto_region 12 with fail
        clear c2
      case' neg =>
        obtain rfl : j = m:=by omega
        clear hgo
        go_upto_region 12 with fail
        clear c2
      all_goals
        go_wp2_with fail;go_ret;exact ⟨A',_,c',ys,r,E,rfl,by rw [← HS.out];exact ho,by rw [← HS.out];exact HYS.out,hRst,gW,HFIN.out⟩
    case pos =>
      obtain ⟨hlt,rfl⟩:=hgo;have c2 : wr.cell? ⟨g,2,none⟩ = some (.int .i64 0):=c2
      have hk1 : (j : Int) < (m : Int):=by omega
      have hf0 : f1 = 0:=by
        false_or_by_contra
        rename_i hne
        exact hne (HBAD.out hne).symm
      have h768:=(HD.out.2 hf0).1;have hdj:=(HST.out hf0).1 rfl;have HDJ:=Lib.hid hdj;have HF0:=Lib.hid hf0;have hgw:=gW.size
      have hglw : g < wr.heap.size:=by have:=HGL.out;omega
      have HRD:=Lib.hid (rread07_any g A n c g bs r wr hRst (Rdr.only HBG.out gW HGL.out) (Nat.le_refl _) hglw HNN.out);clear HST HBAD hdj hf0;go_wp2_with fail;clear c2;refine HRD.out.mono ?_;rintro e w4 ⟨A4,m4,c4,rfl,o4,R4,g4⟩;have hp7:=rdE_p r;have hl96:=rdE_l r;obtain ⟨hOK,hER⟩:=@rdE_eq r;obtain ⟨x,hx⟩ : ∃ x,x = (rdE r).1:=⟨_,rfl⟩;obtain ⟨r',hr⟩ : ∃ r',r' = (rdE r).2.1:=⟨_,rfl⟩;obtain ⟨E',hE⟩ : ∃ E',E' = (rdE r).2.2:=⟨_,rfl⟩
      have hxre : rdE r = (x,r',E'):=by rw [hx,hr,hE]
      rw [← hx] at o4 hp7 hl96 ⊢;rw [← hr,← hE] at R4;have gW4:=grown_trans gW g4;have ho4 : OwnEv w4 s A' j c' ys:=⟨ho.1,keepOwn2 ho.2 g4 HGS.out (x0:=0) (w6:=wr)⟩
      have hys4 : ∀ y ∈ ys,EvOwn w4 s y:=fun y hy=>by
        obtain ⟨q1,q2,q3⟩:=HYS.out y hy;exact ⟨q1,⟨q2.1,keepOwn2 q2.2 g4 HGS.out (x0:=0) (w6:=wr)⟩,q3⟩
      have hz : EvOwn w4 s ⟨x,A4,m4,c4⟩:=⟨hp7,o4.mono (by have:=HS.out;omega),by show m4≤_;rw [o4.1];omega⟩;obtain ⟨z,hzz⟩ : ∃ z : EvV,z = ⟨x,A4,m4,c4⟩:=⟨_,rfl⟩
      have hze : z.e = x:=by rw [hzz]
      have hcz : ec x (.slice A4 m4 c4) = z.cs:=by rw [hzz];rfl
      rw [← hzz] at hz;rw [hcz];have HZE:=Lib.hid hze;have HBS2:=Lib.hid (fun w=>buildE1 z w)
      have hrt : ∀ w',RdD w' w'.heap.size z.A z.m z.e.l→Calls Tryz.prog 69 #[.agg z.cs] w' fun e w''=>e = .returned (.bool (rightE x))∧Below w'.heap.size w' w'':=fun w' h=>by
        have:=eright07_any z.e (by rw [hze];exact hp7) z.A z.m z.c w' h (by rw [hzz];show m4≤_;rw [o4.1];omega)
        rw [hze] at this;rw [← hcz];rw [hzz] at this;exact this
      have HRT:=Lib.hid hrt;obtain ⟨cz,hcz2⟩ : ∃ cz,cz = z.cs:=⟨_,rfl⟩;have HCZ:=Lib.hid hcz2;rw [← hcz2] at HBS2 HRT ⊢;have SZ:=Lib.hid (show cz.size = 14 by rw [hcz2];rfl);have OZ:=Lib.hid (show cz.all (·.oneCell') = true by rw [hcz2];exact z.one);have SZ0:=Lib.hid (show (cT 0).size = 14 from rfl);have HX:=Lib.hid hxre;have HOK:=Lib.hid hOK;have HER:=Lib.hid hER
      have hs4 : s≤w4.heap.size:=by have:=gW4.size;have:=HS.out;omega
      have hg4 : g < w4.heap.size:=by have:=gW4.size;have:=HGL.out;omega
      clear hx hr hE hxre hOK hER hzz hze hcz hcz2 hrt o4 hp7 hl96 g4 ho gW HYS hRst HRD
      go_upto_region 9 with first
        | ((with_reducible refine wpList_st rowE (Blk.new _ _ _) SZ.out SZ0.out OZ.out ?_ ?_ ?_);rotate_left;(rfl);(rfl);intro w6 k6 g6 z6)
      have bA : Below w4.heap.size w4 w6:=(((Below.refl _ _).alloc (Nat.le_refl _) _).grown g6 (by simp) (fun q hq=>by injection hq with hq;omega));have ho6:=ho4.below bA (Nat.le_refl _)
      have hys6 : ∀ y ∈ ys,EvOwn w6 s y:=fun y hy=>by
        obtain ⟨q1,q2,q3⟩:=hys4 y hy;exact ⟨q1,q2.below bA (Nat.le_refl _),q3⟩
      have hz6 : EvOwn w6 s z:=⟨hz.1,hz.2.1.below bA (Nat.le_refl _),hz.2.2⟩;have R6 : RSt w6 g A n c bs r' E':=R4.map (fun _ _ k=>k.below bA k.lt);have gW6:=only_below gW4 (bA.mono gW4.size);have hgx : g < w4.heap.size:=hg4;obtain ⟨x0,hx0⟩ : ∃ x0,x0 = w4.heap.size:=⟨_,rfl⟩;rw [← hx0] at k6 hgx ⊢
      have hsx : s≤x0:=by omega
      clear hx0 g6 z6 bA ho4 hys4 hz R4 gW4 hs4 hg4
      have hdec : (E' ≠ 0→decE r = .error E')∧(E' = 0→decE r = .ok (x,r')):=by
        cases hd : decE r with
        | ok p =>
          obtain ⟨y,r''⟩:=p
          have:=HOK.out y r'' hd
          rw [HX.out] at this
          injection this with h1 h
          injection h with h2 h3
          exact ⟨fun h=>absurd h3 h,fun _=>by rw [h1,h2]⟩
        | error y =>
          have h1:=HER.out y hd;rw [HX.out] at h1
          simp only at h1
          exact ⟨fun _=>by rw [h1.1],fun h=>by omega⟩
      have HDEC:=Lib.hid hdec;have R6':=R6;obtain ⟨at8,q1,kR,q2⟩:=R6';have c2 : w6.cell? ⟨g,2,none⟩ = some (.int .i64 (E' : Nat)):=kR.cell 2;clear hdec HOK HER HX q1 kR q2
      by_cases hE : E' = 0
      case' neg =>
        have hq : (((E' : Nat) : Int) == 0) = false:=by rw [beq_eq_false_iff_ne];omega
        have HREL:=Lib.hid (show AllSt ((ys ++ [z]).map (·.e)) r' E' (decEs (j + 1) r1) from ⟨fun h=>absurd h hE,fun h=>by simp [decEs,HDJ.out,HDEC.out.1 h]⟩);clear hE HDEC HDJ
        go_upto_region 11 with fail
        clear c2;obtain ⟨Ez,hEz⟩ : ∃ Ez,Ez = E':=⟨_,rfl⟩;rw [← hEz] at R6 HREL;clear hEz
        generalize w6 = wt at *
      case' pos =>
        have HDX:=Lib.hid (HDEC.out.2 hE);subst hE;have c2 : w6.cell? ⟨g,2,none⟩ = some (.int .i64 0):=c2;have HR2:=Lib.hid (HRT.out w6 hz6.2.1.rd)
        go_wp2_with first
          | ((with_reducible refine wpList_ldg rowE k6 SZ.out ?_ ?_ ?_);rotate_left;(rfl);(rfl))
        refine HR2.out.mono ?_;rintro e w7 ⟨rfl,b7⟩;have k7:=k6.below b7 k6.lt;have ho7:=ho6.below b7 (Nat.le_refl _)
        have hys7 : ∀ y ∈ ys,EvOwn w7 s y:=fun y hy=>by
          obtain ⟨q1,q2,q3⟩:=hys6 y hy;exact ⟨q1,q2.below b7 (Nat.le_refl _),q3⟩
        have hz7 : EvOwn w7 s z:=⟨hz6.1,hz6.2.1.below b7 (Nat.le_refl _),hz6.2.2⟩;have R7 : RSt w7 g A n c bs r' 0:=R6.map (fun _ _ k=>k.below b7 k.lt);have gW7:=only_below gW6 (b7.mono gW6.size);clear k6 ho6 hys6 hz6 R6 gW6 b7 c2 HR2
        cases hx : rightE x
      case' true =>
        have HREL:=Lib.hid (show AllSt ((ys ++ [z]).map (·.e)) r' 0 (decEs (j + 1) r1) from ⟨fun _=>by simp [decEs,HDJ.out,HDX.out,hx,HZE.out],fun h=>absurd rfl h⟩);clear hx HDEC HDJ
        go_upto_region 11 with fail
        obtain ⟨Ez,hEz⟩ : ∃ Ez,Ez = 0:=⟨_,rfl⟩;rw [← hEz] at R7 HREL;clear hEz;have k6:=k7;have ho6:=ho7;have hys6:=hys7;have hz6:=hz7;have R6:=R7;have gW6:=gW7;clear k7 ho7 hys7 hz7 R7 gW7
        generalize w7 = wt at *
      case' false =>
        have HREL:=Lib.hid (show AllSt ((ys ++ [z]).map (·.e)) r' 4 (decEs (j + 1) r1) from ⟨fun h=>by omega,fun _=>by simp [decEs,HDJ.out,HDX.out,hx]⟩);obtain ⟨at7,q1,kR,q2⟩:=R7;have c2 : w7.cell? ⟨g,2,none⟩ = some (.int .i64 0):=kR.cell 2;have f2:=kR.free 2;have k6:=k7.far (p:=⟨g,2,none⟩) (by show x0 ≠ g;omega) (.int .i64 4);have R6 : RSt (w7.setCell ⟨g,2,none⟩ (.int .i64 4)) g A n c bs r' 4:=⟨at7,q1,Blk.set_ kR 2 (.int .i64 4),q2⟩;have ho6 : OwnEv (w7.setCell ⟨g,2,none⟩ (.int .i64 4)) s A' j c' ys:=⟨ho7.1,ownsRow_keep ho7.2 fun k hk=>Below.heap_setCell w7 _ _ k (fun e=>own_ne ho7.2 (show Blk w7 g _ _ from kR) (by decide) (by rw [hk,e]))⟩
        have hys6 : ∀ y ∈ ys,EvOwn (w7.setCell ⟨g,2,none⟩ (.int .i64 4)) s y:=fun y hy=>by
          obtain ⟨q1,q2,q3⟩:=hys7 y hy;exact ⟨q1,q2.setFar (own_ne q2.2 (show Blk w7 g _ _ from kR) (by decide)) _,q3⟩
        have hz6 : EvOwn (w7.setCell ⟨g,2,none⟩ (.int .i64 4)) s z:=⟨hz7.1,hz7.2.1.setFar (own_ne hz7.2.1.2 (show Blk w7 g _ _ from kR) (by decide)) _,hz7.2.2⟩;have gW6 : w.grownBy (w7.setCell ⟨g,2,none⟩ (.int .i64 4)) (some g):=only_set gW7 _;have K6:=Lib.hid k6;have RR6:=Lib.hid R6;have HO6:=Lib.hid ho6;have HY6:=Lib.hid hys6;have HZ6:=Lib.hid hz6;have GW6:=Lib.hid gW6;clear hx HDEC HDJ k6 R6 ho6 hys6 hz6 gW6 k7 ho7 hys7 hz7 gW7 q1 q2 kR
        go_upto_region 11 with fail
        clear c2 f2;have k6:=K6.out;have R6:=RR6.out;have ho6:=HO6.out;have hys6:=HY6.out;have hz6:=HZ6.out;have gW6:=GW6.out;clear K6 RR6 HO6 HY6 HZ6 GW6
        generalize w7.setCell ⟨g,2,none⟩ (.int .i64 4) = wt at *
        obtain ⟨Ez,hEz⟩ : ∃ Ez,Ez = 4:=⟨_,rfl⟩;rw [← hEz] at R6 HREL;clear hEz
      all_goals
        have HY6:=Lib.hid hys6;have HZ6:=Lib.hid hz6;have hst : x0 < wt.heap.size:=k6.lt;clear hys6 hz6
        go_wp2_with first
          | ((with_reducible refine wpList_ld rowE k6 SZ.out ?_ ?_);rotate_left;(rfl))
          | ((refine wpList_bs (v:=.slice (some ⟨wt.heap.size,0,none⟩) 1 1) (w':=wt.alloc (.cells cz 109)) rfl 27 1 #[(0,.tmp 41)] rfl ?_ ?_);(simp only [List.map_toArray,List.map_cons,List.map_nil];exact HBS2.out wt))
          | (at_builtin;refine wpList_appE rfl (.tmp 40) (.tmp 42) rfl rfl (ho6.alloc _) rfl (news:=[z]) (B:=wt.heap.size + 1) (by
              have h:=Rd.made wt cz 109 (0,0);rw [show ecsL [z] = cz.toList by rw [HCZ.out];simp [ecsL]]
              exact h) rfl (by omega) (by simp;omega) ?_)
        intro A9 c9 w9 o9 g9 m9 b9
        have hys9 : ∀ y ∈ ys ++ [z],EvOwn w9 s y:=fun y hy=>by
          have hy2 : EvOwn wt s y:=by
            rcases List.mem_append.1 hy with h | h
            · exact HY6.out y h
            · simp at h;rw [h];exact HZ6.out
          exact ⟨hy2.1,(hy2.2.1.alloc (.cells cz 109)).grown g9 (own2_ne hy2.2.1.2 ho6.2 (by decide)),hy2.2.2⟩
        have R9 : RSt w9 g A n c bs r' Ez:=R6.map (fun _ _ k=>(k.alloc (.cells cz 109)).grown g9 (fun e=>by
          have:=(ho6.lt g e).1
          have:=HGS.out
          omega))
        have gW9 : w.grownBy w9 (some g):=only_below (only_alloc gW6 (.cells cz 109)) (b9.mono (by have:=HS.out;omega));have HYS9:=Lib.hid hys9;have HR9:=Lib.hid R9;clear hys9 g9 m9 b9 HY6 HZ6 R6 gW6 ho6 k6 R9;go_wp2_with fail
        go_roundw
        case rel=>exact ⟨j + 1,ys ++ [z],A9,c9,r',Ez,by omega,by go_num,rfl,o9,HYS9.out,HR9.out,gW9,fun _=>HREL.out,fun h=>absurd HF0.out h⟩
        case measure=>simp [intOf];omega
set_option maxRecDepth 100000 in
set_option maxHeartbeats 2000000 in
theorem rgetAll07_any (A : Option Addr) (n c : Nat) (bs : List UInt8) (w : World) (hb : RdB w w.heap.size A n bs) (hl : n≤1000000000) :
    Calls Tryz.prog 29 #[.slice A n c] w (GetAllEv w bs):=by
  have HBS:=Lib.hid fun (w' : World) (h : Below w.heap.size w w')=>hb.below h
  have HN:=Lib.hid hb.1;have HL:=Lib.hid hl;clear hb hl
  go_enter Tryz.func29,Tryz.ntmps29
  go_upto_region 2 with fail
  refine nameW ?_;intro W hW;obtain ⟨B,hB⟩ : ∃ B,B = w.heap.size:=⟨_,rfl⟩;rw [← hB]
  have kr : RSt W B A n c bs bs 0:=by
    have h:=Blk.new w 68 #[.slice A n c,.int .i64 (0 : Nat),.int .i64 (0 : Nat)];rw [hW,hB];exact ⟨0,Nat.zero_le _,h,rfl⟩
  have gb : Below B w W:=by rw [hW,hB];exact (Below.refl _ _).alloc (Nat.le_refl _) _
  have hlt : B < W.heap.size:=by rw [hW,hB];simp
  have HB:=Lib.hid hB;rw [← hB] at HBS;clear hW hB;go_wp2_with fail;refine (rreadAll07_any B A n c B bs W kr (HBS.out W gb) (Nat.le_refl _) hlt HL.out).mono ?_;rintro e w1 ⟨A1,m1,c1,ys,r,E,rfl,o1,hys,R1,g1,hst⟩;have gb1:=gb.trans (only_Below g1 (B:=B) (by omega) (by omega));have o1:=o1.mono (base':=B) (by omega)
  have hys1 : ∀ y ∈ ys,EvOwn w1 B y:=fun y hy=>by
    obtain ⟨q1,q2,q3⟩:=hys y hy;exact ⟨q1,q2.mono (by omega),q3⟩
  obtain ⟨at',kR,hat,hatn⟩:=rst_at R1 HN.out;have c1' : w1.cell? ⟨B,1,none⟩ = some (.int .i64 (at' : Nat)):=kR.cell 1;have c2' : w1.cell? ⟨B,2,none⟩ = some (.int .i64 (E : Nat)):=kR.cell 2;have f2':=kR.free 2;have HAT:=Lib.hid hat;have HST:=Lib.hid hst;have HYS:=Lib.hid hys1;have HL2:=HL.out
  have hgl : getAllE bs = match decAR bs with | .error y=>([],y) | .ok (xs,r')=>if r' = [] then (xs,0) else ([],4):=by
    unfold getAllE decA decAR
    cases Vint.dec bs with
    | error y=>rfl
    | ok p =>
      obtain ⟨n',r0⟩:=p
      simp only
      by_cases h : 768 < n'
      · rw [if_pos h,if_pos h]
      · rw [if_neg h,if_neg h]
        cases decEs n' r0 with
        | error y=>rfl
        | ok q =>
          obtain ⟨xs,r'⟩:=q
          simp only
          by_cases hr : r' = []
          · rw [if_pos hr,if_pos hr]
          · rw [if_neg hr,if_neg hr]
  have HGL:=Lib.hid hgl;clear hat hst hys hys1 hgl R1 kr gb hlt g1
  by_cases hE : E = 0
  case neg =>
    have hq : ((E : Int) == 0) = false:=by rw [beq_eq_false_iff_ne];omega
    have hq2 : ((E : Int) != 0) = true:=by rw [bne_iff_ne];omega
    have HE:=Lib.hid (show getAllE bs = ([],E) by rw [HGL.out,HST.out.2 hE]);clear hE kR HST HGL
    go_upto_region 6 with fail
    go_quiet (fail)
    go_wp2_with fail;go_ret2;exact ⟨none,0,0,[],by rw [HE.out];rfl,OwnEv.nil _ _,fun y hy=>by simp at hy,by rw [HE.out];rfl,by rw [← HB.out];exact below_drewN gb1 _⟩
  case pos =>
    subst hE;have c2' : w1.cell? ⟨B,2,none⟩ = some (.int .i64 0):=c2'
    by_cases hr : r = []
    · have hd1 : ¬ (at' : Int) < (n : Int):=fun h=>HAT.out.1 (by omega) hr
      have HE:=Lib.hid (show getAllE bs = (ys.map (·.e),0) by rw [HGL.out,HST.out.1 rfl];simp only;rw [if_pos hr]);clear hr kR HST HGL HAT;go_wp2_with fail;go_ret2;exact ⟨A1,m1,c1,ys,by rw [HE.out];rfl,by rw [← HB.out];exact o1,by rw [← HB.out];exact HYS.out,by rw [HE.out],by rw [← HB.out];exact gb1⟩
    · have hd1 : (at' : Int) < (n : Int):=by have:=HAT.out.2 hr;omega
      have HE:=Lib.hid (show getAllE bs = ([],4) by rw [HGL.out,HST.out.1 rfl];simp only;rw [if_neg hr]);have c7:=(Blk.set_ kR 2 (.int .i64 4)).cell 2;have gb7 : Below B w (w1.setCell ⟨B,2,none⟩ (.int .i64 4)):=gb1.setCell (by show B≤B;omega) _;have HC:=Lib.hid c7;have HG:=Lib.hid gb7;clear hr kR HST HGL HAT c7 gb7
      go_upto_region 6 with fail
      have c27 : (w1.setCell ⟨B,2,none⟩ (.int .i64 4)).cell? ⟨B,2,none⟩ = some (.int .i64 4):=HC.out;have gb7:=HG.out;clear c1' c2' f2' HC HG gb1 o1
      generalize w1.setCell ⟨B,2,none⟩ (.int .i64 4) = w7 at *
      go_quiet (fail)
      go_wp2_with fail;go_ret2;exact ⟨none,0,0,[],by rw [HE.out];rfl,OwnEv.nil _ _,fun y hy=>by simp at hy,by rw [HE.out];rfl,by rw [← HB.out];exact below_drewN gb7 _⟩
end Go.Proofs.YtcgalmnllegnbaaGreat

namespace Go.Proofs.YtcgalmnllegnbaaGreat
set_option linter.unusedVariables false
set_option linter.unusedSimpArgs false
set_option maxRecDepth 100000
open Go.RowKit
open Dot Evt
open Ms (Mem)
set_option maxHeartbeats 30000000 in
theorem mrget_any (A : Option Addr) (n c : Nat) (bs : List UInt8) (w0 : World) (hb : RdB w0 w0.heap.size A n bs) (hl : n≤1000000) (hc : n≤c) (hm : c≤maxLen) :
    Calls Tryz.prog 8 #[.slice A n c] w0 (GiveMg w0 (Ms.getM bs).1 (Ms.getM bs).2):=by
  obtain ⟨G,hG⟩ : ∃ G,G = Ms.getM bs:=⟨_,rfl⟩;rw [← hG]
  have HC:=Lib.hid fun (w : World) (h : Below w0.heap.size w0 w)=>Frame.rget_any A n c bs w0.heap.size w (hb.below h) h.size (by omega) hc hm
  have hblen : bs.length≤1000000:=by rw [← hb.1];exact hl
  have HBL:=Lib.hid hblen;have HG:=Lib.hid hG
  have HBD:=Lib.hid fun (w : World)=>(show (Instr.build 30 #[]).run Tryz.prog w = .ok (.agg MZ) w by kernel_rfl)
  clear hG hb hl hc hm hblen
  go_enter Tryz.func8,Tryz.ntmps8
  go_upto_region 1 with fail
  refine nameW ?_;intro wv hwv;obtain ⟨g,hg⟩ : ∃ g,g = w0.heap.size:=⟨_,rfl⟩;rw [← hg]
  have kz : Blk wv g 30 MZ:=by rw [hwv,hg];exact Blk.new w0 _ _
  have gb : Below w0.heap.size w0 wv:=by rw [hwv];exact (Below.refl _ _).alloc (Nat.le_refl _) _
  have HGG:=Lib.hid hg;clear hwv hg;go_wp2_with fail;refine (HC.out wv gb).mono ?_
  unfold Frame.RGetF
  rintro e w1 ⟨b1,hx⟩;have kz:=kz.below b1 kz.lt;have gb:=gb.trans (b1.mono gb.size)
  cases hd : Frame.dec bs with
  | error y =>
    rw [hd] at hx;subst hx
    have hgo : G = (Ms.zero,y):=by rw [HG.out,Ms.getM_err (Ms.getG_dec hd)]
    have hny : y ≠ 0:=by
      have:=Frame.dec_err hd
      omega
    have hq : (((y : Nat) : Int) != 0) = true:=by rw [bne_iff_ne];omega
    clear hd b1 HG;subst hgo
    go_wp2_with first
      | ((with_reducible refine wpList_st rowMg kz mz_size mz_size mz_one ?_ ?_ ?_);rotate_left;(rfl);(rfl);intro wZ k6 g6 z6)
    exact bodyPost_ret (v:=.tuple #[.agg MZ,.int .i64 (y : Nat)]) (results_blk2 rfl rowMg k6 mz_size rfl rfl) rfl ⟨zeroV,rfl,rfl,zeroV_own _ _,gb.grown g6 gb.size (fun q hq=>by injection hq;have:=HGG.out;omega)⟩
  | ok q =>
  obtain ⟨xs,rest⟩:=q;rw [hd] at hx;obtain ⟨A4,c4,A5,c5,rfl,o4,o5⟩:=hx
  by_cases hr : rest = []
  rotate_left
  · have hgo : G = (Ms.zero,4):=by rw [HG.out,Ms.getM_err (Ms.getG_rest hd hr)]
    have hlr : 0 < rest.length:=List.length_pos_iff.2 hr
    have hlr' : (0 : Int) < (rest.length : Int):=by omega
    generalize rest.length = lr at *
    clear hd b1 HG o4 o5 hr hlr;subst hgo
    go_wp2_with first
      | ((with_reducible refine wpList_st rowMg kz mz_size mz_size mz_one ?_ ?_ ?_);rotate_left;(rfl);(rfl);intro wZ k6 g6 z6)
    exact bodyPost_ret (v:=.tuple #[.agg MZ,.int .i64 (4)]) (results_blk2 rfl rowMg k6 mz_size rfl rfl) rfl ⟨zeroV,rfl,rfl,zeroV_own _ _,gb.grown g6 gb.size (fun q hq=>by injection hq;have:=HGG.out;omega)⟩
  subst hr;have hxl : xs.length≤4096:=(Frame.dec_ok hd).2;have HXL:=Lib.hid hxl;have hle4:=ownsRow_le o4.2;have HLE:=Lib.hid hle4;have HGX:=Lib.hid (Ms.getG_x hd);have HGE:=Lib.hid (show ∀ y,Ms.getX xs = .error y→G = (Ms.zero,y) from fun y h=>by rw [HG.out,Ms.getM_err (by rw [Ms.getG_x hd,h])]);have HGO:=Lib.hid (show ∀ m,Ms.getX xs = .ok m→G = (m,0) from fun m h=>by rw [HG.out,Ms.getM_ok (by rw [Ms.getG_x hd,h])]);obtain ⟨GH,hGH⟩ : ∃ GH,GH = Ms.headE xs:=⟨_,rfl⟩;have HGH:=Lib.hid hGH;have HHE:=Lib.hid (show ∀ y,GH = .error y→G = (Ms.zero,y) from fun y h=>HGE.out y (Ms.getX_head (hGH ▸ h)));have RX:=Lib.hid (show RdB w1 w1.heap.size A4 xs.length xs from o4.rd);have hgw : g < w1.heap.size:=kz.lt;have HGW:=Lib.hid hgw
  have KZ:=Lib.hid fun (w : World) (h : Below w1.heap.size w1 w)=>kz.below h hgw
  have GB:=Lib.hid gb;clear hd b1 HG o4 o5 kz gb hxl hGH hle4
  go_upto_region 8 with fail
  refine nameW ?_;intro wv hwv;obtain ⟨gR,hgR⟩ : ∃ gR,gR = w1.heap.size:=⟨_,rfl⟩;obtain ⟨Y,hY⟩ : ∃ Y,Y = gR + 1:=⟨_,rfl⟩
  have kR : Blk wv gR 68 #[.slice A4 xs.length c4,.int .i64 0,.int .i64 0]:=by rw [hwv,hgR];exact (Blk.new w1 _ _).alloc _
  have kY : Blk wv Y 30 MZ:=by
    have h:=Blk.new (w1.alloc (.cells #[.slice A4 xs.length c4,.int .i64 0,.int .i64 0] 68)) 30 MZ;rw [hwv,hY,hgR]
    simpa using h
  have gb : Below w1.heap.size w1 wv:=by rw [hwv];exact ((Below.refl _ _).alloc (Nat.le_refl _) _).alloc (by simp) _
  rw [← hgR,← hY];have S : GSm w1.heap.size w1 wv Y gR A4 xs.length c4 xs Ms.zero none 0 xs 0:=⟨gb,RX.out,by have:=HXL.out;omega,Nat.le_refl _,by omega,by omega,by omega,kY,OwnMb.nil _ _ _,⟨0,Nat.zero_le _,kR,by rw [List.drop_zero]⟩⟩;have HYG:=Lib.hid (show g ≠ gR∧g ≠ Y by omega);clear hwv hgR hY kR kY gb;obtain ⟨k,rk,ek,hI⟩ : ∃ k rk ek,Vint.intM xs 0 = (k,rk,ek):=⟨_,_,_,rfl⟩;have HI:=Lib.hid hI;have hrel:=Ms.kindRel hI;rw [← HGH.out] at hrel;have HREL:=Lib.hid hrel;clear hI hrel;go_wp2_with fail;refine (S.int HI.out).mono ?_;rintro x w2 ⟨rfl,S1,_⟩;have c0 : w2.cell? ⟨Y,0,none⟩ = some (.int .i64 0):=S1.y.cell 0;have u0:=S1.y.free 0;have hly:=S1.y.lt;obtain ⟨m1,hm1⟩ : ∃ m1 : Ms.Msg,m1 = { Ms.zero with kind:=(k : Nat) }:=⟨_,rfl⟩
  have S2 : GSm w1.heap.size w1 (w2.setCell ⟨Y,0,none⟩ (.int .i64 (k : Nat))) Y gR A4 xs.length c4 xs m1 none 0 rk ek:=by rw [hm1];exact S1.set 0 (.int .i64 (k : Nat)) rfl rfl
  obtain ⟨w3,hw3⟩ : ∃ w3,w3 = w2.setCell ⟨Y,0,none⟩ (.int .i64 (k : Nat)):=⟨_,rfl⟩;rw [← hw3] at S2;have HW3:=Lib.hid hw3;have HM1:=Lib.hid hm1;clear S S1 hw3 hm1
  go_upto_region 9 with fail
  rw [← HW3.out];clear c0 u0 hly HW3;have cE:=S2.rd.err;have c0 : w3.cell? ⟨Y,0,none⟩ = some (.int .i64 (k : Nat)):=(S2.y.cell 0).trans (by rw [HM1.out];rfl);obtain ⟨bq,hbq⟩ : ∃ bq,bq = decide (ek = 0∧¬ (1≤k∧k≤5)):=⟨_,rfl⟩;have HBQ:=Lib.hid hbq;have HS2:=Lib.hid S2;clear hbq S2
  go_cut [51] from 37 to 51 (fun q wx=>q = .bool bq∧wx = w3)
  case first =>
    by_cases he : ek = 0
    · subst he
      by_cases h1 : k < 1
      · have h1' : (k : Int) < 1:=by omega
        have hb : bq = true:=by rw [HBQ.out];exact decide_eq_true ⟨rfl,by omega⟩
        subst hb;clear h1 HBQ;go_wp2_with fail;go_meet;exact ⟨rfl,rfl⟩
      · have h1' : ¬ (k : Int) < 1:=by omega
        by_cases h5 : 5 < k
        · have h5' : (5 : Int) < (k : Int):=by omega
          have hb : bq = true:=by rw [HBQ.out];exact decide_eq_true ⟨rfl,by omega⟩
          subst hb;clear h1 h5 HBQ;go_wp2_with fail;go_meet;exact ⟨rfl,rfl⟩
        · have h5' : ¬ (5 : Int) < (k : Int):=by omega
          have hb : bq = false:=by rw [HBQ.out];exact decide_eq_false (by omega)
          subst hb;clear h1 h5 HBQ;go_wp2_with fail;go_meet;exact ⟨rfl,rfl⟩
    · have hq : (((ek : Nat) : Int) == 0) = false:=by rw [beq_eq_false_iff_ne];omega
      have hb : bq = false:=by rw [HBQ.out];exact decide_eq_false (by omega)
      subst hb;clear he HBQ;go_wp2_with fail;go_meet;exact ⟨rfl,rfl⟩
  case rest =>
  obtain ⟨rfl,rfl⟩:=hcut;clear cE c0
  go_upto_if 51 with fail
  go_cut [] (fun wx=>∃ e1 : Nat,GSm w1.heap.size w1 wx Y gR A4 xs.length c4 xs m1 none 0 rk e1∧((e1 = 0∧(1≤k∧k≤5)∧GH = Ms.frmE m1 rk)∨(e1 ≠ 0∧GH = .error e1)))
  case first =>
    cases bq
    case false =>
      have hn:=of_decide_eq_false HBQ.out.symm
      have HR : (ek = 0∧(1≤k∧k≤5)∧GH = Ms.frmE m1 rk)∨(ek ≠ 0∧GH = .error ek):=by
        rcases HREL.out with ⟨h1,h2⟩ | h
        · have hk : 1≤k∧k≤5:=by omega
          exact .inl ⟨h1,hk,by rw [h2,if_pos hk,HM1.out]⟩
        · exact .inr h
      have HRR:=Lib.hid HR;clear HR hn;go_wp2_with fail;go_meet;exact ⟨ek,HS2.out,HRR.out⟩
    case true =>
      have hn:=of_decide_eq_true HBQ.out.symm
      have HR : GH = .error 4:=by
        rcases HREL.out with ⟨h1,h2⟩ | h
        · rw [h2,if_neg hn.2]
        · exact absurd hn.1 h.1
      have HRR:=Lib.hid HR;have fE:=HS2.out.rd.fr;have cE:=HS2.out.rd.err;have hlt:=HS2.out.rd.lt;have HS3:=Lib.hid (HS2.out.setE 4);clear HR hn;go_wp2_with fail;go_meet;exact ⟨4,HS3.out,.inr ⟨by decide,HRR.out⟩⟩
  case rest =>
  obtain ⟨e1,S,hst⟩:=hcut;clear HS2 HREL HBQ
  have hst0 : (e1 = 0∧GH = Ms.frmE m1 rk)∨(e1 ≠ 0∧GH = .error e1):=by
    rcases hst with ⟨h1,_,h2⟩ | h
    · exact .inl ⟨h1,h2⟩
    · exact .inr h
  have HK:=Lib.hid (show e1 = 0→1≤k∧k≤5 by
    rcases hst with ⟨_,h,_⟩ | ⟨h,_⟩
    · exact fun _=>h
    · exact fun h2=>absurd h2 h)
  clear hst;have hst:=hst0;clear hst0;obtain ⟨z1,r1,e1',hI⟩ : ∃ z r' e',Vint.intM rk e1 = (z,r',e'):=⟨_,_,_,rfl⟩;have HI:=Lib.hid hI;have hrel:=Ms.frmRel hst hI;have HREL:=Lib.hid hrel;clear hI hrel hst;go_wp2_with fail;refine (S.int HI.out).mono ?_;rintro x w4a ⟨rfl,S1,_⟩;have c0 : w4a.cell? ⟨Y,1,none⟩ = some (.int .i64 m1.frm):=S1.y.cell 1;have u0:=S1.y.free 1;have hly:=S1.y.lt;obtain ⟨m2,hm⟩ : ∃ m' : Ms.Msg,m' = { m1 with frm:=(z1 : Nat) }:=⟨_,rfl⟩
  have S2 : GSm w1.heap.size w1 (w4a.setCell ⟨Y,1,none⟩ (.int .i64 (z1 : Nat))) Y gR A4 xs.length c4 xs m2 none 0 r1 e1':=by rw [hm];exact S1.set 1 (.int .i64 (z1 : Nat)) rfl rfl
  obtain ⟨w4,hw⟩ : ∃ w',w' = w4a.setCell ⟨Y,1,none⟩ (.int .i64 (z1 : Nat)):=⟨_,rfl⟩;rw [← hw] at S2;have HW:=Lib.hid hw;have Hm2:=Lib.hid hm;clear S S1 hw hm
  go_upto_region 12 with fail
  rw [← HW.out];clear c0 u0 hly HW;have hst:=HREL.out;rw [← Hm2.out] at hst;have S:=S2;clear S2 HREL HI;obtain ⟨z2,r2,e2',hI⟩ : ∃ z r' e',Vint.intM r1 e1' = (z,r',e'):=⟨_,_,_,rfl⟩;have HI:=Lib.hid hI;have hrel:=Ms.toRel hst hI;have HREL:=Lib.hid hrel;clear hI hrel hst;go_wp2_with fail;refine (S.int HI.out).mono ?_;rintro x w5a ⟨rfl,S1,_⟩;have c0 : w5a.cell? ⟨Y,2,none⟩ = some (.int .i64 m2.to):=S1.y.cell 2;have u0:=S1.y.free 2;have hly:=S1.y.lt;obtain ⟨m3,hm⟩ : ∃ m' : Ms.Msg,m' = { m2 with «to»:=(z2 : Nat) }:=⟨_,rfl⟩
  have S2 : GSm w1.heap.size w1 (w5a.setCell ⟨Y,2,none⟩ (.int .i64 (z2 : Nat))) Y gR A4 xs.length c4 xs m3 none 0 r2 e2':=by rw [hm];exact S1.set 2 (.int .i64 (z2 : Nat)) rfl rfl
  obtain ⟨w5,hw⟩ : ∃ w',w' = w5a.setCell ⟨Y,2,none⟩ (.int .i64 (z2 : Nat)):=⟨_,rfl⟩;rw [← hw] at S2;have HW:=Lib.hid hw;have Hm3:=Lib.hid hm;clear S S1 hw hm
  go_upto_region 13 with fail
  rw [← HW.out];clear c0 u0 hly HW;have hst:=HREL.out;rw [← Hm3.out] at hst;have S:=S2;have HK0:=Lib.hid (show m3.kind = (k : Nat)∧m3.mem = [] by rw [Hm3.out,Hm2.out,HM1.out];exact ⟨rfl,rfl⟩);clear S2 HREL HI Hm3 Hm2 HM1;obtain ⟨z,rz,ez,hI⟩ : ∃ z rz ez,Vint.intM r2 e2' = (z,rz,ez):=⟨_,_,_,rfl⟩;have HI:=Lib.hid hI;have HREL:=Lib.hid (Ms.cntRel hst hI)
  have HKE:=Lib.hid (show ez = 0→e2' = 0 from fun h=>by
    by_cases h2 : e2' = 0
    · exact h2
    · rw [Ms.intM_ne h2] at hI
      injection hI with _ hI
      injection hI with _ hI
      omega)
  clear hI hst;go_wp2_with fail;refine (S.int HI.out).mono ?_;rintro x w6 ⟨rfl,S1,_⟩;clear S
  go_upto_if 64 with fail
  go_cut [] (fun wx=>∃ e2 : Nat,GSm w1.heap.size w1 wx Y gR A4 xs.length c4 xs m3 none 0 rz e2∧((e2 = 0∧z≤8∧GH = Ms.memE m3 z rz)∨(e2 ≠ 0∧GH = .error e2)))
  case first =>
    by_cases hz : 8 < z
    · have hz' : (8 : Int) < (z : Int):=by omega
      have HZ:=Lib.hid hz;clear hz;go_wp2_with fail;refine (S1.fail 6).mono ?_;rintro x w7 ⟨rfl,S7⟩;have HS:=Lib.hid S7;clear S1 S7;go_wp2_with fail;go_meet;refine ⟨_,HS.out,?_⟩
      rcases HREL.out with ⟨h1,h2⟩ | ⟨h1,h2⟩
      · rw [if_pos h1]
        exact .inr ⟨by decide,by rw [h2,if_neg (by have:=HZ.out;omega)]⟩
      · rw [if_neg h1]
        exact .inr ⟨h1,h2⟩
    · have hz' : ¬ (8 : Int) < (z : Int):=by omega
      have HZ:=Lib.hid hz;have HS:=Lib.hid S1;clear hz S1;go_wp2_with fail;go_meet;refine ⟨ez,HS.out,?_⟩
      have hz8 : z≤8:=by have:=HZ.out;omega
      rcases HREL.out with ⟨h1,h2⟩ | ⟨h1,h2⟩
      · exact .inl ⟨h1,hz8,by rw [h2,if_pos hz8]⟩
      · exact .inr ⟨h1,h2⟩
  case rest =>
  clear S1 HREL HKE;obtain ⟨e2,S,hst⟩:=hcut
  go_upto_block 0 with fail
  go_cut [] (fun wx=>∃ (m : Ms.Msg) (A3 : Option Addr) (c3 : Nat) (r : List UInt8) (e : Nat),GSm w1.heap.size w1 wx Y gR A4 xs.length c4 xs m A3 c3 r e∧m.kind = (k : Nat)∧((e = 0∧GH = Ms.seqE m r)∨(e ≠ 0∧GH = .error e)))
  case first =>
    go_wp2_with fail
    go_loopw [10] (fun i wr=>∃ (j : Nat) (m : Ms.Msg) (A3 : Option Addr) (c3 : Nat) (r : List UInt8) (e : Nat),i = .int .i64 (j : Nat)∧GSm w1.heap.size w1 wr Y gR A4 xs.length c4 xs m A3 c3 r e∧m.kind = (k : Nat)∧((e = 0∧z≤8∧j≤z∧m.mem.length = j∧GH = Ms.memE m (z - j) r)∨(e ≠ 0∧GH = .error e))) (fun i _=>z - (intOf i).toNat)
    case atStart=>exact ⟨0,m3,none,0,rz,e2,rfl,S,HK0.out.1,by
      rcases hst with ⟨h1,h2,h3⟩ | h
      · exact .inl ⟨h1,h2,Nat.zero_le _,by rw [HK0.out.2];rfl,h3⟩
      · exact .inr h⟩
    case round =>
    clear S hst;obtain ⟨j,m,A3,c3,r,e,rfl,S,hkm,hst⟩:=hrel;have HKM:=Lib.hid hkm;clear hkm;have cE:=S.rd.err
    rcases hst with ⟨rfl,hz8,hjz,hbl,hC⟩ | hE
    rotate_left
    · have hq : (((e : Nat) : Int) == 0) = false:=by rw [beq_eq_false_iff_ne];have:=hE.1;omega
      have HE:=Lib.hid hE;have HS:=Lib.hid S;clear hE S
      by_cases hjz : j < z
      · have hjz' : (j : Int) < (z : Int):=by omega
        go_wp2_with fail;go_meet;exact ⟨m,A3,c3,r,e,HS.out,HKM.out,.inr HE.out⟩
      · have hjz' : ¬ (j : Int) < (z : Int):=by omega
        go_wp2_with fail;go_meet;exact ⟨m,A3,c3,r,e,HS.out,HKM.out,.inr HE.out⟩
    by_cases hlt : j < z
    rotate_left
    · have hjz' : ¬ (j : Int) < (z : Int):=by omega
      have HE:=Lib.hid (show GH = Ms.seqE m r by rw [hC,show z - j = 0 by omega];rfl);have HS:=Lib.hid S;clear hC S;go_wp2_with fail;go_meet;exact ⟨m,A3,c3,r,0,HS.out,HKM.out,.inl ⟨rfl,HE.out⟩⟩
    have hjz' : (j : Int) < (z : Int):=by omega
    have HLT:=Lib.hid hlt
    have hj9 : j≤8:=by omega
    obtain ⟨a,ra,ea,h1⟩ : ∃ a ra ea,Vint.intM r 0 = (a,ra,ea):=⟨_,_,_,rfl⟩;obtain ⟨d,rd,ed,h2⟩ : ∃ d rd ed,Vint.intM ra ea = (d,rd,ed):=⟨_,_,_,rfl⟩;obtain ⟨f,rf,ef,h3⟩ : ∃ f rf ef,Vint.intM rd ed = (f,rf,ef):=⟨_,_,_,rfl⟩
    have hC' : GH = Ms.memE m (z - (j + 1) + 1) r:=by rw [hC,show z - j = z - (j + 1) + 1 by omega]
    have hrl:=Ms.memRel hC' h1 h2 h3;clear hC';have HRL:=Lib.hid hrl;have HI1:=Lib.hid h1;have HI2:=Lib.hid h2;have HI3:=Lib.hid h3;have HZ8:=Lib.hid (And.intro hz8 (And.intro hjz hbl));have HM8:=Lib.hid (show m.mem.length≤8 by omega);clear h1 h2 h3 hrl hC hz8 hjz hbl;go_wp2_with fail;refine (S.int HI1.out).mono ?_;rintro x w7 ⟨rfl,S6,_⟩;clear S cE
    go_upto_region 20 with ((with_reducible refine wpList_st (cs:=#[.int .i64 (a : Nat),.int .i64 0,.int .i64 0]) rowMb (Blk.new _ _ _) (th_sizeH _ _ _) ?_ (th_oneH _ _ _) ?_ ?_ ?_);(rfl);rotate_left;(rfl);(rfl);intro w8 kq g7 z7)
    have bq:=new_below g7;have hqY : Y < w7.heap.size:=S6.y.lt;have hqR : gR < w7.heap.size:=S6.rd.lt;have hqB : w1.heap.size≤w7.heap.size:=S6.bw
    have hqA : A3.map (·.block) ≠ some w7.heap.size:=fun h=>by have:=(S6.o.lt _ h).2;omega
    have S7:=S6.below bq
    generalize hQ : w7.heap.size = q at kq hqY hqR hqB hqA
    clear S6 bq g7 z7 hQ;go_wp2_with fail;refine (S7.int HI2.out).mono ?_;rintro x w9 ⟨rfl,S8,g8⟩;have kq:=kq.grown g8 (fun h=>by injection h;omega);have c1:=kq.cell 1;have f1:=kq.free 1;have S9:=S8.farV (i:=1) hqB (by omega) (by omega) hqA (.int .i64 (d : Nat));have kq9 : Blk (w9.setCell ⟨q,1,none⟩ (.int .i64 (d : Nat))) q 71 #[.int .i64 (a : Nat),.int .i64 (d : Nat),.int .i64 0]:=kq.set_ 1 (.int .i64 (d : Nat));clear S7 S8 g8
    generalize hW : w9.setCell ⟨q,1,none⟩ (.int .i64 (d : Nat)) = wa at S9 kq9
    have HW:=Lib.hid hW;clear hW
    go_upto_region 21 with fail
    rw [HW.out];clear c1 f1 HW kq;go_wp2_with fail;refine (S9.int HI3.out).mono ?_;rintro x wb ⟨rfl,S10,g10⟩;have kq:=kq9.grown g10 (fun h=>by injection h;omega);have c2:=kq.cell 2;have f2:=kq.free 2;have S11:=S10.farV (i:=2) hqB (by omega) (by omega) hqA (.int .i64 (f : Nat));have kq11 : Blk (wb.setCell ⟨q,2,none⟩ (.int .i64 (f : Nat))) q 71 #[.int .i64 (a : Nat),.int .i64 (d : Nat),.int .i64 (f : Nat)]:=kq.set_ 2 (.int .i64 (f : Nat));clear S9 S10 g10 kq9
    generalize hW : wb.setCell ⟨q,2,none⟩ (.int .i64 (f : Nat)) = wc at S11 kq11
    have HW:=Lib.hid hW;clear hW
    go_upto_region 22 with fail
    rw [HW.out];clear c2 f2 HW kq;have t15 : wc.cell? ⟨Y,15,none⟩ = some (.slice A3 m.mem.length c3):=S11.y.cell 15
    have hle1 : m.mem.length + 1≤1000000000000:=by have:=HM8.out;omega
    have hGW : w1.heap.size≤wc.heap.size:=S11.bw;have HSO:=Lib.hid (S11.o.alloc (.cells #[.int .i64 (a : Nat),.int .i64 (d : Nat),.int .i64 (f : Nat)] 71))
    go_wp2_with first
      | ((with_reducible refine wpList_ld rowMb kq11 (th_sizeH _ _ _) ?_ ?_);rotate_left;(rfl))
      | (at_builtin;refine wpList_appMb rfl (.tmp 89) (.tmp 91) rfl rfl HSO.out (news:=[((a : Int),(d : Int),(f : Int))]) rfl (Rd.made _ _ _ _) rfl hle1 (by simp;omega) ?_)
    intro A' c' wd o12 g12 _ b12;obtain ⟨kYa,S12⟩:=S11.more (v:=((a : Int),(d : Int),(f : Int))) o12 ((Below.refl _ _).alloc (Nat.le_refl _) _) g12 b12;have c15 : wd.cell? ⟨Y,15,none⟩ = some (.slice A3 m.mem.length c3):=kYa.cell 15;have f15:=kYa.free 15;have hlY:=kYa.lt;have HS:=Lib.hid S12;clear S11 S12 kq11 kYa o12 g12 b12 t15 HSO hqA hqB;go_wp2_with fail
    go_roundw
    case rel=>exact ⟨j + 1,_,A',c',rf,ef,by go_num,HS.out,HKM.out,by
      rcases HRL.out with ⟨h1,h2⟩ | h
      · exact .inl ⟨h1,HZ8.out.1,HLT.out,by have:=HZ8.out.2.2;simp [this],h2⟩
      · exact .inr h⟩
    case measure=>have:=HLT.out;simp [intOf];omega
  case rest =>
  clear S hst HK0;obtain ⟨m,A3,c3,r,e,S,hkm,hst⟩:=hcut;have HKM:=Lib.hid hkm;clear hkm;have c0 : World.cell? _ ⟨Y,0,none⟩ = some (.int .i64 (k : Nat)):=(S.y.cell 0).trans (by rw [← HKM.out];rfl)
  go_upto_if 96 with fail
  go_cut [] (fun wx=>∃ (m : Ms.Msg) (r : List UInt8) (e : Nat),GSm w1.heap.size w1 wx Y gR A4 xs.length c4 xs m A3 c3 r e∧m.kind = (k : Nat)∧((e = 0∧GH = Ms.nodeE m r)∨(e ≠ 0∧GH = .error e)))
  case first =>
    by_cases hk5 : k = 5
    · have hq : (((k : Nat) : Int) != 5) = false:=by rw [hk5];rfl
      have HR:=Lib.hid (show (e = 0∧GH = Ms.nodeE m r)∨(e ≠ 0∧GH = .error e) by
        rcases hst with ⟨h1,h2⟩ | h
        · exact .inl ⟨h1,by rw [h2];unfold Ms.seqE;rw [if_neg (by rw [HKM.out,hk5];simp)]⟩
        · exact .inr h)
      have HS:=Lib.hid S;clear hst S c0;go_wp2_with fail;go_meet;exact ⟨m,r,e,HS.out,HKM.out,HR.out⟩
    · have hk5' : ¬ ((k : Nat) : Int) = 5:=by omega
      have hq : (((k : Nat) : Int) != 5) = true:=by rw [bne_iff_ne];exact hk5'
      obtain ⟨zs,rs,es,hI⟩ : ∃ z r' e',Vint.intM r e = (z,r',e'):=⟨_,_,_,rfl⟩;have HR:=Lib.hid (Ms.seqRel (by rw [HKM.out];exact hk5') hst hI);have HI:=Lib.hid hI;clear hI hst c0;go_wp2_with fail;refine (S.int HI.out).mono ?_;rintro x wa ⟨rfl,S1,_⟩;have c3' : wa.cell? ⟨Y,3,none⟩ = some (.int .i64 m.seq):=S1.y.cell 3;have u3:=S1.y.free 3;have hly:=S1.y.lt;have HS:=Lib.hid (S1.set (m':={ m with seq:=(zs : Nat) }) 3 (.int .i64 (zs : Nat)) rfl rfl);clear S S1;go_wp2_with fail;go_meet;exact ⟨_,rs,es,HS.out,HKM.out,HR.out⟩
  case rest =>
  clear S hst HKM c0;obtain ⟨m,r,e,S,hkm,hst⟩:=hcut;have HKM:=Lib.hid hkm;have c0 : World.cell? _ ⟨Y,0,none⟩ = some (.int .i64 (k : Nat)):=(S.y.cell 0).trans (by rw [← hkm];rfl);clear hkm
  by_cases hk2 : k = 2
  · subst hk2
    obtain ⟨zn,rn,en,hI⟩ : ∃ z r' e',Vint.intM r e = (z,r',e'):=⟨_,_,_,rfl⟩;have HR:=Lib.hid (Ms.nodeRel (by rw [HKM.out];simp) hst hI);have HI:=Lib.hid hI;clear hI hst;go_wp2_with fail;refine (S.int HI.out).mono ?_;rintro x wa ⟨rfl,S1,_⟩;have c4' : wa.cell? ⟨Y,4,none⟩ = some (.int .i64 m.node):=S1.y.cell 4;have u4:=S1.y.free 4;have hly:=S1.y.lt;obtain ⟨m',hm'⟩ : ∃ m' : Ms.Msg,m' = { m with node:=(zn : Nat) }:=⟨_,rfl⟩
    have S2 : GSm w1.heap.size w1 (wa.setCell ⟨Y,4,none⟩ (.int .i64 (zn : Nat))) Y gR A4 xs.length c4 xs m' A3 c3 rn en:=by rw [hm'];exact S1.set 4 (.int .i64 (zn : Nat)) rfl rfl
    obtain ⟨wb,hwb⟩ : ∃ wb,wb = wa.setCell ⟨Y,4,none⟩ (.int .i64 (zn : Nat)):=⟨_,rfl⟩;rw [← hwb] at S2;have HWB:=Lib.hid hwb;have hst:=HR.out;rw [← hm'] at hst;have HKM2:=Lib.hid (show m'.kind = ((2 : Nat) : Int) by rw [hm'];exact HKM.out);clear S S1 hwb c0 HR HI HKM hm';obtain ⟨m,rfl⟩ : ∃ m,m = m':=⟨_,rfl⟩;obtain ⟨r,rfl⟩ : ∃ r,r = rn:=⟨_,rfl⟩;obtain ⟨e,rfl⟩ : ∃ e,e = en:=⟨_,rfl⟩;have S:=S2;have HKM:=HKM2;have HST:=Lib.hid hst;clear S2 HKM2 hst
    go_upto_region 27 with fail
    rw [← HWB.out];clear c4' u4 hly HWB;have c0 : wb.cell? ⟨Y,0,none⟩ = some (.int .i64 (((2 : Nat) : Int))):=(S.y.cell 0).trans (by rw [show (mgc m sN sN (.slice A3 m.mem.length c3))[0]? = some (.int .i64 m.kind) from rfl,HKM.out]);have cE:=S.rd.err;have hst:=HST.out;clear HST
    rcases hst with ⟨rfl,hst⟩ | ⟨hne,hE⟩
    rotate_left
    · have hq : (((e : Nat) : Int) != 0) = true:=by rw [bne_iff_ne];exact_mod_cast hne
      have hgo:=HHE.out e hE;have kz:=KZ.out _ S.gB;have gb:=GB.out.trans (S.gB.mono GB.out.size);subst hgo;clear S hne hE c0
      go_upto_region 28 with fail
      refine wp_region_facts (fun L v w=>v 7 = .pointer (some ⟨gR,0,none⟩)∧v 2 = .pointer (some ⟨g,0,none⟩)∧Below w0.heap.size w0 w∧Blk w g 30 MZ∧w.cell? ⟨gR,2,none⟩ = some (.int .i64 (e : Nat))∧(L 0 = true→v 116 = .agg MZ)∧(L 1 = true→v 117 = .pointer (some ⟨gR,0,none⟩))∧(L 2 = true→v 118 = .pointer (some ⟨gR,0,none⟩))∧(L 3 = true→v 119 = .pointer (some ⟨gR,2,none⟩))∧(L 4 = true→v 120 = .int .i64 (e : Nat))∧(L 6 = true→v 3 = .int .i64 (e : Nat))) [116,117,118,119,120,3] (by kernel_rfl) (by kernel_rfl) (by kernel_rfl) (by kernel_rfl) ?h0 ?hst ?hend
      case h0 =>
        intro L h0;have h0 : ∀ i,i < 7→L i = false:=h0;exact ⟨rfl,rfl,gb.drew,kz.drew,cE,offF h0 (i:=0) (by decide),offF h0 (i:=1) (by decide),offF h0 (i:=2) (by decide),offF h0 (i:=3) (by decide),offF h0 (i:=4) (by decide),offF h0 (i:=6) (by decide)⟩
      case hst =>
        show FactSteps _ _ _ _ [0,1,2,3,4,5,6]
        refine @FactSteps.cons _ _ _ _ 0 _ [] _ rfl (by kernel_rfl) ?q1_0 ?_;rotate_left;refine @FactSteps.cons _ _ _ _ 1 _ [] _ rfl (by kernel_rfl) ?q1_1 ?_;rotate_left;refine @FactSteps.cons _ _ _ _ 2 _ [1] _ rfl (by kernel_rfl) ?q1_2 ?_;rotate_left;refine @FactSteps.cons _ _ _ _ 3 _ [2] _ rfl (by kernel_rfl) ?q1_3 ?_;rotate_left;refine @FactSteps.cons _ _ _ _ 4 _ [3] _ rfl (by kernel_rfl) ?q1_4 ?_;rotate_left;refine @FactSteps.cons _ _ _ _ 5 _ [0,0] _ rfl (by kernel_rfl) ?q1_5 ?_;rotate_left;refine @FactSteps.cons _ _ _ _ 6 _ [4,5,0,1,2,3,4,5] _ rfl (by kernel_rfl) ?q1_6 ?_;rotate_left;exact FactSteps.nil
        case q1_0 =>
          rintro L a v w hv hg hL hd hcl ⟨e7,e2,gb,kz,rE,f0,f1,f2,f3,f4,f6⟩ K hK;refine step_do rfl ?_;refine wp_bdM (v:=.agg MZ) (w':=w) 30 #[] rfl ?_ ?_
          · simp only [List.map_toArray,List.map_nil];exact HBD.out _
          exact hK.out _ _ ⟨e7,e2,gb,kz,rE,fun _=>rfl,f1,f2,f3,f4,f6⟩
        case q1_1 =>
          rintro L a v w hv hg hL hd hcl ⟨e7,e2,gb,kz,rE,f0,f1,f2,f3,f4,f6⟩ K hK;refine step_do rfl ?_;clear hv;go_simp;exact hK.out _ _ ⟨e7,e2,gb,kz,rE,f0,fun _=>rfl,f2,f3,f4,f6⟩
        case q1_2 =>
          rintro L a v w hv hg hL hd hcl ⟨e7,e2,gb,kz,rE,f0,f1,f2,f3,f4,f6⟩ K hK;have g1:=f1 (hd 1 (by decide));refine step_do rfl ?_;clear hv;go_simp;exact hK.out _ _ ⟨e7,e2,gb,kz,rE,f0,f1,fun _=>rfl,f3,f4,f6⟩
        case q1_3 =>
          rintro L a v w hv hg hL hd hcl ⟨e7,e2,gb,kz,rE,f0,f1,f2,f3,f4,f6⟩ K hK;have g2:=f2 (hd 2 (by decide));refine step_do rfl ?_;clear hv;go_simp;exact hK.out _ _ ⟨e7,e2,gb,kz,rE,f0,f1,f2,fun _=>rfl,f4,f6⟩
        case q1_4 =>
          rintro L a v w hv hg hL hd hcl ⟨e7,e2,gb,kz,rE,f0,f1,f2,f3,f4,f6⟩ K hK;have g3:=f3 (hd 3 (by decide));have cx:=rE;refine step_do rfl ?_;clear hv;go_simp;exact hK.out _ _ ⟨e7,e2,gb,kz,rE,f0,f1,f2,f3,fun _=>rfl,f6⟩
        case q1_5 =>
          rintro L a v w hv hg hL hd hcl ⟨e7,e2,gb,kz,rE,f0,f1,f2,f3,f4,f6⟩ K hK;have g0:=f0 (hd 0 (by decide));refine step_do rfl ?_;refine wp_st (cs:=MZ) rowMg (.tmp 2) (.tmp 116) rfl ((hv 2).trans e2) ((hv 116).trans g0) kz mz_size mz_size mz_one ?_;intro wy ky gy zy;exact hK.out undef _ ⟨e7,e2,(gb.grown gy gb.size (fun q hq=>by injection hq;have:=HGG.out;omega)),ky,(gy.cell rE (fun x=>by injection x with x;exact HYG.out.1 x.symm)),f0,f1,f2,f3,f4,f6⟩
        case q1_6 =>
          rintro L a v w hv hg hL hd hcl ⟨e7,e2,gb,kz,rE,f0,f1,f2,f3,f4,f6⟩ K hK;have g1:=f1 (hd 1 (by decide));have g2:=f2 (hd 2 (by decide));have g3:=f3 (hd 3 (by decide));have g4:=f4 (hd 4 (by decide));refine step_do rfl ?_;clear hv;go_simp;exact hK.out _ _ ⟨e7,e2,gb,kz,rE,f0,f1,f2,f3,f4,fun _=>rfl⟩
      case hend =>
      rintro L v wZ hall ⟨e7,e2,gb,kz,rE,f0,f1,f2,f3,f4,f6⟩;have hL : ∀ i,i < 7→L i = true:=hall;have f0:=f0 (hL 0 (by decide));have f1:=f1 (hL 1 (by decide));have f2:=f2 (hL 2 (by decide));have f3:=f3 (hL 3 (by decide));have f4:=f4 (hL 4 (by decide));have f6:=f6 (hL 6 (by decide))
      simp only [finA,List.foldl_cons,List.foldl_nil,Act.put,List.setIfInBounds_toArray,List.set_cons_succ,List.set_cons_zero,f1,f2,f3,f4,f6,f0]
      clear e7 e2 f0 f1 f2 f3 f4 f6 hL hall;go_wp2_with fail;exact bodyPost_ret (v:=.tuple #[.agg MZ,.int .i64 (e : Nat)]) (results_blk2 rfl rowMg kz mz_size rfl rfl) rfl ⟨zeroV,rfl,rfl,zeroV_own _ _,gb⟩
    have hh : Ms.headE xs = .ok (m,r):=HGH.out ▸ hst;obtain ⟨f1,f2,f3,f4,f5,f6,f7⟩:=Ms.headE_fwd hh;have HF:=Lib.hid (And.intro f2 (And.intro f3 (And.intro f4 (And.intro f5 (And.intro f6 f7)))))
    have hrl : r.length≤4096:=by
      have:=congrArg List.length f1
      rw [List.length_append] at this
      have:=HXL.out
      omega
    have HRL:=Lib.hid hrl;have HPE:=Lib.hid (show ∀ y,Ms.partE m r = .error y→G = (Ms.zero,y) from fun y h=>HGE.out y (Ms.getX_part hh h))
    have HPO:=Lib.hid (show ∀ m',Ms.partE m r = .ok m'→∀ b,Ms.rightM m' = b→G = if b = true then (m',0) else (Ms.zero,4) from fun m' h b hb=>by
      cases b
      · exact HGE.out 4 (by rw [Ms.getX_end hh h,if_neg (by rw [hb];decide)])
      · exact HGO.out m' (by rw [Ms.getX_end hh h,if_pos hb]))
    clear f1 f2 f3 f4 f5 f6 f7 hh hst hrl;obtain ⟨at',hat,hRR,hdr⟩:=S.rd;have c1 : World.cell? _ ⟨gR,1,none⟩ = some (.int .i64 (at' : Nat)):=hRR.cell 1
    have hrn : xs.length - at' = r.length:=by rw [← hdr,List.length_drop]
    have hnc:=HLE.out.1;have hcm:=HLE.out.2
    unfold maxLen at hcm
    have HSS:=Lib.hid S;have HDR:=Lib.hid hdr;have HRN:=Lib.hid hrn;clear S hRR hdr hrn
    go_upto_region 29 with fail
    go_cut [12] from 121 to 126 (fun q wx=>∃ (AL : Option Addr) (cL : Nat),q = .slice AL r.length cL∧RdB wx w1.heap.size AL r.length r∧GSm w1.heap.size w1 wx Y gR A4 xs.length c4 xs m A3 c3 r 0)
    case first =>
      have hhx:=HSS.out.hx.below HSS.out.gB
      by_cases hca : c4 = at'
      · have hxa : at' = xs.length:=by omega
        have hxc : c4 = xs.length:=by omega
        subst hxa hxc
        have hr0 : r = []:=by rw [← HDR.out];exact List.drop_eq_nil_of_le (Nat.le_refl _)
        have HR0:=Lib.hid hr0;clear hhx hr0 hca hnc hat;go_wp2_with fail;go_meet;exact ⟨A4,0,by rw [HR0.out];rfl,by rw [HR0.out];exact RdB.nil _ _ _,HSS.out⟩
      · have hhd:=hhx.drop at'
        rw [HDR.out,HRN.out] at hhd;have HHD:=Lib.hid hhd;clear hhx hhd;go_wp2_with fail;go_meet;exact ⟨_,_,by rw [HRN.out],HHD.out,HSS.out⟩
    case rest =>
    clear HSS HDR HRN c1 c0 hat hnc hcm;obtain ⟨AL,cL,rfl,hRL,S⟩:=hcut;have c0 : World.cell? _ ⟨Y,0,none⟩ = some (.int .i64 (((2 : Nat) : Int))):=(S.y.cell 0).trans (by rw [show (mgc m sN sN (.slice A3 m.mem.length c3))[0]? = some (.int .i64 m.kind) from rfl,HKM.out])
    have hk4' : m.kind ≠ 4:=by rw [HKM.out];simp
    have hk5' : m.kind ≠ 5:=by rw [HKM.out];simp
    by_cases hr : r = []
    rotate_left
    · have hlr : 0 < r.length:=List.length_pos_iff.2 hr
      have hlr' : (0 : Int) < (r.length : Int):=by omega
      have hgo : G = (Ms.zero,4):=HPE.out 4 (by unfold Ms.partE;rw [if_neg hk4',if_neg hk5',if_neg hr]);have kz:=KZ.out _ S.gB;have gb:=GB.out.trans (S.gB.mono GB.out.size);subst hgo
      generalize r.length = lr at *
      clear S hr hRL hlr hk4' hk5'
      (try clear cE)
      (try clear HI)
      (try clear HK)
      (try clear HKM)
      clear HF HRL
      go_upto_region 32 with fail
      clear c0 hlr'
      go_wp2_with first
        | ((with_reducible refine wpList_st rowMg kz mz_size mz_size mz_one ?_ ?_ ?_);rotate_left;(rfl);(rfl);intro wZ k6 g6 z6)
      exact bodyPost_ret (v:=.tuple #[.agg MZ,.int .i64 (4)]) (results_blk2 rfl rowMg k6 mz_size rfl rfl) rfl ⟨zeroV,rfl,rfl,zeroV_own _ _,gb.grown g6 gb.size (fun q hq=>by injection hq;have:=HGG.out;omega)⟩
    have hlr : ¬ (0 : Int) < (r.length : Int):=by rw [hr];simp
    have HS0:=Lib.hid (And.intro S (And.intro HF.out HKM.out));have HPX2:=Lib.hid (show Ms.partE m r = .ok m by unfold Ms.partE;rw [if_neg hk4',if_neg hk5',if_pos hr]);clear S hRL hr hk4' hk5' HF HRL HKM
    (try clear cE)
    (try clear HI)
    (try clear HK)
    generalize hrl : r.length = lr at *
    go_upto_region 43 with fail
    clear hlr c0 hrl;obtain ⟨x,hx⟩ : ∃ x : MgV,x = ⟨m,none,0,0,[],none,0,0,A3,m.mem.length,c3⟩:=⟨_,rfl⟩;have HPX2:=Lib.hid (show Ms.partE m r = .ok x.m by rw [HPX2.out,hx]);obtain ⟨S,HF,-⟩:=HS0.out
    have kx : Blk wc Y 30 x.cs:=by rw [hx];exact S.y
    have ox : MgOwn wc w1.heap.size x:=by
      rw [hx];refine ⟨by show m.u.length = 8;rw [HF.1];rfl,by show Wf m.u;rw [HF.1];exact zeroM_wf,?_,OwnEv.nil _ _,fun y hy=>by simp at hy,HF.2.2.1,S.o⟩
      show OwnD wc w1.heap.size none 0 0 m.more
      rw [HF.2.1];exact OwnD.nil _ _
    have hx2 : x.n2≤10000000000000:=by rw [hx];exact Nat.zero_le _
    have hx3 : x.n3≤maxLen:=by rw [hx];have:=HF.2.2.2.1;unfold maxLen;show m.mem.length≤_;omega
    have gB:=S.gB;clear S HF HS0 hx;have HX3:=Lib.hid (And.intro hx2 hx3);clear hx2 hx3
    generalize hC : x.cs = C at kx
    have SC:=Lib.hid (show C.size = 16 by rw [← hC];rfl);have OC:=Lib.hid (show C.all (·.oneCell') = true by rw [← hC];exact x.one);have HCC:=Lib.hid hC;obtain ⟨R,hR⟩ : ∃ R,R = Ms.rightM x.m:=⟨_,rfl⟩
    have HRT:=Lib.hid fun (wq : World) (hox : MgOwn wq w1.heap.size x)=>(show Calls Tryz.prog 30 #[.agg C] wq fun e w'=>e = .returned (.bool R)∧Below wq.heap.size wq w' by rw [← hC,hR];exact rright17_any x wq (hox.mgin HX3.out.1 HX3.out.2))
    have HR:=Lib.hid hR;clear hC hR
    go_wp2_with ((with_reducible refine wpList_ld rowMg kx SC.out ?_ ?_);rotate_left;(rfl))
    refine (HRT.out _ ox).mono ?_;rintro e wd ⟨rfl,bd⟩;have gB:=gB.trans (bd.mono (Nat.le_trans (Nat.le_refl _) gB.size));have kx:=kx.below bd kx.lt;have ox:=ox.below bd;have kz:=KZ.out _ gB;have gb:=GB.out.trans (gB.mono GB.out.size);clear bd HRT
    cases R
    case false =>
      have hgo : G = (Ms.zero,4):=HPO.out _ HPX2.out false HR.out.symm;subst hgo
      go_wp2_with first
        | ((with_reducible refine wpList_st rowMg kz mz_size mz_size mz_one ?_ ?_ ?_);rotate_left;(rfl);(rfl);intro wZ k6 g6 z6)
      exact bodyPost_ret (v:=.tuple #[.agg MZ,.int .i64 (4)]) (results_blk2 rfl rowMg k6 mz_size rfl rfl) rfl ⟨zeroV,rfl,rfl,zeroV_own _ _,gb.grown g6 gb.size (fun q hq=>by injection hq;have:=HGG.out;omega)⟩
    have hgo : G = (x.m,0):=HPO.out _ HPX2.out true HR.out.symm;subst hgo
    go_wp2_with first
      | ((with_reducible refine wpList_ld rowMg kx SC.out ?_ ?_);rotate_left;(rfl))
      | ((with_reducible refine wpList_st rowMg kz SC.out mz_size OC.out ?_ ?_ ?_);rotate_left;(rfl);(rfl);intro wZ k9 g9 z9)
    exact bodyPost_ret (v:=.tuple #[.agg C,.int .i64 0]) (results_blk2 rfl rowMg k9 SC.out rfl rfl) rfl ⟨x,by rw [HCC.out];rfl,rfl,(ox.kept g9 HGW.out).mono GB.out.size,gb.grown g9 gb.size (fun q hq=>by injection hq;have:=HGG.out;omega)⟩
  by_cases hk3 : k = 3
  · subst hk3
    obtain ⟨zn,rn,en,hI⟩ : ∃ z r' e',Vint.intM r e = (z,r',e'):=⟨_,_,_,rfl⟩;have HR:=Lib.hid (Ms.nodeRel (by rw [HKM.out];simp) hst hI);have HI:=Lib.hid hI;clear hI hst;go_wp2_with fail;refine (S.int HI.out).mono ?_;rintro x wa ⟨rfl,S1,_⟩;have c4' : wa.cell? ⟨Y,4,none⟩ = some (.int .i64 m.node):=S1.y.cell 4;have u4:=S1.y.free 4;have hly:=S1.y.lt;obtain ⟨m',hm'⟩ : ∃ m' : Ms.Msg,m' = { m with node:=(zn : Nat) }:=⟨_,rfl⟩
    have S2 : GSm w1.heap.size w1 (wa.setCell ⟨Y,4,none⟩ (.int .i64 (zn : Nat))) Y gR A4 xs.length c4 xs m' A3 c3 rn en:=by rw [hm'];exact S1.set 4 (.int .i64 (zn : Nat)) rfl rfl
    obtain ⟨wb,hwb⟩ : ∃ wb,wb = wa.setCell ⟨Y,4,none⟩ (.int .i64 (zn : Nat)):=⟨_,rfl⟩;rw [← hwb] at S2;have HWB:=Lib.hid hwb;have hst:=HR.out;rw [← hm'] at hst;have HKM2:=Lib.hid (show m'.kind = ((3 : Nat) : Int) by rw [hm'];exact HKM.out);clear S S1 hwb c0 HR HI HKM hm';obtain ⟨m,rfl⟩ : ∃ m,m = m':=⟨_,rfl⟩;obtain ⟨r,rfl⟩ : ∃ r,r = rn:=⟨_,rfl⟩;obtain ⟨e,rfl⟩ : ∃ e,e = en:=⟨_,rfl⟩;have S:=S2;have HKM:=HKM2;have HST:=Lib.hid hst;clear S2 HKM2 hst
    go_upto_region 27 with fail
    rw [← HWB.out];clear c4' u4 hly HWB;have c0 : wb.cell? ⟨Y,0,none⟩ = some (.int .i64 (((3 : Nat) : Int))):=(S.y.cell 0).trans (by rw [show (mgc m sN sN (.slice A3 m.mem.length c3))[0]? = some (.int .i64 m.kind) from rfl,HKM.out]);have cE:=S.rd.err;have hst:=HST.out;clear HST
    rcases hst with ⟨rfl,hst⟩ | ⟨hne,hE⟩
    rotate_left
    · have hq : (((e : Nat) : Int) != 0) = true:=by rw [bne_iff_ne];exact_mod_cast hne
      have hgo:=HHE.out e hE;have kz:=KZ.out _ S.gB;have gb:=GB.out.trans (S.gB.mono GB.out.size);subst hgo;clear S hne hE c0
      go_upto_region 28 with fail
      refine wp_region_facts (fun L v w=>v 7 = .pointer (some ⟨gR,0,none⟩)∧v 2 = .pointer (some ⟨g,0,none⟩)∧Below w0.heap.size w0 w∧Blk w g 30 MZ∧w.cell? ⟨gR,2,none⟩ = some (.int .i64 (e : Nat))∧(L 0 = true→v 116 = .agg MZ)∧(L 1 = true→v 117 = .pointer (some ⟨gR,0,none⟩))∧(L 2 = true→v 118 = .pointer (some ⟨gR,0,none⟩))∧(L 3 = true→v 119 = .pointer (some ⟨gR,2,none⟩))∧(L 4 = true→v 120 = .int .i64 (e : Nat))∧(L 6 = true→v 3 = .int .i64 (e : Nat))) [116,117,118,119,120,3] (by kernel_rfl) (by kernel_rfl) (by kernel_rfl) (by kernel_rfl) ?h0 ?hst ?hend
      case h0 =>
        intro L h0;have h0 : ∀ i,i < 7→L i = false:=h0;exact ⟨rfl,rfl,gb.drew,kz.drew,cE,offF h0 (i:=0) (by decide),offF h0 (i:=1) (by decide),offF h0 (i:=2) (by decide),offF h0 (i:=3) (by decide),offF h0 (i:=4) (by decide),offF h0 (i:=6) (by decide)⟩
      case hst =>
        show FactSteps _ _ _ _ [0,1,2,3,4,5,6]
        refine @FactSteps.cons _ _ _ _ 0 _ [] _ rfl (by kernel_rfl) ?q2_0 ?_;rotate_left;refine @FactSteps.cons _ _ _ _ 1 _ [] _ rfl (by kernel_rfl) ?q2_1 ?_;rotate_left;refine @FactSteps.cons _ _ _ _ 2 _ [1] _ rfl (by kernel_rfl) ?q2_2 ?_;rotate_left;refine @FactSteps.cons _ _ _ _ 3 _ [2] _ rfl (by kernel_rfl) ?q2_3 ?_;rotate_left;refine @FactSteps.cons _ _ _ _ 4 _ [3] _ rfl (by kernel_rfl) ?q2_4 ?_;rotate_left;refine @FactSteps.cons _ _ _ _ 5 _ [0,0] _ rfl (by kernel_rfl) ?q2_5 ?_;rotate_left;refine @FactSteps.cons _ _ _ _ 6 _ [4,5,0,1,2,3,4,5] _ rfl (by kernel_rfl) ?q2_6 ?_;rotate_left;exact FactSteps.nil
        case q2_0 =>
          rintro L a v w hv hg hL hd hcl ⟨e7,e2,gb,kz,rE,f0,f1,f2,f3,f4,f6⟩ K hK;refine step_do rfl ?_;refine wp_bdM (v:=.agg MZ) (w':=w) 30 #[] rfl ?_ ?_
          · simp only [List.map_toArray,List.map_nil];exact HBD.out _
          exact hK.out _ _ ⟨e7,e2,gb,kz,rE,fun _=>rfl,f1,f2,f3,f4,f6⟩
        case q2_1 =>
          rintro L a v w hv hg hL hd hcl ⟨e7,e2,gb,kz,rE,f0,f1,f2,f3,f4,f6⟩ K hK;refine step_do rfl ?_;clear hv;go_simp;exact hK.out _ _ ⟨e7,e2,gb,kz,rE,f0,fun _=>rfl,f2,f3,f4,f6⟩
        case q2_2 =>
          rintro L a v w hv hg hL hd hcl ⟨e7,e2,gb,kz,rE,f0,f1,f2,f3,f4,f6⟩ K hK;have g1:=f1 (hd 1 (by decide));refine step_do rfl ?_;clear hv;go_simp;exact hK.out _ _ ⟨e7,e2,gb,kz,rE,f0,f1,fun _=>rfl,f3,f4,f6⟩
        case q2_3 =>
          rintro L a v w hv hg hL hd hcl ⟨e7,e2,gb,kz,rE,f0,f1,f2,f3,f4,f6⟩ K hK;have g2:=f2 (hd 2 (by decide));refine step_do rfl ?_;clear hv;go_simp;exact hK.out _ _ ⟨e7,e2,gb,kz,rE,f0,f1,f2,fun _=>rfl,f4,f6⟩
        case q2_4 =>
          rintro L a v w hv hg hL hd hcl ⟨e7,e2,gb,kz,rE,f0,f1,f2,f3,f4,f6⟩ K hK;have g3:=f3 (hd 3 (by decide));have cx:=rE;refine step_do rfl ?_;clear hv;go_simp;exact hK.out _ _ ⟨e7,e2,gb,kz,rE,f0,f1,f2,f3,fun _=>rfl,f6⟩
        case q2_5 =>
          rintro L a v w hv hg hL hd hcl ⟨e7,e2,gb,kz,rE,f0,f1,f2,f3,f4,f6⟩ K hK;have g0:=f0 (hd 0 (by decide));refine step_do rfl ?_;refine wp_st (cs:=MZ) rowMg (.tmp 2) (.tmp 116) rfl ((hv 2).trans e2) ((hv 116).trans g0) kz mz_size mz_size mz_one ?_;intro wy ky gy zy;exact hK.out undef _ ⟨e7,e2,(gb.grown gy gb.size (fun q hq=>by injection hq;have:=HGG.out;omega)),ky,(gy.cell rE (fun x=>by injection x with x;exact HYG.out.1 x.symm)),f0,f1,f2,f3,f4,f6⟩
        case q2_6 =>
          rintro L a v w hv hg hL hd hcl ⟨e7,e2,gb,kz,rE,f0,f1,f2,f3,f4,f6⟩ K hK;have g1:=f1 (hd 1 (by decide));have g2:=f2 (hd 2 (by decide));have g3:=f3 (hd 3 (by decide));have g4:=f4 (hd 4 (by decide));refine step_do rfl ?_;clear hv;go_simp;exact hK.out _ _ ⟨e7,e2,gb,kz,rE,f0,f1,f2,f3,f4,fun _=>rfl⟩
      case hend =>
      rintro L v wZ hall ⟨e7,e2,gb,kz,rE,f0,f1,f2,f3,f4,f6⟩;have hL : ∀ i,i < 7→L i = true:=hall;have f0:=f0 (hL 0 (by decide));have f1:=f1 (hL 1 (by decide));have f2:=f2 (hL 2 (by decide));have f3:=f3 (hL 3 (by decide));have f4:=f4 (hL 4 (by decide));have f6:=f6 (hL 6 (by decide))
      simp only [finA,List.foldl_cons,List.foldl_nil,Act.put,List.setIfInBounds_toArray,List.set_cons_succ,List.set_cons_zero,f1,f2,f3,f4,f6,f0]
      clear e7 e2 f0 f1 f2 f3 f4 f6 hL hall;go_wp2_with fail;exact bodyPost_ret (v:=.tuple #[.agg MZ,.int .i64 (e : Nat)]) (results_blk2 rfl rowMg kz mz_size rfl rfl) rfl ⟨zeroV,rfl,rfl,zeroV_own _ _,gb⟩
    have hh : Ms.headE xs = .ok (m,r):=HGH.out ▸ hst;obtain ⟨f1,f2,f3,f4,f5,f6,f7⟩:=Ms.headE_fwd hh;have HF:=Lib.hid (And.intro f2 (And.intro f3 (And.intro f4 (And.intro f5 (And.intro f6 f7)))))
    have hrl : r.length≤4096:=by
      have:=congrArg List.length f1
      rw [List.length_append] at this
      have:=HXL.out
      omega
    have HRL:=Lib.hid hrl;have HPE:=Lib.hid (show ∀ y,Ms.partE m r = .error y→G = (Ms.zero,y) from fun y h=>HGE.out y (Ms.getX_part hh h))
    have HPO:=Lib.hid (show ∀ m',Ms.partE m r = .ok m'→∀ b,Ms.rightM m' = b→G = if b = true then (m',0) else (Ms.zero,4) from fun m' h b hb=>by
      cases b
      · exact HGE.out 4 (by rw [Ms.getX_end hh h,if_neg (by rw [hb];decide)])
      · exact HGO.out m' (by rw [Ms.getX_end hh h,if_pos hb]))
    clear f1 f2 f3 f4 f5 f6 f7 hh hst hrl;obtain ⟨at',hat,hRR,hdr⟩:=S.rd;have c1 : World.cell? _ ⟨gR,1,none⟩ = some (.int .i64 (at' : Nat)):=hRR.cell 1
    have hrn : xs.length - at' = r.length:=by rw [← hdr,List.length_drop]
    have hnc:=HLE.out.1;have hcm:=HLE.out.2
    unfold maxLen at hcm
    have HSS:=Lib.hid S;have HDR:=Lib.hid hdr;have HRN:=Lib.hid hrn;clear S hRR hdr hrn
    go_upto_region 29 with fail
    go_cut [12] from 121 to 126 (fun q wx=>∃ (AL : Option Addr) (cL : Nat),q = .slice AL r.length cL∧RdB wx w1.heap.size AL r.length r∧GSm w1.heap.size w1 wx Y gR A4 xs.length c4 xs m A3 c3 r 0)
    case first =>
      have hhx:=HSS.out.hx.below HSS.out.gB
      by_cases hca : c4 = at'
      · have hxa : at' = xs.length:=by omega
        have hxc : c4 = xs.length:=by omega
        subst hxa hxc
        have hr0 : r = []:=by rw [← HDR.out];exact List.drop_eq_nil_of_le (Nat.le_refl _)
        have HR0:=Lib.hid hr0;clear hhx hr0 hca hnc hat;go_wp2_with fail;go_meet;exact ⟨A4,0,by rw [HR0.out];rfl,by rw [HR0.out];exact RdB.nil _ _ _,HSS.out⟩
      · have hhd:=hhx.drop at'
        rw [HDR.out,HRN.out] at hhd;have HHD:=Lib.hid hhd;clear hhx hhd;go_wp2_with fail;go_meet;exact ⟨_,_,by rw [HRN.out],HHD.out,HSS.out⟩
    case rest =>
    clear HSS HDR HRN c1 c0 hat hnc hcm;obtain ⟨AL,cL,rfl,hRL,S⟩:=hcut;have c0 : World.cell? _ ⟨Y,0,none⟩ = some (.int .i64 (((3 : Nat) : Int))):=(S.y.cell 0).trans (by rw [show (mgc m sN sN (.slice A3 m.mem.length c3))[0]? = some (.int .i64 m.kind) from rfl,HKM.out])
    have hk4' : m.kind ≠ 4:=by rw [HKM.out];simp
    have hk5' : m.kind ≠ 5:=by rw [HKM.out];simp
    by_cases hr : r = []
    rotate_left
    · have hlr : 0 < r.length:=List.length_pos_iff.2 hr
      have hlr' : (0 : Int) < (r.length : Int):=by omega
      have hgo : G = (Ms.zero,4):=HPE.out 4 (by unfold Ms.partE;rw [if_neg hk4',if_neg hk5',if_neg hr]);have kz:=KZ.out _ S.gB;have gb:=GB.out.trans (S.gB.mono GB.out.size);subst hgo
      generalize r.length = lr at *
      clear S hr hRL hlr hk4' hk5'
      (try clear cE)
      (try clear HI)
      (try clear HK)
      (try clear HKM)
      clear HF HRL
      go_upto_region 32 with fail
      clear c0 hlr'
      go_wp2_with first
        | ((with_reducible refine wpList_st rowMg kz mz_size mz_size mz_one ?_ ?_ ?_);rotate_left;(rfl);(rfl);intro wZ k6 g6 z6)
      exact bodyPost_ret (v:=.tuple #[.agg MZ,.int .i64 (4)]) (results_blk2 rfl rowMg k6 mz_size rfl rfl) rfl ⟨zeroV,rfl,rfl,zeroV_own _ _,gb.grown g6 gb.size (fun q hq=>by injection hq;have:=HGG.out;omega)⟩
    have hlr : ¬ (0 : Int) < (r.length : Int):=by rw [hr];simp
    have HS0:=Lib.hid (And.intro S (And.intro HF.out HKM.out));have HPX2:=Lib.hid (show Ms.partE m r = .ok m by unfold Ms.partE;rw [if_neg hk4',if_neg hk5',if_pos hr]);clear S hRL hr hk4' hk5' HF HRL HKM
    (try clear cE)
    (try clear HI)
    (try clear HK)
    generalize hrl : r.length = lr at *
    go_upto_region 43 with fail
    clear hlr c0 hrl;obtain ⟨x,hx⟩ : ∃ x : MgV,x = ⟨m,none,0,0,[],none,0,0,A3,m.mem.length,c3⟩:=⟨_,rfl⟩;have HPX2:=Lib.hid (show Ms.partE m r = .ok x.m by rw [HPX2.out,hx]);obtain ⟨S,HF,-⟩:=HS0.out
    have kx : Blk wc Y 30 x.cs:=by rw [hx];exact S.y
    have ox : MgOwn wc w1.heap.size x:=by
      rw [hx];refine ⟨by show m.u.length = 8;rw [HF.1];rfl,by show Wf m.u;rw [HF.1];exact zeroM_wf,?_,OwnEv.nil _ _,fun y hy=>by simp at hy,HF.2.2.1,S.o⟩
      show OwnD wc w1.heap.size none 0 0 m.more
      rw [HF.2.1];exact OwnD.nil _ _
    have hx2 : x.n2≤10000000000000:=by rw [hx];exact Nat.zero_le _
    have hx3 : x.n3≤maxLen:=by rw [hx];have:=HF.2.2.2.1;unfold maxLen;show m.mem.length≤_;omega
    have gB:=S.gB;clear S HF HS0 hx;have HX3:=Lib.hid (And.intro hx2 hx3);clear hx2 hx3
    generalize hC : x.cs = C at kx
    have SC:=Lib.hid (show C.size = 16 by rw [← hC];rfl);have OC:=Lib.hid (show C.all (·.oneCell') = true by rw [← hC];exact x.one);have HCC:=Lib.hid hC;obtain ⟨R,hR⟩ : ∃ R,R = Ms.rightM x.m:=⟨_,rfl⟩
    have HRT:=Lib.hid fun (wq : World) (hox : MgOwn wq w1.heap.size x)=>(show Calls Tryz.prog 30 #[.agg C] wq fun e w'=>e = .returned (.bool R)∧Below wq.heap.size wq w' by rw [← hC,hR];exact rright17_any x wq (hox.mgin HX3.out.1 HX3.out.2))
    have HR:=Lib.hid hR;clear hC hR
    go_wp2_with ((with_reducible refine wpList_ld rowMg kx SC.out ?_ ?_);rotate_left;(rfl))
    refine (HRT.out _ ox).mono ?_;rintro e wd ⟨rfl,bd⟩;have gB:=gB.trans (bd.mono (Nat.le_trans (Nat.le_refl _) gB.size));have kx:=kx.below bd kx.lt;have ox:=ox.below bd;have kz:=KZ.out _ gB;have gb:=GB.out.trans (gB.mono GB.out.size);clear bd HRT
    cases R
    case false =>
      have hgo : G = (Ms.zero,4):=HPO.out _ HPX2.out false HR.out.symm;subst hgo
      go_wp2_with first
        | ((with_reducible refine wpList_st rowMg kz mz_size mz_size mz_one ?_ ?_ ?_);rotate_left;(rfl);(rfl);intro wZ k6 g6 z6)
      exact bodyPost_ret (v:=.tuple #[.agg MZ,.int .i64 (4)]) (results_blk2 rfl rowMg k6 mz_size rfl rfl) rfl ⟨zeroV,rfl,rfl,zeroV_own _ _,gb.grown g6 gb.size (fun q hq=>by injection hq;have:=HGG.out;omega)⟩
    have hgo : G = (x.m,0):=HPO.out _ HPX2.out true HR.out.symm;subst hgo
    go_wp2_with first
      | ((with_reducible refine wpList_ld rowMg kx SC.out ?_ ?_);rotate_left;(rfl))
      | ((with_reducible refine wpList_st rowMg kz SC.out mz_size OC.out ?_ ?_ ?_);rotate_left;(rfl);(rfl);intro wZ k9 g9 z9)
    exact bodyPost_ret (v:=.tuple #[.agg C,.int .i64 0]) (results_blk2 rfl rowMg k9 SC.out rfl rfl) rfl ⟨x,by rw [HCC.out];rfl,rfl,(ox.kept g9 HGW.out).mono GB.out.size,gb.grown g9 gb.size (fun q hq=>by injection hq;have:=HGG.out;omega)⟩
  by_cases hk4 : k = 4
  · subst hk4
    have hst2 : (e = 0∧GH = .ok (m,r))∨(e ≠ 0∧GH = .error e):=by
      rcases hst with ⟨h1,h2⟩ | h
      · exact .inl ⟨h1,by rw [h2,Ms.node_skip (by rw [HKM.out];omega)]⟩
      · exact .inr h
    have HST:=Lib.hid hst2;clear hst hst2
    go_upto_region 27 with fail
    have cE:=S.rd.err;have hst:=HST.out;clear HST
    rcases hst with ⟨rfl,hst⟩ | ⟨hne,hE⟩
    rotate_left
    · have hq : (((e : Nat) : Int) != 0) = true:=by rw [bne_iff_ne];exact_mod_cast hne
      have hgo:=HHE.out e hE;have kz:=KZ.out _ S.gB;have gb:=GB.out.trans (S.gB.mono GB.out.size);subst hgo;clear S hne hE c0
      go_upto_region 28 with fail
      refine wp_region_facts (fun L v w=>v 7 = .pointer (some ⟨gR,0,none⟩)∧v 2 = .pointer (some ⟨g,0,none⟩)∧Below w0.heap.size w0 w∧Blk w g 30 MZ∧w.cell? ⟨gR,2,none⟩ = some (.int .i64 (e : Nat))∧(L 0 = true→v 116 = .agg MZ)∧(L 1 = true→v 117 = .pointer (some ⟨gR,0,none⟩))∧(L 2 = true→v 118 = .pointer (some ⟨gR,0,none⟩))∧(L 3 = true→v 119 = .pointer (some ⟨gR,2,none⟩))∧(L 4 = true→v 120 = .int .i64 (e : Nat))∧(L 6 = true→v 3 = .int .i64 (e : Nat))) [116,117,118,119,120,3] (by kernel_rfl) (by kernel_rfl) (by kernel_rfl) (by kernel_rfl) ?h0 ?hst ?hend
      case h0 =>
        intro L h0;have h0 : ∀ i,i < 7→L i = false:=h0;exact ⟨rfl,rfl,gb.drew,kz.drew,cE,offF h0 (i:=0) (by decide),offF h0 (i:=1) (by decide),offF h0 (i:=2) (by decide),offF h0 (i:=3) (by decide),offF h0 (i:=4) (by decide),offF h0 (i:=6) (by decide)⟩
      case hst =>
        show FactSteps _ _ _ _ [0,1,2,3,4,5,6]
        refine @FactSteps.cons _ _ _ _ 0 _ [] _ rfl (by kernel_rfl) ?q3_0 ?_;rotate_left;refine @FactSteps.cons _ _ _ _ 1 _ [] _ rfl (by kernel_rfl) ?q3_1 ?_;rotate_left;refine @FactSteps.cons _ _ _ _ 2 _ [1] _ rfl (by kernel_rfl) ?q3_2 ?_;rotate_left;refine @FactSteps.cons _ _ _ _ 3 _ [2] _ rfl (by kernel_rfl) ?q3_3 ?_;rotate_left;refine @FactSteps.cons _ _ _ _ 4 _ [3] _ rfl (by kernel_rfl) ?q3_4 ?_;rotate_left;refine @FactSteps.cons _ _ _ _ 5 _ [0,0] _ rfl (by kernel_rfl) ?q3_5 ?_;rotate_left;refine @FactSteps.cons _ _ _ _ 6 _ [4,5,0,1,2,3,4,5] _ rfl (by kernel_rfl) ?q3_6 ?_;rotate_left;exact FactSteps.nil
        case q3_0 =>
          rintro L a v w hv hg hL hd hcl ⟨e7,e2,gb,kz,rE,f0,f1,f2,f3,f4,f6⟩ K hK;refine step_do rfl ?_;refine wp_bdM (v:=.agg MZ) (w':=w) 30 #[] rfl ?_ ?_
          · simp only [List.map_toArray,List.map_nil];exact HBD.out _
          exact hK.out _ _ ⟨e7,e2,gb,kz,rE,fun _=>rfl,f1,f2,f3,f4,f6⟩
        case q3_1 =>
          rintro L a v w hv hg hL hd hcl ⟨e7,e2,gb,kz,rE,f0,f1,f2,f3,f4,f6⟩ K hK;refine step_do rfl ?_;clear hv;go_simp;exact hK.out _ _ ⟨e7,e2,gb,kz,rE,f0,fun _=>rfl,f2,f3,f4,f6⟩
        case q3_2 =>
          rintro L a v w hv hg hL hd hcl ⟨e7,e2,gb,kz,rE,f0,f1,f2,f3,f4,f6⟩ K hK;have g1:=f1 (hd 1 (by decide));refine step_do rfl ?_;clear hv;go_simp;exact hK.out _ _ ⟨e7,e2,gb,kz,rE,f0,f1,fun _=>rfl,f3,f4,f6⟩
        case q3_3 =>
          rintro L a v w hv hg hL hd hcl ⟨e7,e2,gb,kz,rE,f0,f1,f2,f3,f4,f6⟩ K hK;have g2:=f2 (hd 2 (by decide));refine step_do rfl ?_;clear hv;go_simp;exact hK.out _ _ ⟨e7,e2,gb,kz,rE,f0,f1,f2,fun _=>rfl,f4,f6⟩
        case q3_4 =>
          rintro L a v w hv hg hL hd hcl ⟨e7,e2,gb,kz,rE,f0,f1,f2,f3,f4,f6⟩ K hK;have g3:=f3 (hd 3 (by decide));have cx:=rE;refine step_do rfl ?_;clear hv;go_simp;exact hK.out _ _ ⟨e7,e2,gb,kz,rE,f0,f1,f2,f3,fun _=>rfl,f6⟩
        case q3_5 =>
          rintro L a v w hv hg hL hd hcl ⟨e7,e2,gb,kz,rE,f0,f1,f2,f3,f4,f6⟩ K hK;have g0:=f0 (hd 0 (by decide));refine step_do rfl ?_;refine wp_st (cs:=MZ) rowMg (.tmp 2) (.tmp 116) rfl ((hv 2).trans e2) ((hv 116).trans g0) kz mz_size mz_size mz_one ?_;intro wy ky gy zy;exact hK.out undef _ ⟨e7,e2,(gb.grown gy gb.size (fun q hq=>by injection hq;have:=HGG.out;omega)),ky,(gy.cell rE (fun x=>by injection x with x;exact HYG.out.1 x.symm)),f0,f1,f2,f3,f4,f6⟩
        case q3_6 =>
          rintro L a v w hv hg hL hd hcl ⟨e7,e2,gb,kz,rE,f0,f1,f2,f3,f4,f6⟩ K hK;have g1:=f1 (hd 1 (by decide));have g2:=f2 (hd 2 (by decide));have g3:=f3 (hd 3 (by decide));have g4:=f4 (hd 4 (by decide));refine step_do rfl ?_;clear hv;go_simp;exact hK.out _ _ ⟨e7,e2,gb,kz,rE,f0,f1,f2,f3,f4,fun _=>rfl⟩
      case hend =>
      rintro L v wZ hall ⟨e7,e2,gb,kz,rE,f0,f1,f2,f3,f4,f6⟩;have hL : ∀ i,i < 7→L i = true:=hall;have f0:=f0 (hL 0 (by decide));have f1:=f1 (hL 1 (by decide));have f2:=f2 (hL 2 (by decide));have f3:=f3 (hL 3 (by decide));have f4:=f4 (hL 4 (by decide));have f6:=f6 (hL 6 (by decide))
      simp only [finA,List.foldl_cons,List.foldl_nil,Act.put,List.setIfInBounds_toArray,List.set_cons_succ,List.set_cons_zero,f1,f2,f3,f4,f6,f0]
      clear e7 e2 f0 f1 f2 f3 f4 f6 hL hall;go_wp2_with fail;exact bodyPost_ret (v:=.tuple #[.agg MZ,.int .i64 (e : Nat)]) (results_blk2 rfl rowMg kz mz_size rfl rfl) rfl ⟨zeroV,rfl,rfl,zeroV_own _ _,gb⟩
    have hh : Ms.headE xs = .ok (m,r):=HGH.out ▸ hst;obtain ⟨f1,f2,f3,f4,f5,f6,f7⟩:=Ms.headE_fwd hh;have HF:=Lib.hid (And.intro f2 (And.intro f3 (And.intro f4 (And.intro f5 (And.intro f6 f7)))))
    have hrl : r.length≤4096:=by
      have:=congrArg List.length f1
      rw [List.length_append] at this
      have:=HXL.out
      omega
    have HRL:=Lib.hid hrl;have HPE:=Lib.hid (show ∀ y,Ms.partE m r = .error y→G = (Ms.zero,y) from fun y h=>HGE.out y (Ms.getX_part hh h))
    have HPO:=Lib.hid (show ∀ m',Ms.partE m r = .ok m'→∀ b,Ms.rightM m' = b→G = if b = true then (m',0) else (Ms.zero,4) from fun m' h b hb=>by
      cases b
      · exact HGE.out 4 (by rw [Ms.getX_end hh h,if_neg (by rw [hb];decide)])
      · exact HGO.out m' (by rw [Ms.getX_end hh h,if_pos hb]))
    clear f1 f2 f3 f4 f5 f6 f7 hh hst hrl;obtain ⟨at',hat,hRR,hdr⟩:=S.rd;have c1 : World.cell? _ ⟨gR,1,none⟩ = some (.int .i64 (at' : Nat)):=hRR.cell 1
    have hrn : xs.length - at' = r.length:=by rw [← hdr,List.length_drop]
    have hnc:=HLE.out.1;have hcm:=HLE.out.2
    unfold maxLen at hcm
    have HSS:=Lib.hid S;have HDR:=Lib.hid hdr;have HRN:=Lib.hid hrn;clear S hRR hdr hrn
    go_upto_region 29 with fail
    go_cut [12] from 121 to 126 (fun q wx=>∃ (AL : Option Addr) (cL : Nat),q = .slice AL r.length cL∧RdB wx w1.heap.size AL r.length r∧GSm w1.heap.size w1 wx Y gR A4 xs.length c4 xs m A3 c3 r 0)
    case first =>
      have hhx:=HSS.out.hx.below HSS.out.gB
      by_cases hca : c4 = at'
      · have hxa : at' = xs.length:=by omega
        have hxc : c4 = xs.length:=by omega
        subst hxa hxc
        have hr0 : r = []:=by rw [← HDR.out];exact List.drop_eq_nil_of_le (Nat.le_refl _)
        have HR0:=Lib.hid hr0;clear hhx hr0 hca hnc hat;go_wp2_with fail;go_meet;exact ⟨A4,0,by rw [HR0.out];rfl,by rw [HR0.out];exact RdB.nil _ _ _,HSS.out⟩
      · have hhd:=hhx.drop at'
        rw [HDR.out,HRN.out] at hhd;have HHD:=Lib.hid hhd;clear hhx hhd;go_wp2_with fail;go_meet;exact ⟨_,_,by rw [HRN.out],HHD.out,HSS.out⟩
    case rest =>
    clear HSS HDR HRN c1 c0 hat hnc hcm;obtain ⟨AL,cL,rfl,hRL,S⟩:=hcut;have c0 : World.cell? _ ⟨Y,0,none⟩ = some (.int .i64 (((4 : Nat) : Int))):=(S.y.cell 0).trans (by rw [show (mgc m sN sN (.slice A3 m.mem.length c3))[0]? = some (.int .i64 m.kind) from rfl,HKM.out])
    have H4 : m.kind = 4:=by rw [HKM.out];rfl
    have HH4:=Lib.hid H4;have HY1:=Lib.hid S.y1;have hget:=rget_any AL r.length cL r w1.heap.size wc hRL S.bw (by have:=HRL.out;omega);have HGET:=Lib.hid hget;clear H4 hget;go_wp2_with fail;refine HGET.out.mono ?_;rintro e w9 ⟨AD,nD,cD,rfl,oD,b9⟩;have hYw:=S.y.lt;have S:=S.below b9;have hU : (getU r).length = 8:=getU_len r;obtain ⟨U,hUe⟩ : ∃ U,U = getU r:=⟨_,rfl⟩;obtain ⟨ge,hge⟩ : ∃ ge,ge = getE r:=⟨_,rfl⟩;obtain ⟨DL,hDL⟩ : ∃ DL,DL = getL r:=⟨_,rfl⟩;rw [← hUe] at hU ⊢;rw [← hge];rw [← hDL] at oD;have HGE2:=Lib.hid (And.intro hge (And.intro hUe hDL));have SU:=Lib.hid (uc_size hU (.slice AD nD cD));have OU:=Lib.hid (uc_one (U:=U) (s:=.slice AD nD cD) rfl);have HU:=Lib.hid hU;have oD:=oD.mono (base':=Y + 1) hYw;clear hU hUe hge hDL b9 HGET hRL hYw c0
    go_upto_region 35 with ((with_reducible refine wpList_st (cs:=uc U (.slice AD nD cD)) rowRS (Blk.new _ _ _) SU.out ?_ OU.out ?_ ?_ ?_);(rfl);rotate_left;(rfl);(rfl);intro wa kS ga za)
    have bn : Below w9.heap.size w9 wa:=new_below ga;obtain ⟨sS,hsS⟩ : ∃ sS,sS = w9.heap.size:=⟨_,rfl⟩;rw [← hsS] at kS ⊢
    have hts : Y < sS:=by have:=S.y.lt;omega
    have HYS:=Lib.hid hts;have S:=S.below bn;have oD:=oD.below bn (Nat.le_refl _);clear ga za bn hsS
    by_cases hg0 : ge = 0
    rotate_left
    · have hq : (((ge : Nat) : Int) != 0) = true:=by rw [bne_iff_ne];omega
      have hgo : G = (Ms.zero,ge):=HPE.out ge (by unfold Ms.partE;rw [if_pos HH4.out,if_neg (by rw [← HGE2.out.1];exact hg0),← HGE2.out.1]);have kz:=KZ.out _ S.gB;have gb:=GB.out.trans (S.gB.mono GB.out.size);subst hgo;clear S oD kS hg0 hts
      (try clear cE)
      (try clear HI)
      (try clear HK)
      (try clear HKM)
      clear HF HRL
      go_upto_region 36 with fail
      clear hq
      go_wp2_with first
        | ((with_reducible refine wpList_st rowMg kz mz_size mz_size mz_one ?_ ?_ ?_);rotate_left;(rfl);(rfl);intro wZ k6 g6 z6)
      exact bodyPost_ret (v:=.tuple #[.agg MZ,.int .i64 (ge : Nat)]) (results_blk2 rfl rowMg k6 mz_size rfl rfl) rfl ⟨zeroV,rfl,rfl,zeroV_own _ _,gb.grown g6 gb.size (fun q hq=>by injection hq;have:=HGG.out;omega)⟩
    subst hg0;have hqe:=HGE2.out
    have HPX:=Lib.hid (show Ms.partE m r = .ok { m with u:=U,more:=DL } by
      unfold Ms.partE
      rw [if_pos HH4.out,if_pos hqe.1.symm,hqe.2.1,hqe.2.2])
    have HWU:=Lib.hid (show Wf U by rw [hqe.2.1];exact right_wfU (put_get hqe.1.symm).1);have gB:=S.gB;have oM:=S.o;have kM:=S.y;clear hqe S hts
    go_upto_region 37 with fail
    refine wp_region_tail 6 (fun L v w=>v 13 = .pointer (some ⟨sS,0,none⟩)∧v 8 = .pointer (some ⟨Y,0,none⟩)∧Below w1.heap.size w1 w∧((L 5 = false→Blk w Y 30 (mgc m sN sN (.slice A3 m.mem.length c3)))∧(L 5 = true→Blk w Y 30 (mgc { m with u:=U } sN sN (.slice A3 m.mem.length c3))))∧Blk w sS 72 (uc U (.slice AD nD cD))∧OwnMb 71 w w1.heap.size A3 m.mem.length c3 m.mem∧OwnD w (Y + 1) AD nD cD DL∧(L 0 = true→v 144 = .pointer (some ⟨sS,0,none⟩))∧(L 1 = true→v 145 = .agg (uI U))∧(L 2 = true→v 146 = .pointer (some ⟨sS,8,none⟩))∧(L 3 = true→v 147 = .slice AD nD cD)∧(L 4 = true→v 148 = .pointer (some ⟨Y,5,none⟩))) [144,145,146,147,148] (by kernel_rfl) (by kernel_rfl) (by kernel_rfl) (by kernel_rfl) (by kernel_rfl) (by kernel_rfl) ?h0 ?hst ?hend
    case h0 =>
      intro L h0;have h0 : ∀ i,i < 6→L i = false:=h0;exact ⟨rfl,rfl,gB.drew,⟨fun _=>kM.drew,offF h0 (i:=5) (by decide)⟩,kS.drew,oM.drew,oD.drew,offF h0 (i:=0) (by decide),offF h0 (i:=1) (by decide),offF h0 (i:=2) (by decide),offF h0 (i:=3) (by decide),offF h0 (i:=4) (by decide)⟩
    case hst =>
      show FactSteps _ _ _ _ [0,1,2,3,4,5]
      refine @FactSteps.cons _ _ _ _ 0 _ [] _ rfl (by kernel_rfl) ?s0 ?_;rotate_left;refine @FactSteps.cons _ _ _ _ 1 _ [0] _ rfl (by kernel_rfl) ?s1 ?_;rotate_left;refine @FactSteps.cons _ _ _ _ 2 _ [] _ rfl (by kernel_rfl) ?s2 ?_;rotate_left;refine @FactSteps.cons _ _ _ _ 3 _ [2] _ rfl (by kernel_rfl) ?s3 ?_;rotate_left;refine @FactSteps.cons _ _ _ _ 4 _ [0,1] _ rfl (by kernel_rfl) ?s4 ?_;rotate_left;refine @FactSteps.cons _ _ _ _ 5 _ [4,1,0,1] _ rfl (by kernel_rfl) ?s5 ?_;rotate_left;exact FactSteps.nil
      case s0 =>
        rintro L a v w hv hg hL hd hcl ⟨e13,e8,gB,kA,kS,oM,oD,f0,f1,f2,f3,f4⟩ K hK;refine step_do rfl ?_;clear hv;go_simp;exact hK.out _ _ ⟨e13,e8,gB,kA,kS,oM,oD,fun _=>rfl,f1,f2,f3,f4⟩
      case s1 =>
        rintro L a v w hv hg hL hd hcl ⟨e13,e8,gB,kA,kS,oM,oD,f0,f1,f2,f3,f4⟩ K hK;have g0:=f0 (hd 0 (by decide));refine step_do rfl ?_;refine wp_ldm row8 (.tmp 144) rfl ((hv 144).trans g0) (uc_range kS) (by rw [List.length_map];exact HU.out) ?_;exact hK.out _ _ ⟨e13,e8,gB,kA,kS,oM,oD,f0,fun _=>rfl,f2,f3,f4⟩
      case s2 =>
        rintro L a v w hv hg hL hd hcl ⟨e13,e8,gB,kA,kS,oM,oD,f0,f1,f2,f3,f4⟩ K hK;refine step_do rfl ?_;clear hv;go_simp;exact hK.out _ _ ⟨e13,e8,gB,kA,kS,oM,oD,f0,f1,fun _=>rfl,f3,f4⟩
      case s3 =>
        rintro L a v w hv hg hL hd hcl ⟨e13,e8,gB,kA,kS,oM,oD,f0,f1,f2,f3,f4⟩ K hK;have g2:=f2 (hd 2 (by decide));have cs : w.cell? ⟨sS,8,none⟩ = some (.slice AD nD cD):=(kS.cell 8).trans (uc_last HU.out _);refine step_do rfl ?_;clear hv;go_simp;exact hK.out _ _ ⟨e13,e8,gB,kA,kS,oM,oD,f0,f1,f2,fun _=>rfl,f4⟩
      case s4 =>
        rintro L a v w hv hg hL hd hcl ⟨e13,e8,gB,kA,kS,oM,oD,f0,f1,f2,f3,f4⟩ K hK;have g0:=f0 (hd 0 (by decide));refine step_do rfl ?_;clear hv;go_simp;exact hK.out _ _ ⟨e13,e8,gB,kA,kS,oM,oD,f0,f1,f2,f3,fun _=>rfl⟩
      case s5 =>
        rintro L a v w hv hg hL hd hcl ⟨e13,e8,gB,kA,kS,oM,oD,f0,f1,f2,f3,f4⟩ K hK;have g4:=f4 (hd 4 (by decide));have g1:=f1 (hd 1 (by decide));have kk:=kA.1 hL;refine step_do rfl ?_;refine wp_str row8 (.tmp 148) (.tmp 145) rfl ((hv 148).trans g4) ((hv 145).trans g1) (kk.thereM (o:=5) (n:=8) (by rw [mgc_size];omega)) (by rw [uI_size];exact HU.out) (uI_one U) ?_;have gx:=cells_grownM w Y 5 (uI U).toList;have k2:=mgc_setu m sN sN (.slice A3 m.mem.length c3) HU.out kk
        have k2 : Blk (w.setCells Y 5 (uI U).toList) Y 30 (mgc { m with u:=U } sN sN (.slice A3 m.mem.length c3)):=by rw [uI_list];exact k2
        exact hK.out undef _ ⟨e13,e8,(gB.grown gx (Nat.le_trans (Nat.le_refl _) gB.size) (fun q hq=>by injection hq;have:=HY1.out;omega)),⟨fun h=>(by cases h),fun _=>k2⟩,(kS.grown gx (fun h=>by injection h;have:=HYS.out;omega)),(oM.grown gx (.inr (own_ne oM.2 kk (by decide)))),(oD.grown gx (.inr (fun e=>by have:=oD.lt _ e;have:=HYS.out;omega))),f0,f1,f2,f3,f4⟩
    case hend =>
    rintro L v wb hall ⟨e13,e8,gB,kA,kS,oM,oD,f0,f1,f2,f3,f4⟩;have hL : ∀ i,i < 6→L i = true:=hall;have f0:=f0 (hL 0 (by decide));have f1:=f1 (hL 1 (by decide));have f2:=f2 (hL 2 (by decide));have f3:=f3 (hL 3 (by decide));have f4:=f4 (hL 4 (by decide))
    simp only [finA,List.foldl_cons,List.foldl_nil,Act.put,List.setIfInBounds_toArray,List.set_cons_succ,List.set_cons_zero,f0,f2,f3,f4,f1]
    have kb:=kA.2 (hL 5 (by decide));clear e13 e8 f0 f1 f2 f3 f4 hL hall kA kM
    show wpList _ _ _ [_,_] _ _
    have c13 : wb.cell? ⟨Y,13,none⟩ = some sN:=kb.cell 13;have u13:=kb.free 13;have hlb:=kb.lt;have kc:=kb.set_ 13 (.slice AD nD cD);have oM:=oM.setFar (p:=⟨Y,13,none⟩) (own_ne oM.2 kb (by decide)) (.slice AD nD cD);have oD:=oD.setFar (p:=⟨Y,13,none⟩) (fun e=>by have h9:=(oD.lt _ e).1;have h8 : Y + 1≤Y:=h9;omega) (.slice AD nD cD);have gB:=gB.setCell (p:=⟨Y,13,none⟩) HY1.out (.slice AD nD cD);obtain ⟨wc,hwc⟩ : ∃ wc,wc = wb.setCell ⟨Y,13,none⟩ (.slice AD nD cD):=⟨_,rfl⟩;rw [← hwc] at kc oM oD gB;have HWC:=Lib.hid hwc;obtain ⟨x,hx⟩ : ∃ x : MgV,x = ⟨{ m with u:=U,more:=DL },AD,nD,cD,[],none,0,0,A3,m.mem.length,c3⟩:=⟨_,rfl⟩
    have kx : Blk wc Y 30 x.cs:=by rw [hx];exact kc
    have ox : MgOwn wc w1.heap.size x:=by
      rw [hx];exact ⟨HU.out,HWU.out,oD.mono (by have:=HY1.out;omega),OwnEv.nil _ _,fun y hy=>by simp at hy,HF.out.2.2.1,oM⟩
    have HPX2:=Lib.hid (show Ms.partE m r = .ok x.m by rw [HPX.out,hx])
    have hx2 : x.n2≤10000000000000:=by rw [hx];exact Nat.zero_le _
    have hx3 : x.n3≤maxLen:=by rw [hx];have:=HF.out.2.2.2.1;unfold maxLen;show m.mem.length≤_;omega
    clear kc oM oD hwc hx kS kb
    (try clear cE)
    (try clear HI)
    (try clear HK)
    (try clear HKM)
    have HXX:=Lib.hid (And.intro hx2 (And.intro hx3 (And.intro kx (And.intro ox gB))));clear hx2 hx3 kx ox gB HF
    go_upto_region 43 with fail
    rw [← HWC.out];obtain ⟨hx2,hx3,kx,ox,gB⟩:=HXX.out;clear HXX;clear c13 u13 hlb;have HX3:=Lib.hid (And.intro hx2 hx3);clear hx2 hx3
    generalize hC : x.cs = C at kx
    have SC:=Lib.hid (show C.size = 16 by rw [← hC];rfl);have OC:=Lib.hid (show C.all (·.oneCell') = true by rw [← hC];exact x.one);have HCC:=Lib.hid hC;obtain ⟨R,hR⟩ : ∃ R,R = Ms.rightM x.m:=⟨_,rfl⟩
    have HRT:=Lib.hid fun (wq : World) (hox : MgOwn wq w1.heap.size x)=>(show Calls Tryz.prog 30 #[.agg C] wq fun e w'=>e = .returned (.bool R)∧Below wq.heap.size wq w' by rw [← hC,hR];exact rright17_any x wq (hox.mgin HX3.out.1 HX3.out.2))
    have HR:=Lib.hid hR;clear hC hR
    go_wp2_with ((with_reducible refine wpList_ld rowMg kx SC.out ?_ ?_);rotate_left;(rfl))
    refine (HRT.out _ ox).mono ?_;rintro e wd ⟨rfl,bd⟩;have gB:=gB.trans (bd.mono (Nat.le_trans (Nat.le_refl _) gB.size));have kx:=kx.below bd kx.lt;have ox:=ox.below bd;have kz:=KZ.out _ gB;have gb:=GB.out.trans (gB.mono GB.out.size);clear bd HRT
    cases R
    case false =>
      have hgo : G = (Ms.zero,4):=HPO.out _ HPX2.out false HR.out.symm;subst hgo
      go_wp2_with first
        | ((with_reducible refine wpList_st rowMg kz mz_size mz_size mz_one ?_ ?_ ?_);rotate_left;(rfl);(rfl);intro wZ k6 g6 z6)
      exact bodyPost_ret (v:=.tuple #[.agg MZ,.int .i64 (4)]) (results_blk2 rfl rowMg k6 mz_size rfl rfl) rfl ⟨zeroV,rfl,rfl,zeroV_own _ _,gb.grown g6 gb.size (fun q hq=>by injection hq;have:=HGG.out;omega)⟩
    have hgo : G = (x.m,0):=HPO.out _ HPX2.out true HR.out.symm;subst hgo
    go_wp2_with first
      | ((with_reducible refine wpList_ld rowMg kx SC.out ?_ ?_);rotate_left;(rfl))
      | ((with_reducible refine wpList_st rowMg kz SC.out mz_size OC.out ?_ ?_ ?_);rotate_left;(rfl);(rfl);intro wZ k9 g9 z9)
    exact bodyPost_ret (v:=.tuple #[.agg C,.int .i64 0]) (results_blk2 rfl rowMg k9 SC.out rfl rfl) rfl ⟨x,by rw [HCC.out];rfl,rfl,(ox.kept g9 HGW.out).mono GB.out.size,gb.grown g9 gb.size (fun q hq=>by injection hq;have:=HGG.out;omega)⟩
  by_cases hk5 : k = 5
  · subst hk5
    have hst2 : (e = 0∧GH = .ok (m,r))∨(e ≠ 0∧GH = .error e):=by
      rcases hst with ⟨h1,h2⟩ | h
      · exact .inl ⟨h1,by rw [h2,Ms.node_skip (by rw [HKM.out];omega)]⟩
      · exact .inr h
    have HST:=Lib.hid hst2;clear hst hst2
    go_upto_region 27 with fail
    have cE:=S.rd.err;have hst:=HST.out;clear HST
    rcases hst with ⟨rfl,hst⟩ | ⟨hne,hE⟩
    rotate_left
    · have hq : (((e : Nat) : Int) != 0) = true:=by rw [bne_iff_ne];exact_mod_cast hne
      have hgo:=HHE.out e hE;have kz:=KZ.out _ S.gB;have gb:=GB.out.trans (S.gB.mono GB.out.size);subst hgo;clear S hne hE c0
      go_upto_region 28 with fail
      refine wp_region_facts (fun L v w=>v 7 = .pointer (some ⟨gR,0,none⟩)∧v 2 = .pointer (some ⟨g,0,none⟩)∧Below w0.heap.size w0 w∧Blk w g 30 MZ∧w.cell? ⟨gR,2,none⟩ = some (.int .i64 (e : Nat))∧(L 0 = true→v 116 = .agg MZ)∧(L 1 = true→v 117 = .pointer (some ⟨gR,0,none⟩))∧(L 2 = true→v 118 = .pointer (some ⟨gR,0,none⟩))∧(L 3 = true→v 119 = .pointer (some ⟨gR,2,none⟩))∧(L 4 = true→v 120 = .int .i64 (e : Nat))∧(L 6 = true→v 3 = .int .i64 (e : Nat))) [116,117,118,119,120,3] (by kernel_rfl) (by kernel_rfl) (by kernel_rfl) (by kernel_rfl) ?h0 ?hst ?hend
      case h0 =>
        intro L h0;have h0 : ∀ i,i < 7→L i = false:=h0;exact ⟨rfl,rfl,gb.drew,kz.drew,cE,offF h0 (i:=0) (by decide),offF h0 (i:=1) (by decide),offF h0 (i:=2) (by decide),offF h0 (i:=3) (by decide),offF h0 (i:=4) (by decide),offF h0 (i:=6) (by decide)⟩
      case hst =>
        show FactSteps _ _ _ _ [0,1,2,3,4,5,6]
        refine @FactSteps.cons _ _ _ _ 0 _ [] _ rfl (by kernel_rfl) ?q4_0 ?_;rotate_left;refine @FactSteps.cons _ _ _ _ 1 _ [] _ rfl (by kernel_rfl) ?q4_1 ?_;rotate_left;refine @FactSteps.cons _ _ _ _ 2 _ [1] _ rfl (by kernel_rfl) ?q4_2 ?_;rotate_left;refine @FactSteps.cons _ _ _ _ 3 _ [2] _ rfl (by kernel_rfl) ?q4_3 ?_;rotate_left;refine @FactSteps.cons _ _ _ _ 4 _ [3] _ rfl (by kernel_rfl) ?q4_4 ?_;rotate_left;refine @FactSteps.cons _ _ _ _ 5 _ [0,0] _ rfl (by kernel_rfl) ?q4_5 ?_;rotate_left;refine @FactSteps.cons _ _ _ _ 6 _ [4,5,0,1,2,3,4,5] _ rfl (by kernel_rfl) ?q4_6 ?_;rotate_left;exact FactSteps.nil
        case q4_0 =>
          rintro L a v w hv hg hL hd hcl ⟨e7,e2,gb,kz,rE,f0,f1,f2,f3,f4,f6⟩ K hK;refine step_do rfl ?_;refine wp_bdM (v:=.agg MZ) (w':=w) 30 #[] rfl ?_ ?_
          · simp only [List.map_toArray,List.map_nil];exact HBD.out _
          exact hK.out _ _ ⟨e7,e2,gb,kz,rE,fun _=>rfl,f1,f2,f3,f4,f6⟩
        case q4_1 =>
          rintro L a v w hv hg hL hd hcl ⟨e7,e2,gb,kz,rE,f0,f1,f2,f3,f4,f6⟩ K hK;refine step_do rfl ?_;clear hv;go_simp;exact hK.out _ _ ⟨e7,e2,gb,kz,rE,f0,fun _=>rfl,f2,f3,f4,f6⟩
        case q4_2 =>
          rintro L a v w hv hg hL hd hcl ⟨e7,e2,gb,kz,rE,f0,f1,f2,f3,f4,f6⟩ K hK;have g1:=f1 (hd 1 (by decide));refine step_do rfl ?_;clear hv;go_simp;exact hK.out _ _ ⟨e7,e2,gb,kz,rE,f0,f1,fun _=>rfl,f3,f4,f6⟩
        case q4_3 =>
          rintro L a v w hv hg hL hd hcl ⟨e7,e2,gb,kz,rE,f0,f1,f2,f3,f4,f6⟩ K hK;have g2:=f2 (hd 2 (by decide));refine step_do rfl ?_;clear hv;go_simp;exact hK.out _ _ ⟨e7,e2,gb,kz,rE,f0,f1,f2,fun _=>rfl,f4,f6⟩
        case q4_4 =>
          rintro L a v w hv hg hL hd hcl ⟨e7,e2,gb,kz,rE,f0,f1,f2,f3,f4,f6⟩ K hK;have g3:=f3 (hd 3 (by decide));have cx:=rE;refine step_do rfl ?_;clear hv;go_simp;exact hK.out _ _ ⟨e7,e2,gb,kz,rE,f0,f1,f2,f3,fun _=>rfl,f6⟩
        case q4_5 =>
          rintro L a v w hv hg hL hd hcl ⟨e7,e2,gb,kz,rE,f0,f1,f2,f3,f4,f6⟩ K hK;have g0:=f0 (hd 0 (by decide));refine step_do rfl ?_;refine wp_st (cs:=MZ) rowMg (.tmp 2) (.tmp 116) rfl ((hv 2).trans e2) ((hv 116).trans g0) kz mz_size mz_size mz_one ?_;intro wy ky gy zy;exact hK.out undef _ ⟨e7,e2,(gb.grown gy gb.size (fun q hq=>by injection hq;have:=HGG.out;omega)),ky,(gy.cell rE (fun x=>by injection x with x;exact HYG.out.1 x.symm)),f0,f1,f2,f3,f4,f6⟩
        case q4_6 =>
          rintro L a v w hv hg hL hd hcl ⟨e7,e2,gb,kz,rE,f0,f1,f2,f3,f4,f6⟩ K hK;have g1:=f1 (hd 1 (by decide));have g2:=f2 (hd 2 (by decide));have g3:=f3 (hd 3 (by decide));have g4:=f4 (hd 4 (by decide));refine step_do rfl ?_;clear hv;go_simp;exact hK.out _ _ ⟨e7,e2,gb,kz,rE,f0,f1,f2,f3,f4,fun _=>rfl⟩
      case hend =>
      rintro L v wZ hall ⟨e7,e2,gb,kz,rE,f0,f1,f2,f3,f4,f6⟩;have hL : ∀ i,i < 7→L i = true:=hall;have f0:=f0 (hL 0 (by decide));have f1:=f1 (hL 1 (by decide));have f2:=f2 (hL 2 (by decide));have f3:=f3 (hL 3 (by decide));have f4:=f4 (hL 4 (by decide));have f6:=f6 (hL 6 (by decide))
      simp only [finA,List.foldl_cons,List.foldl_nil,Act.put,List.setIfInBounds_toArray,List.set_cons_succ,List.set_cons_zero,f1,f2,f3,f4,f6,f0]
      clear e7 e2 f0 f1 f2 f3 f4 f6 hL hall;go_wp2_with fail;exact bodyPost_ret (v:=.tuple #[.agg MZ,.int .i64 (e : Nat)]) (results_blk2 rfl rowMg kz mz_size rfl rfl) rfl ⟨zeroV,rfl,rfl,zeroV_own _ _,gb⟩
    have hh : Ms.headE xs = .ok (m,r):=HGH.out ▸ hst;obtain ⟨f1,f2,f3,f4,f5,f6,f7⟩:=Ms.headE_fwd hh;have HF:=Lib.hid (And.intro f2 (And.intro f3 (And.intro f4 (And.intro f5 (And.intro f6 f7)))))
    have hrl : r.length≤4096:=by
      have:=congrArg List.length f1
      rw [List.length_append] at this
      have:=HXL.out
      omega
    have HRL:=Lib.hid hrl;have HPE:=Lib.hid (show ∀ y,Ms.partE m r = .error y→G = (Ms.zero,y) from fun y h=>HGE.out y (Ms.getX_part hh h))
    have HPO:=Lib.hid (show ∀ m',Ms.partE m r = .ok m'→∀ b,Ms.rightM m' = b→G = if b = true then (m',0) else (Ms.zero,4) from fun m' h b hb=>by
      cases b
      · exact HGE.out 4 (by rw [Ms.getX_end hh h,if_neg (by rw [hb];decide)])
      · exact HGO.out m' (by rw [Ms.getX_end hh h,if_pos hb]))
    clear f1 f2 f3 f4 f5 f6 f7 hh hst hrl;obtain ⟨at',hat,hRR,hdr⟩:=S.rd;have c1 : World.cell? _ ⟨gR,1,none⟩ = some (.int .i64 (at' : Nat)):=hRR.cell 1
    have hrn : xs.length - at' = r.length:=by rw [← hdr,List.length_drop]
    have hnc:=HLE.out.1;have hcm:=HLE.out.2
    unfold maxLen at hcm
    have HSS:=Lib.hid S;have HDR:=Lib.hid hdr;have HRN:=Lib.hid hrn;clear S hRR hdr hrn
    go_upto_region 29 with fail
    go_cut [12] from 121 to 126 (fun q wx=>∃ (AL : Option Addr) (cL : Nat),q = .slice AL r.length cL∧RdB wx w1.heap.size AL r.length r∧GSm w1.heap.size w1 wx Y gR A4 xs.length c4 xs m A3 c3 r 0)
    case first =>
      have hhx:=HSS.out.hx.below HSS.out.gB
      by_cases hca : c4 = at'
      · have hxa : at' = xs.length:=by omega
        have hxc : c4 = xs.length:=by omega
        subst hxa hxc
        have hr0 : r = []:=by rw [← HDR.out];exact List.drop_eq_nil_of_le (Nat.le_refl _)
        have HR0:=Lib.hid hr0;clear hhx hr0 hca hnc hat;go_wp2_with fail;go_meet;exact ⟨A4,0,by rw [HR0.out];rfl,by rw [HR0.out];exact RdB.nil _ _ _,HSS.out⟩
      · have hhd:=hhx.drop at'
        rw [HDR.out,HRN.out] at hhd;have HHD:=Lib.hid hhd;clear hhx hhd;go_wp2_with fail;go_meet;exact ⟨_,_,by rw [HRN.out],HHD.out,HSS.out⟩
    case rest =>
    clear HSS HDR HRN c1 c0 hat hnc hcm;obtain ⟨AL,cL,rfl,hRL,S⟩:=hcut;have c0 : World.cell? _ ⟨Y,0,none⟩ = some (.int .i64 (((5 : Nat) : Int))):=(S.y.cell 0).trans (by rw [show (mgc m sN sN (.slice A3 m.mem.length c3))[0]? = some (.int .i64 m.kind) from rfl,HKM.out])
    have H5 : m.kind = 5:=by rw [HKM.out];rfl
    have HH5:=Lib.hid (show m.kind ≠ 4∧m.kind = 5 by omega);have HY1:=Lib.hid S.y1;have hget:=rgetAll07_any AL r.length cL r wc (hRL.more S.bw) (by have:=HRL.out;omega);have HGET:=Lib.hid hget;clear H5 hget;go_wp2_with fail;refine HGET.out.mono ?_;rintro e w9 ⟨AE,nE,cE,ys,rfl,oE,oy,hys,b9⟩;have hYw:=S.y.lt;have S:=S.below b9;obtain ⟨ge,hge⟩ : ∃ ge,ge = (Evt.getAllE r).2:=⟨_,rfl⟩;rw [← hge];have HGE2:=Lib.hid (And.intro hge hys);have oE:=oE.mono (base':=Y + 1) hYw;have HOY:=Lib.hid (show ∀ y ∈ ys,EvOwn w9 (Y + 1) y from fun y hy=>⟨(oy y hy).1,(oy y hy).2.1.mono hYw,(oy y hy).2.2⟩);clear hge hys b9 HGET hRL oy hYw c0
    by_cases hg0 : ge = 0
    rotate_left
    · have hq : (((ge : Nat) : Int) != 0) = true:=by rw [bne_iff_ne];omega
      have hgo : G = (Ms.zero,ge):=HPE.out ge (by unfold Ms.partE;rw [if_neg HH5.out.1,if_pos HH5.out.2,if_neg (by rw [← HGE2.out.1];exact hg0),← HGE2.out.1]);have kz:=KZ.out _ S.gB;have gb:=GB.out.trans (S.gB.mono GB.out.size);subst hgo;clear S oE hg0
      (try clear cE)
      (try clear HI)
      (try clear HK)
      (try clear HKM)
      clear HF HRL
      go_upto_region 41 with fail
      clear hq
      go_wp2_with first
        | ((with_reducible refine wpList_st rowMg kz mz_size mz_size mz_one ?_ ?_ ?_);rotate_left;(rfl);(rfl);intro wZ k6 g6 z6)
      exact bodyPost_ret (v:=.tuple #[.agg MZ,.int .i64 (ge : Nat)]) (results_blk2 rfl rowMg k6 mz_size rfl rfl) rfl ⟨zeroV,rfl,rfl,zeroV_own _ _,gb.grown g6 gb.size (fun q hq=>by injection hq;have:=HGG.out;omega)⟩
    subst hg0;have hqe:=HGE2.out
    have HPX:=Lib.hid (show Ms.partE m r = .ok { m with ev:=ys.map (·.e) } by
      unfold Ms.partE
      rw [if_neg HH5.out.1,if_pos HH5.out.2,if_pos hqe.1.symm,hqe.2])
    have hn2 : nE≤768:=by
      have:=(Ms.getAll_fwd hqe.1.symm).2.2
      rw [← hqe.2,List.length_map] at this;rw [oE.1];exact this
    have HN2:=Lib.hid hn2;have gB:=S.gB;have oM:=S.o;have kM:=S.y;clear hqe hn2 S;have c14 : w9.cell? ⟨Y,14,none⟩ = some sN:=kM.cell 14;have u14:=kM.free 14;have hlb:=kM.lt;have kc:=kM.set_ 14 (.slice AE nE cE);have oM:=oM.setFar (p:=⟨Y,14,none⟩) (own_ne oM.2 kM (by decide)) (.slice AE nE cE);have oE:=oE.far (p:=⟨Y,14,none⟩) (by show Y < Y + 1;omega) (.slice AE nE cE);have gB:=gB.setCell (p:=⟨Y,14,none⟩) HY1.out (.slice AE nE cE)
    have oy : ∀ y ∈ ys,EvOwn (w9.setCell ⟨Y,14,none⟩ (.slice AE nE cE)) (Y + 1) y:=fun y hy=>(HOY.out y hy).far (p:=⟨Y,14,none⟩) (by show Y < Y + 1;omega) _
    obtain ⟨wc,hwc⟩ : ∃ wc,wc = w9.setCell ⟨Y,14,none⟩ (.slice AE nE cE):=⟨_,rfl⟩;rw [← hwc] at kc oM oE gB oy;have HWC:=Lib.hid hwc;obtain ⟨x,hx⟩ : ∃ x : MgV,x = ⟨{ m with ev:=ys.map (·.e) },none,0,0,ys,AE,nE,cE,A3,m.mem.length,c3⟩:=⟨_,rfl⟩
    have kx : Blk wc Y 30 x.cs:=by rw [hx];exact kc
    have ox : MgOwn wc w1.heap.size x:=by
      rw [hx];refine ⟨by rw [show ({ m with ev:=ys.map (·.e) } : Ms.Msg).u = m.u from rfl,HF.out.1];rfl,by show Wf m.u;rw [HF.out.1];exact zeroM_wf,?_,oE.mono (by have:=HY1.out;omega),fun y hy=>⟨(oy y hy).1,(oy y hy).2.1.mono (by have:=HY1.out;omega),(oy y hy).2.2⟩,rfl,oM⟩
      show OwnD wc w1.heap.size none 0 0 m.more
      rw [HF.out.2.1];exact OwnD.nil _ _
    have HPX2:=Lib.hid (show Ms.partE m r = .ok x.m by rw [HPX.out,hx])
    have hx2 : x.n2≤10000000000000:=by rw [hx];have:=HN2.out;show nE≤_;omega
    have hx3 : x.n3≤maxLen:=by rw [hx];have:=HF.out.2.2.2.1;unfold maxLen;show m.mem.length≤_;omega
    clear kc oM oE hwc hx kM oy HOY
    (try clear cE)
    (try clear HI)
    (try clear HK)
    (try clear HKM)
    have HXX:=Lib.hid (And.intro hx2 (And.intro hx3 (And.intro kx (And.intro ox gB))));clear hx2 hx3 kx ox gB HF
    go_upto_region 43 with fail
    rw [← HWC.out];obtain ⟨hx2,hx3,kx,ox,gB⟩:=HXX.out;clear HXX;clear c14 u14 hlb;have HX3:=Lib.hid (And.intro hx2 hx3);clear hx2 hx3
    generalize hC : x.cs = C at kx
    have SC:=Lib.hid (show C.size = 16 by rw [← hC];rfl);have OC:=Lib.hid (show C.all (·.oneCell') = true by rw [← hC];exact x.one);have HCC:=Lib.hid hC;obtain ⟨R,hR⟩ : ∃ R,R = Ms.rightM x.m:=⟨_,rfl⟩
    have HRT:=Lib.hid fun (wq : World) (hox : MgOwn wq w1.heap.size x)=>(show Calls Tryz.prog 30 #[.agg C] wq fun e w'=>e = .returned (.bool R)∧Below wq.heap.size wq w' by rw [← hC,hR];exact rright17_any x wq (hox.mgin HX3.out.1 HX3.out.2))
    have HR:=Lib.hid hR;clear hC hR
    go_wp2_with ((with_reducible refine wpList_ld rowMg kx SC.out ?_ ?_);rotate_left;(rfl))
    refine (HRT.out _ ox).mono ?_;rintro e wd ⟨rfl,bd⟩;have gB:=gB.trans (bd.mono (Nat.le_trans (Nat.le_refl _) gB.size));have kx:=kx.below bd kx.lt;have ox:=ox.below bd;have kz:=KZ.out _ gB;have gb:=GB.out.trans (gB.mono GB.out.size);clear bd HRT
    cases R
    case false =>
      have hgo : G = (Ms.zero,4):=HPO.out _ HPX2.out false HR.out.symm;subst hgo
      go_wp2_with first
        | ((with_reducible refine wpList_st rowMg kz mz_size mz_size mz_one ?_ ?_ ?_);rotate_left;(rfl);(rfl);intro wZ k6 g6 z6)
      exact bodyPost_ret (v:=.tuple #[.agg MZ,.int .i64 (4)]) (results_blk2 rfl rowMg k6 mz_size rfl rfl) rfl ⟨zeroV,rfl,rfl,zeroV_own _ _,gb.grown g6 gb.size (fun q hq=>by injection hq;have:=HGG.out;omega)⟩
    have hgo : G = (x.m,0):=HPO.out _ HPX2.out true HR.out.symm;subst hgo
    go_wp2_with first
      | ((with_reducible refine wpList_ld rowMg kx SC.out ?_ ?_);rotate_left;(rfl))
      | ((with_reducible refine wpList_st rowMg kz SC.out mz_size OC.out ?_ ?_ ?_);rotate_left;(rfl);(rfl);intro wZ k9 g9 z9)
    exact bodyPost_ret (v:=.tuple #[.agg C,.int .i64 0]) (results_blk2 rfl rowMg k9 SC.out rfl rfl) rfl ⟨x,by rw [HCC.out];rfl,rfl,(ox.kept g9 HGW.out).mono GB.out.size,gb.grown g9 gb.size (fun q hq=>by injection hq;have:=HGG.out;omega)⟩
  have q2 : (((k : Nat) : Int) == 2) = false:=by rw [beq_eq_false_iff_ne];omega
  have q3 : (((k : Nat) : Int) == 3) = false:=by rw [beq_eq_false_iff_ne];omega
  have q4 : (((k : Nat) : Int) == 4) = false:=by rw [beq_eq_false_iff_ne];omega
  have q5 : (((k : Nat) : Int) == 5) = false:=by rw [beq_eq_false_iff_ne];omega
  have hst2 : (e = 0∧GH = .ok (m,r))∨(e ≠ 0∧GH = .error e):=by
    rcases hst with ⟨h1,h2⟩ | h
    · exact .inl ⟨h1,by rw [h2,Ms.node_skip (by rw [HKM.out];omega)]⟩
    · exact .inr h
  have HST:=Lib.hid hst2;clear hst hst2
  go_upto_region 27 with fail
  have cE:=S.rd.err;have hst:=HST.out;clear HST
  rcases hst with ⟨rfl,hst⟩ | ⟨hne,hE⟩
  rotate_left
  · have hq : (((e : Nat) : Int) != 0) = true:=by rw [bne_iff_ne];exact_mod_cast hne
    have hgo:=HHE.out e hE;have kz:=KZ.out _ S.gB;have gb:=GB.out.trans (S.gB.mono GB.out.size);subst hgo;clear S hne hE c0
    go_upto_region 28 with fail
    refine wp_region_facts (fun L v w=>v 7 = .pointer (some ⟨gR,0,none⟩)∧v 2 = .pointer (some ⟨g,0,none⟩)∧Below w0.heap.size w0 w∧Blk w g 30 MZ∧w.cell? ⟨gR,2,none⟩ = some (.int .i64 (e : Nat))∧(L 0 = true→v 116 = .agg MZ)∧(L 1 = true→v 117 = .pointer (some ⟨gR,0,none⟩))∧(L 2 = true→v 118 = .pointer (some ⟨gR,0,none⟩))∧(L 3 = true→v 119 = .pointer (some ⟨gR,2,none⟩))∧(L 4 = true→v 120 = .int .i64 (e : Nat))∧(L 6 = true→v 3 = .int .i64 (e : Nat))) [116,117,118,119,120,3] (by kernel_rfl) (by kernel_rfl) (by kernel_rfl) (by kernel_rfl) ?h0 ?hst ?hend
    case h0 =>
      intro L h0;have h0 : ∀ i,i < 7→L i = false:=h0;exact ⟨rfl,rfl,gb.drew,kz.drew,cE,offF h0 (i:=0) (by decide),offF h0 (i:=1) (by decide),offF h0 (i:=2) (by decide),offF h0 (i:=3) (by decide),offF h0 (i:=4) (by decide),offF h0 (i:=6) (by decide)⟩
    case hst =>
      show FactSteps _ _ _ _ [0,1,2,3,4,5,6]
      refine @FactSteps.cons _ _ _ _ 0 _ [] _ rfl (by kernel_rfl) ?q5_0 ?_;rotate_left;refine @FactSteps.cons _ _ _ _ 1 _ [] _ rfl (by kernel_rfl) ?q5_1 ?_;rotate_left;refine @FactSteps.cons _ _ _ _ 2 _ [1] _ rfl (by kernel_rfl) ?q5_2 ?_;rotate_left;refine @FactSteps.cons _ _ _ _ 3 _ [2] _ rfl (by kernel_rfl) ?q5_3 ?_;rotate_left;refine @FactSteps.cons _ _ _ _ 4 _ [3] _ rfl (by kernel_rfl) ?q5_4 ?_;rotate_left;refine @FactSteps.cons _ _ _ _ 5 _ [0,0] _ rfl (by kernel_rfl) ?q5_5 ?_;rotate_left;refine @FactSteps.cons _ _ _ _ 6 _ [4,5,0,1,2,3,4,5] _ rfl (by kernel_rfl) ?q5_6 ?_;rotate_left;exact FactSteps.nil
      case q5_0 =>
        rintro L a v w hv hg hL hd hcl ⟨e7,e2,gb,kz,rE,f0,f1,f2,f3,f4,f6⟩ K hK;refine step_do rfl ?_;refine wp_bdM (v:=.agg MZ) (w':=w) 30 #[] rfl ?_ ?_
        · simp only [List.map_toArray,List.map_nil];exact HBD.out _
        exact hK.out _ _ ⟨e7,e2,gb,kz,rE,fun _=>rfl,f1,f2,f3,f4,f6⟩
      case q5_1 =>
        rintro L a v w hv hg hL hd hcl ⟨e7,e2,gb,kz,rE,f0,f1,f2,f3,f4,f6⟩ K hK;refine step_do rfl ?_;clear hv;go_simp;exact hK.out _ _ ⟨e7,e2,gb,kz,rE,f0,fun _=>rfl,f2,f3,f4,f6⟩
      case q5_2 =>
        rintro L a v w hv hg hL hd hcl ⟨e7,e2,gb,kz,rE,f0,f1,f2,f3,f4,f6⟩ K hK;have g1:=f1 (hd 1 (by decide));refine step_do rfl ?_;clear hv;go_simp;exact hK.out _ _ ⟨e7,e2,gb,kz,rE,f0,f1,fun _=>rfl,f3,f4,f6⟩
      case q5_3 =>
        rintro L a v w hv hg hL hd hcl ⟨e7,e2,gb,kz,rE,f0,f1,f2,f3,f4,f6⟩ K hK;have g2:=f2 (hd 2 (by decide));refine step_do rfl ?_;clear hv;go_simp;exact hK.out _ _ ⟨e7,e2,gb,kz,rE,f0,f1,f2,fun _=>rfl,f4,f6⟩
      case q5_4 =>
        rintro L a v w hv hg hL hd hcl ⟨e7,e2,gb,kz,rE,f0,f1,f2,f3,f4,f6⟩ K hK;have g3:=f3 (hd 3 (by decide));have cx:=rE;refine step_do rfl ?_;clear hv;go_simp;exact hK.out _ _ ⟨e7,e2,gb,kz,rE,f0,f1,f2,f3,fun _=>rfl,f6⟩
      case q5_5 =>
        rintro L a v w hv hg hL hd hcl ⟨e7,e2,gb,kz,rE,f0,f1,f2,f3,f4,f6⟩ K hK;have g0:=f0 (hd 0 (by decide));refine step_do rfl ?_;refine wp_st (cs:=MZ) rowMg (.tmp 2) (.tmp 116) rfl ((hv 2).trans e2) ((hv 116).trans g0) kz mz_size mz_size mz_one ?_;intro wy ky gy zy;exact hK.out undef _ ⟨e7,e2,(gb.grown gy gb.size (fun q hq=>by injection hq;have:=HGG.out;omega)),ky,(gy.cell rE (fun x=>by injection x with x;exact HYG.out.1 x.symm)),f0,f1,f2,f3,f4,f6⟩
      case q5_6 =>
        rintro L a v w hv hg hL hd hcl ⟨e7,e2,gb,kz,rE,f0,f1,f2,f3,f4,f6⟩ K hK;have g1:=f1 (hd 1 (by decide));have g2:=f2 (hd 2 (by decide));have g3:=f3 (hd 3 (by decide));have g4:=f4 (hd 4 (by decide));refine step_do rfl ?_;clear hv;go_simp;exact hK.out _ _ ⟨e7,e2,gb,kz,rE,f0,f1,f2,f3,f4,fun _=>rfl⟩
    case hend =>
    rintro L v wZ hall ⟨e7,e2,gb,kz,rE,f0,f1,f2,f3,f4,f6⟩;have hL : ∀ i,i < 7→L i = true:=hall;have f0:=f0 (hL 0 (by decide));have f1:=f1 (hL 1 (by decide));have f2:=f2 (hL 2 (by decide));have f3:=f3 (hL 3 (by decide));have f4:=f4 (hL 4 (by decide));have f6:=f6 (hL 6 (by decide))
    simp only [finA,List.foldl_cons,List.foldl_nil,Act.put,List.setIfInBounds_toArray,List.set_cons_succ,List.set_cons_zero,f1,f2,f3,f4,f6,f0]
    clear e7 e2 f0 f1 f2 f3 f4 f6 hL hall;go_wp2_with fail;exact bodyPost_ret (v:=.tuple #[.agg MZ,.int .i64 (e : Nat)]) (results_blk2 rfl rowMg kz mz_size rfl rfl) rfl ⟨zeroV,rfl,rfl,zeroV_own _ _,gb⟩
  have hh : Ms.headE xs = .ok (m,r):=HGH.out ▸ hst;obtain ⟨f1,f2,f3,f4,f5,f6,f7⟩:=Ms.headE_fwd hh;have HF:=Lib.hid (And.intro f2 (And.intro f3 (And.intro f4 (And.intro f5 (And.intro f6 f7)))))
  have hrl : r.length≤4096:=by
    have:=congrArg List.length f1
    rw [List.length_append] at this
    have:=HXL.out
    omega
  have HRL:=Lib.hid hrl;have HPE:=Lib.hid (show ∀ y,Ms.partE m r = .error y→G = (Ms.zero,y) from fun y h=>HGE.out y (Ms.getX_part hh h))
  have HPO:=Lib.hid (show ∀ m',Ms.partE m r = .ok m'→∀ b,Ms.rightM m' = b→G = if b = true then (m',0) else (Ms.zero,4) from fun m' h b hb=>by
    cases b
    · exact HGE.out 4 (by rw [Ms.getX_end hh h,if_neg (by rw [hb];decide)])
    · exact HGO.out m' (by rw [Ms.getX_end hh h,if_pos hb]))
  clear f1 f2 f3 f4 f5 f6 f7 hh hst hrl;obtain ⟨at',hat,hRR,hdr⟩:=S.rd;have c1 : World.cell? _ ⟨gR,1,none⟩ = some (.int .i64 (at' : Nat)):=hRR.cell 1
  have hrn : xs.length - at' = r.length:=by rw [← hdr,List.length_drop]
  have hnc:=HLE.out.1;have hcm:=HLE.out.2
  unfold maxLen at hcm
  have HSS:=Lib.hid S;have HDR:=Lib.hid hdr;have HRN:=Lib.hid hrn;clear S hRR hdr hrn
  go_upto_region 29 with fail
  go_cut [12] from 121 to 126 (fun q wx=>∃ (AL : Option Addr) (cL : Nat),q = .slice AL r.length cL∧RdB wx w1.heap.size AL r.length r∧GSm w1.heap.size w1 wx Y gR A4 xs.length c4 xs m A3 c3 r 0)
  case first =>
    have hhx:=HSS.out.hx.below HSS.out.gB
    by_cases hca : c4 = at'
    · have hxa : at' = xs.length:=by omega
      have hxc : c4 = xs.length:=by omega
      subst hxa hxc
      have hr0 : r = []:=by rw [← HDR.out];exact List.drop_eq_nil_of_le (Nat.le_refl _)
      have HR0:=Lib.hid hr0;clear hhx hr0 hca hnc hat;go_wp2_with fail;go_meet;exact ⟨A4,0,by rw [HR0.out];rfl,by rw [HR0.out];exact RdB.nil _ _ _,HSS.out⟩
    · have hhd:=hhx.drop at'
      rw [HDR.out,HRN.out] at hhd;have HHD:=Lib.hid hhd;clear hhx hhd;go_wp2_with fail;go_meet;exact ⟨_,_,by rw [HRN.out],HHD.out,HSS.out⟩
  case rest =>
  clear HSS HDR HRN c1 c0 hat hnc hcm;obtain ⟨AL,cL,rfl,hRL,S⟩:=hcut;have c0 : World.cell? _ ⟨Y,0,none⟩ = some (.int .i64 ((k : Nat))):=(S.y.cell 0).trans (by rw [show (mgc m sN sN (.slice A3 m.mem.length c3))[0]? = some (.int .i64 m.kind) from rfl,HKM.out])
  have hk4' : m.kind ≠ 4:=by rw [HKM.out];omega
  have hk5' : m.kind ≠ 5:=by rw [HKM.out];omega
  by_cases hr : r = []
  rotate_left
  · have hlr : 0 < r.length:=List.length_pos_iff.2 hr
    have hlr' : (0 : Int) < (r.length : Int):=by omega
    have hgo : G = (Ms.zero,4):=HPE.out 4 (by unfold Ms.partE;rw [if_neg hk4',if_neg hk5',if_neg hr]);have kz:=KZ.out _ S.gB;have gb:=GB.out.trans (S.gB.mono GB.out.size);subst hgo
    generalize r.length = lr at *
    clear S hr hRL hlr hk4' hk5'
    (try clear cE)
    (try clear HI)
    (try clear HK)
    (try clear HKM)
    clear HF HRL
    go_upto_region 32 with fail
    clear c0 hlr'
    go_wp2_with first
      | ((with_reducible refine wpList_st rowMg kz mz_size mz_size mz_one ?_ ?_ ?_);rotate_left;(rfl);(rfl);intro wZ k6 g6 z6)
    exact bodyPost_ret (v:=.tuple #[.agg MZ,.int .i64 (4)]) (results_blk2 rfl rowMg k6 mz_size rfl rfl) rfl ⟨zeroV,rfl,rfl,zeroV_own _ _,gb.grown g6 gb.size (fun q hq=>by injection hq;have:=HGG.out;omega)⟩
  have hlr : ¬ (0 : Int) < (r.length : Int):=by rw [hr];simp
  have HS0:=Lib.hid (And.intro S (And.intro HF.out HKM.out));have HPX2:=Lib.hid (show Ms.partE m r = .ok m by unfold Ms.partE;rw [if_neg hk4',if_neg hk5',if_pos hr]);clear S hRL hr hk4' hk5' HF HRL HKM
  (try clear cE)
  (try clear HI)
  (try clear HK)
  generalize hrl : r.length = lr at *
  go_upto_region 43 with fail
  clear hlr c0 hrl;obtain ⟨x,hx⟩ : ∃ x : MgV,x = ⟨m,none,0,0,[],none,0,0,A3,m.mem.length,c3⟩:=⟨_,rfl⟩;have HPX2:=Lib.hid (show Ms.partE m r = .ok x.m by rw [HPX2.out,hx]);obtain ⟨S,HF,-⟩:=HS0.out
  have kx : Blk wc Y 30 x.cs:=by rw [hx];exact S.y
  have ox : MgOwn wc w1.heap.size x:=by
    rw [hx];refine ⟨by show m.u.length = 8;rw [HF.1];rfl,by show Wf m.u;rw [HF.1];exact zeroM_wf,?_,OwnEv.nil _ _,fun y hy=>by simp at hy,HF.2.2.1,S.o⟩
    show OwnD wc w1.heap.size none 0 0 m.more
    rw [HF.2.1];exact OwnD.nil _ _
  have hx2 : x.n2≤10000000000000:=by rw [hx];exact Nat.zero_le _
  have hx3 : x.n3≤maxLen:=by rw [hx];have:=HF.2.2.2.1;unfold maxLen;show m.mem.length≤_;omega
  have gB:=S.gB;clear S HF HS0 hx;have HX3:=Lib.hid (And.intro hx2 hx3);clear hx2 hx3
  generalize hC : x.cs = C at kx
  have SC:=Lib.hid (show C.size = 16 by rw [← hC];rfl);have OC:=Lib.hid (show C.all (·.oneCell') = true by rw [← hC];exact x.one);have HCC:=Lib.hid hC;obtain ⟨R,hR⟩ : ∃ R,R = Ms.rightM x.m:=⟨_,rfl⟩
  have HRT:=Lib.hid fun (wq : World) (hox : MgOwn wq w1.heap.size x)=>(show Calls Tryz.prog 30 #[.agg C] wq fun e w'=>e = .returned (.bool R)∧Below wq.heap.size wq w' by rw [← hC,hR];exact rright17_any x wq (hox.mgin HX3.out.1 HX3.out.2))
  have HR:=Lib.hid hR;clear hC hR
  go_wp2_with ((with_reducible refine wpList_ld rowMg kx SC.out ?_ ?_);rotate_left;(rfl))
  refine (HRT.out _ ox).mono ?_;rintro e wd ⟨rfl,bd⟩;have gB:=gB.trans (bd.mono (Nat.le_trans (Nat.le_refl _) gB.size));have kx:=kx.below bd kx.lt;have ox:=ox.below bd;have kz:=KZ.out _ gB;have gb:=GB.out.trans (gB.mono GB.out.size);clear bd HRT
  cases R
  case false =>
    have hgo : G = (Ms.zero,4):=HPO.out _ HPX2.out false HR.out.symm;subst hgo
    go_wp2_with first
      | ((with_reducible refine wpList_st rowMg kz mz_size mz_size mz_one ?_ ?_ ?_);rotate_left;(rfl);(rfl);intro wZ k6 g6 z6)
    exact bodyPost_ret (v:=.tuple #[.agg MZ,.int .i64 (4)]) (results_blk2 rfl rowMg k6 mz_size rfl rfl) rfl ⟨zeroV,rfl,rfl,zeroV_own _ _,gb.grown g6 gb.size (fun q hq=>by injection hq;have:=HGG.out;omega)⟩
  have hgo : G = (x.m,0):=HPO.out _ HPX2.out true HR.out.symm;subst hgo
  go_wp2_with first
    | ((with_reducible refine wpList_ld rowMg kx SC.out ?_ ?_);rotate_left;(rfl))
    | ((with_reducible refine wpList_st rowMg kz SC.out mz_size OC.out ?_ ?_ ?_);rotate_left;(rfl);(rfl);intro wZ k9 g9 z9)
  exact bodyPost_ret (v:=.tuple #[.agg C,.int .i64 0]) (results_blk2 rfl rowMg k9 SC.out rfl rfl) rfl ⟨x,by rw [HCC.out];rfl,rfl,(ox.kept g9 HGW.out).mono GB.out.size,gb.grown g9 gb.size (fun q hq=>by injection hq;have:=HGG.out;omega)⟩
end Go.Proofs.YtcgalmnllegnbaaGreat

namespace Go.Proofs.YtcgalmnllegnbaaGreat
set_option linter.unusedVariables false
set_option linter.unusedSimpArgs false
set_option maxRecDepth 100000
open Go.RowKit
open Dot Evt
open Ms (Mem)
def bareV (m : Ms.Msg) : MgV:=⟨m,none,0,0,[],none,0,0,none,0,0⟩
def exM : Ms.Msg:=⟨1,1,2,5,0,[0,0,0,0,0,0,0,0],[],[],[]⟩
abbrev cM : Array Value:=#[.int .i64 1,.int .i64 1,.int .i64 2,.int .i64 5,.int .i64 0,.int .i64 0,.int .i64 0,.int .i64 0,.int .i64 0,.int .i64 0,.int .i64 0,.int .i64 0,.int .i64 0,.slice none 0 0,.slice none 0 0,.slice none 0 0]
abbrev cZ : Array Value:=#[.int .i64 0,.int .i64 0,.int .i64 0,.int .i64 0,.int .i64 0,.int .i64 0,.int .i64 0,.int .i64 0,.int .i64 0,.int .i64 0,.int .i64 0,.int .i64 0,.int .i64 0,.slice none 0 0,.slice none 0 0,.slice none 0 0]
theorem cM_eq : (bareV exM).cs = cM:=rfl
theorem cZ_eq : (bareV Ms.zero).cs = cZ:=rfl
theorem cM_size : cM.size = 16:=rfl
theorem cM_one : cM.all (·.oneCell') = true:=by kernel_rfl
theorem exM_right : Ms.rightM exM = true:=by decide +kernel
theorem zeroM_right : Ms.rightM Ms.zero = false:=by decide +kernel
theorem exM_body : Ms.bodyM exM = [1,1,2,0,5]:=by decide +kernel
theorem exM_put : Ms.putM exM = (Frame.frm [1,1,2,0,5],0):=by
  unfold Ms.putM
  rw [if_pos exM_right,exM_body,if_pos (by decide)]
theorem bare_in (m : Ms.Msg) (w : World) (hu : m.u.length = 8) (h1 : m.more = []) (h2 : m.ev = []) (h3 : m.mem = []) (wu : Wf m.u) : MgIn w (bareV m) :=
  ⟨⟨hu,by show RdD w _ none 0 m.more;rw [h1];exact RdD.nil _ _ _,RowEv.nil _ _ _,h2,by show RdMb w _ none 0 m.mem;rw [h3];exact RdMb.nil _ _ _⟩,wu,by show 0≤_;omega,by show 0≤_;omega⟩
theorem wf_zeros {l : List Int} (h : ∀ y ∈ l,y = 0) : Wf l:=fun y hy=>by rw [h y hy];exact wf_of (by omega) (by omega)
theorem frm5_get (A : Option Addr) (n c B : Nat) (w : World) (hb : RdB w B A n (Frame.frm [1,1,2,0,5])) (hB : B≤w.heap.size) (hl : n≤140737488355000) (hc : n≤c) (hm : c≤maxLen) :
    Calls Tryz.prog 13 #[.slice A n c] w fun e w'=>Below w.heap.size w w'∧∃ A1 c1 A2 c2,e = .returned (.tuple #[.slice A1 5 c1,.slice A2 0 c2,.int .i64 0])∧OwnB w' w.heap.size A1 5 c1 [1,1,2,0,5] :=
  (Frame.get_any A n c _ B w hb hB hl hc hm).mono (by
    rintro e w' ⟨h1,h2⟩
    have hd : Frame.dec (Frame.frm [1,1,2,0,5]) = .ok ([1,1,2,0,5],[]):=by
      have:=Frame.dec_frm (b:=[1,1,2,0,5]) (by decide) []
      rwa [List.append_nil] at this
    rw [hd] at h2;obtain ⟨A1,c1,A2,c2,he,o1,_⟩:=h2
    exact ⟨h1,A1,c1,A2,c2,he,o1⟩)
set_option maxHeartbeats 2000000 in
theorem alive17 (w : World) : Calls Tryz.prog 5 #[] w fun e w'=>e = .returned (.bool true)∧Below w.heap.size w w':=by
  have hp:=fun w'=>mput_any (bareV exM) w' (bare_in exM w' rfl rfl rfl rfl (wf_zeros (by simp [exM])))
  have hr:=fun w'=>mright_any (bareV exM) w' (bare_in exM w' rfl rfl rfl rfl (wf_zeros (by simp [exM])))
  have hz:=fun w'=>mright_any (bareV Ms.zero) w' (bare_in Ms.zero w' rfl rfl rfl rfl (wf_zeros (by simp [Ms.zero])))
  rw [cM_eq] at hp hr;rw [cZ_eq] at hz;rw [show (bareV exM).m = exM from rfl,exM_put] at hp;rw [show (bareV exM).m = exM from rfl,exM_right] at hr;rw [show (bareV Ms.zero).m = Ms.zero from rfl,zeroM_right] at hz;have HP:=Lib.hid hp;have HR:=Lib.hid hr;have HZ:=Lib.hid hz;clear hp hr hz
  go_enter Tryz.func5,Tryz.ntmps5
  go_upto_region 2 with ((with_reducible refine wpList_st (cs:=cM) rowMg (Blk.new _ _ _) cM_size ?_ cM_one ?_ ?_ ?_);(rfl);rotate_left;(rfl);(rfl);intro w1 kb g1 z1)
  have gb : Below w.heap.size w w1:=new_below g1;obtain ⟨g,hg⟩ : ∃ g,g = w.heap.size:=⟨_,rfl⟩;rw [← hg] at kb ⊢;clear g1 z1
  go_wp2_with ((with_reducible refine wpList_ld rowMg kb cM_size ?_ ?_);rotate_left;(rfl))
  refine (HP.out w1).mono ?_;rintro e w2 ⟨A2,n2,c2,rfl,o2,b2⟩;have kb:=kb.below b2 kb.lt;rw [hg] at *;have gb:=gb.trans (b2.mono gb.size);have hle:=ownsRow_le o2.2
  have hn2 : n2≤100:=by
    have:=o2.1
    rw [Frame.frm_length] at this;have h2:=Vint.enc_length ([1,1,2,0,5] : List UInt8).length
    simp at this h2
    omega
  have HO:=Lib.hid o2;clear o2 b2;go_wp2_with fail;refine (frm5_get A2 n2 c2 w2.heap.size w2 HO.out.rd (Nat.le_refl _) (by omega) hle.1 hle.2).mono ?_;rintro e w3 ⟨b3,A3,c3,A4,c4,rfl,o3⟩;have kb:=kb.below b3 kb.lt;have gb:=gb.trans (b3.mono gb.size);have HO3:=Lib.hid o3;clear o3 b3 HO hle;go_wp2_with fail;have ba : Below w3.heap.size w3 (w3.alloc (.cells #[.int .u8 1,.int .u8 1,.int .u8 2,.int .u8 0,.int .u8 5] 5)):=(Below.refl _ _).alloc (Nat.le_refl _) _;refine (same_eq A3 _ 5 c3 5 _ [1,1,2,0,5] w3.heap.size _ _ (HO3.out.rd.below ba) (RdB.made w3 [1,1,2,0,5] _ _ _ (by kernel_rfl)) (by decide)).mono ?_;rintro e w4 ⟨rfl,m4,rfl⟩;have kb:=kb.below (below_drewN ba m4) kb.lt;have gb:=gb.trans ((below_drewN ba m4).mono gb.size)
  generalize (w3.alloc (.cells #[.int .u8 1,.int .u8 1,.int .u8 2,.int .u8 0,.int .u8 5] 5)).drewN m4 = w4 at *
  clear ba HO3
  go_wp2_with ((with_reducible refine wpList_ldg rowMg kb cM_size ?_ ?_ ?_);rotate_left;(rfl);(rfl))
  refine (HR.out _).mono ?_;rintro e w5 ⟨rfl,b5⟩;have gb:=gb.trans (b5.mono gb.size);clear b5 kb;go_wp2_with fail;refine (HZ.out _).mono ?_;rintro e w6 ⟨rfl,b6⟩;have gb:=gb.trans (b6.mono gb.size);go_wp2_with fail;go_ret;exact ⟨rfl,gb⟩
end Go.Proofs.YtcgalmnllegnbaaGreat

namespace Go.Proofs.YtcgalmnllegnbaaGreat
set_option linter.unusedVariables false
set_option linter.unusedSimpArgs false
open Go.ChangeShapes Go.WideShapes Go.ChangeAt Go.RowKit
theorem own : ownKnob Tryz.prog.godebug = none:=by kernel_rfl
theorem laidOut : laidOutB Tryz.prog = true:=by kernel_rfl
theorem rd_bytes {H : Type} {enc : TypeId × Value→H} {W : World} {base : Nat} {sp : Nat→Bool} {held : Bool} {fuel : Nat} {cs : List Value} {x : DataW H × List MemPlace}
    (hf : DataW.trod enc Tryz.prog W base sp held fuel 22 cs = some x) :
    ∃ (a : Option Addr) (n cap : Nat) (bs : List UInt8),cs = [.slice a n cap]∧RdB W W.heap.size a n bs∧n≤cap∧cap≤maxLen:=by
  rcases open_ints Tryz.underlying22 Tryz.underlying5 (by kernel_rfl) hf with ⟨hcs,_⟩ | ⟨x,len0,cap0,zs,hcs,_,hl,hm,hz,_,hcell,hwz⟩
  · exact ⟨_,_,_,[],hcs,RdB.nil _ _ _,Nat.le_refl _,Nat.zero_le _⟩
  · have hz' : len0≤zs.length:=by rw [hz];split <;> omega
    have hlen : ((zs.take len0).map fun z=>UInt8.ofNat z.toNat).length = len0:=by simp;omega
    refine ⟨_,len0,cap0,(zs.take len0).map fun z=>UInt8.ofNat z.toNat,hcs,⟨hlen.symm,?_⟩,hl,hm⟩;intro j u hu
    simp only [List.getElem?_map,List.getElem?_take] at hu
    by_cases hj : j < len0
    · rw [if_pos hj] at hu
      have hjz : j < zs.length:=by omega
      have hw:=hwz zs[j] (List.getElem_mem hjz)
      have hw2 : 0≤zs[j]∧zs[j] < 256:=by
        have hmin : IntKind.u8.min = 0:=rfl;have hmax : IntKind.u8.max = 255:=rfl
        simp only [Lit.wf,Bool.and_eq_true,decide_eq_true_eq] at hw
        omega
      have hcj:=hcell j hjz;rw [List.getD_eq_getElem?_getD,List.getElem?_eq_getElem hjz] at hcj;rw [List.getElem?_eq_getElem hjz] at hu
      simp only [Option.map_some,Option.some.injEq] at hu
      refine ⟨x,rfl,?_,?_⟩
      · have:=World.block_lt_of_cell? W _ hcj
        rwa [block_add] at this
      · rw [hcj,← hu]
        show some (Value.int .u8 zs[j]) = some (Value.int .u8 _)
        have : ((UInt8.ofNat zs[j].toNat).toNat : Int) = zs[j]:=by
          rw [UInt8.toNat_ofNat']
          omega
        rw [this]
    · rw [if_neg hj] at hu;simp at hu
set_option maxRecDepth 100000
theorem open_bytesC {H : Type} {enc : TypeId × Value→H} {W : World} {base : Nat} {sp : Nat→Bool} {held : Bool} {r : Reach} {b0 : Nat} {v : Value} {d : DataW H} {p : List MemPlace}
    (hv : Value.okWide Tryz.prog W r b0 22 v) (h : DataW.Trod enc Tryz.prog W base sp held 22 v d p) :
    ∃ (a : Option Addr) (n cap : Nat) (bs : List UInt8),v = .slice a n cap∧RdB W W.heap.size a n bs∧n≤cap∧cap≤maxLen:=by
  obtain ⟨a0,len0,cap0,rfl⟩:=okWide_slice Tryz.underlying22 hv;obtain ⟨fuel,hf⟩:=h;obtain ⟨a,n,c,bs,h1,h2⟩:=rd_bytes hf
  simp [Value.cells] at h1
  obtain ⟨rfl,rfl,rfl⟩:=h1;exact ⟨_,_,_,bs,rfl,h2⟩
end Go.Proofs.YtcgalmnllegnbaaGreat

namespace Go.Proofs.YtcgalmnllegnbaaGreat.MsgBodies
set_option linter.unusedVariables false
set_option linter.unusedSimpArgs false
set_option maxRecDepth 100000
open Go.ChangeShapes Go.WideShapes Go.ChangeAt Go.RowKit Go.Deep
open Dot Evt
open Ms (Mem)
set_option linter.unusedVariables false
set_option linter.unusedSimpArgs false
set_option maxHeartbeats 4000000 in
theorem walk (A : Option Addr) (n c : Nat) (bs : List UInt8) (w0 : World) (hb : RdB w0 w0.heap.size A n bs) (hnc : n≤c) (hcm : c≤maxLen) :
    Calls Tryz.prog 4 #[.slice A n c] w0 fun e w'=>e = .returned (.bool true)∧Below w0.heap.size w0 w':=by
  have HB:=Lib.hid fun (w' : World) (h : Below w0.heap.size w0 w')=>hb.below h
  have HNB:=Lib.hid hb.1;have HNC:=Lib.hid hnc;have HCM:=Lib.hid hcm
  unfold maxLen at hcm
  clear hb
  go_enter Tryz.func4,Tryz.ntmps4
  go_wp2_with fail;refine (alive17 w0).mono ?_;rintro e w1 ⟨rfl,gb⟩
  by_cases hbig : 4096 < n
  · have hd : decide ((4096 : Int) < (n : Int)) = true:=decide_eq_true (by omega)
    have hbg:=hbig;clear hbig;go_wp2_with fail;refine (Frame.put_long A n c w1 hbg).mono ?_;rintro e w2 ⟨rfl,rfl⟩;clear hbg;go_wp2_with fail;go_ret;exact ⟨rfl,gb⟩
  have HN4:=Lib.hid (show n≤4096 by omega);clear hbig;go_wp2_with fail;refine (Frame.put_ok A n c bs w0.heap.size w1 (HB.out w1 gb) gb.size HN4.out).mono ?_;rintro e w2 ⟨Af,nf,cf,rfl,of,bb⟩;have gb:=gb.trans (bb.mono gb.size);have hle:=ownsRow_le of.2;have HLE:=Lib.hid hle;have HNF:=Lib.hid (show nf≤4103 by rw [of.1];exact frm_len4 (by rw [← HNB.out];exact HN4.out));have HOF:=Lib.hid of;clear bb of hle;go_wp2_with fail;refine (mget_any Af nf cf (Frame.frm bs) w2 HOF.out.rd (by have:=HNF.out;omega) HLE.out.1 HLE.out.2).mono ?_;rintro e w3 ⟨x,rfl,hx,ox,bb⟩;have gb:=gb.trans (bb.mono gb.size);have HOF1:=Lib.hid (HOF.out.below bb (Nat.le_refl _));obtain ⟨E,hE⟩ : ∃ E,E = (Ms.getM (Frame.frm bs)).2:=⟨_,rfl⟩;rw [← hE];have HE:=Lib.hid hE;have HOX:=Lib.hid (And.intro hx ox);have SX:=Lib.hid x.size;have OX:=Lib.hid x.one;obtain ⟨CX,hCX⟩ : ∃ CX,CX = x.cs:=⟨_,rfl⟩;rw [← hCX] at SX OX ⊢;have HCX:=Lib.hid hCX;clear hx ox hE hCX bb
  go_upto_region 7 with ((with_reducible refine wpList_st (cs:=CX) rowMg (Blk.new _ _ _) SX.out ?_ OX.out ?_ ?_ ?_);(rfl);rotate_left;(rfl);(rfl);intro w4 kx g4 z4)
  have bn : Below w3.heap.size w3 w4:=new_below g4;have gb:=gb.trans (bn.mono gb.size);have HOF2:=Lib.hid (HOF1.out.below bn (Nat.le_refl _));obtain ⟨g1,hg1⟩ : ∃ g1,g1 = w3.heap.size:=⟨_,rfl⟩;rw [← hg1] at kx ⊢;clear g4 z4 hg1;go_wp2_with fail;refine (mrget_any Af nf cf (Frame.frm bs) w4 (HOF2.out.rd.size) (by have:=HNF.out;omega) HLE.out.1 HLE.out.2).mono ?_;rintro e w5 ⟨y,rfl,hy,oy,bb⟩;have gb:=gb.trans (bb.mono gb.size);have bn:=bn.trans (bb.mono bn.size);have kx:=kx.below bb kx.lt;rw [← HE.out];have HOY:=Lib.hid (And.intro hy oy);have SY:=Lib.hid y.size;have OY:=Lib.hid y.one;obtain ⟨CY,hCY⟩ : ∃ CY,CY = y.cs:=⟨_,rfl⟩;rw [← hCY] at SY OY ⊢;have HCY:=Lib.hid hCY;clear hy oy hCY bb
  go_upto_region 8 with ((with_reducible refine wpList_st (cs:=CY) rowMg (Blk.new _ _ _) SY.out ?_ OY.out ?_ ?_ ?_);(rfl);rotate_left;(rfl);(rfl);intro w6 ky g6 z6)
  have bn2 : Below w5.heap.size w5 w6:=new_below g6;have gb:=gb.trans (bn2.mono gb.size);have bn:=bn.trans (bn2.mono bn.size);have kx:=kx.below bn2 kx.lt;obtain ⟨g2,hg2⟩ : ∃ g2,g2 = w5.heap.size:=⟨_,rfl⟩;rw [← hg2] at ky ⊢;clear g6 z6 hg2;have hsm:=rsame_two HOX.out.2 HOY.out.2 (HOX.out.1.trans HOY.out.1.symm) (by rw [HOX.out.1];exact getM_small _) bn bn2;rw [← HCX.out,← HCY.out] at hsm;have HSM:=Lib.hid hsm;clear hsm bn bn2
  go_wp2_with first
    | ((with_reducible refine wpList_ld rowMg kx SX.out ?_ ?_);rotate_left;(rfl))
    | ((with_reducible refine wpList_ld rowMg ky SY.out ?_ ?_);rotate_left;(rfl))
  refine HSM.out.mono ?_;rintro e w7 ⟨rfl,bb⟩;have gb:=gb.trans (bb.mono gb.size);clear kx ky HSM;clear bb;go_wp2_with fail;go_ret;exact ⟨rfl,gb⟩
set_option maxRecDepth 100000 in
theorem lifted (os : Os) (started : os.Started) (H : Type) (enc : TypeId × Value→H) :
    ReturnsInHanded {} Tryz.checked os 4 .any (Rows.msgBodiesSpec.pre6 enc Tryz.prog Tryz.f4 Rows.msgBodiesRow.domain false) (Rows.msgBodiesSpec.post enc Tryz.prog Tryz.f4 false true false false):=by
  refine returnsInHanded_of_change (C:=Tryz.checked) own started (by kernel_rfl) Tryz.func4
    (ChangeSpec.witness6 (enc:=enc) (C:=Tryz.checked) false ⟨#[],#[.slice none 0 0],[]⟩ 8 (by kernel_rfl) (by kernel_rfl) (by kernel_rfl) (by kernel_rfl)) ?_
  intro W base args ds gs before hval0 hW hcnd _;have hval : ∀ (j : Nat) t v,Tryz.f4.params[j]? = some t→args[j]? = some v→Value.okWide Tryz.prog W .any base t v:=hval0;have hW':=hW;obtain ⟨p,q,hA0,hV,rfl,hfz,hnd⟩:=hW;have hA : DataW.TrodAll enc Tryz.prog W 0 (fun _=>true) true Tryz.f4.params.toList args.toList ds p:=hA0;rw [Tryz.params4] at hA hval;obtain ⟨v0,vs0,d0,ds0,p0,q0,hargs,rfl,rfl,h0,r0⟩:=trodAll_cons hA;obtain ⟨rfl,rfl,rfl⟩:=trodAll_nil r0
  obtain rfl : args = #[v0]:=by cases args;simp_all
  obtain ⟨rfl,rfl⟩:=trodVars_none hV
  have lt0 : ∀ x ∈ p0,x.block < W.heap.size:=by obtain ⟨m,hm⟩:=h0;exact DataW.trod_lt m _ _ _ hm
  have k0:=h0;obtain ⟨a0,n0,c0,b0,rfl,w0,l0,m0⟩:=open_bytesC (hval 0 22 v0 rfl rfl) h0;clear hA0 hval0
  refine (walk a0 n0 c0 b0 W w0 l0 m0).mono fun e W' ⟨he,bel⟩=>?_
  subst he;exact ⟨_,rfl,_,_,_,[],_,[],hW',trodAll_mk1 (shut_bool Tryz.underlying4 _),(trodAll_cons_mk (Below.trod laidOut (by kernel_rfl) (of_decide_eq_true (by kernel_rfl)) k0 bel lt0) trodAll_mk0),rfl,bel.frame _,fun h=>by cases h⟩
theorem proved : Rows.MsgBodiesSaid :=
  OpenClaim.holds_of_wide 4 Tryz.f4 rfl rfl rfl rfl rfl rfl rfl ⟨rfl,rfl,rfl,rfl,rfl⟩ rfl rfl rfl rfl rfl (by kernel_rfl) Tryz.func4 (by kernel_rfl)
    (of_decide_eq_true (by kernel_rfl)) (by unfold Func.isWrapper;first | (rw [if_pos (by decide +kernel)];kernel_rfl) | (rw [if_neg (by decide +kernel)];exact ⟨rfl,rfl⟩))
    (fun os started H enc _=>lifted os started H enc)
#print axioms proved
