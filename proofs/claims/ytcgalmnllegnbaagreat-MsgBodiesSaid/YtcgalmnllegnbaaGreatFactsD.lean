import Derived.Test.YtcgalmnllegnbaaGreatMsgGetM
import Derived.Test.YtcgalmnllegnbaaGreatFrameMath
import Derived.Test.YtcgalmnllegnbaaGreatEvWput
import Derived.Test.YtcgalmnllegnbaaGreatDotPut
import Derived.Test.YtcgalmnllegnbaaGreatBytes
import Derived.Test.YtcgalmnllegnbaaGreatVintPut
import Derived.Test.YtcgalmnllegnbaaGreatDotCopy
import Derived.Test.YtcgalmnllegnbaaGreatDotMath
import Derived.Lib.SliceRun
import Derived.Test.YtcgalmnllegnbaaGreatRRead
import Derived.Test.YtcgalmnllegnbaaGreatVintRead
import Derived.Test.YtcgalmnllegnbaaGreatMem
import Derived.Test.YtcgalmnllegnbaaGreatEvThrR
import Derived.Test.YtcgalmnllegnbaaGreatEvRight
import Derived.Test.YtcgalmnllegnbaaGreatQuiet
import Derived.Test.YtcgalmnllegnbaaGreatDotHas
import Derived.RegionTactic
import Derived.Deep.RegionHeld
import Derived.Test.YtcgalmnllegnbaaGreatMsgMath
import Derived.Test.YtcgalmnllegnbaaGreatCrcMath
import Derived.Test.YtcgalmnllegnbaaGreatChecked
import Derived.WalkKit
import Derived.Lib.SlBytesConst
import Derived.Test.YtcgalmnllegnbaaGreatStop
import Derived.Test.YtcgalmnllegnbaaGreatDotEq
namespace Go.Proofs.YtcgalmnllegnbaaGreat.Ms
set_option linter.unusedVariables false
set_option linter.unusedSimpArgs false
set_option maxRecDepth 100000
open Dot
open Evt (Ev inB inB_iff)
def tailM (m : Msg) : List UInt8:=if m.kind = 4 then encs (putL m.u m.more) else if m.kind = 5 then Vint.enc m.ev.length ++ m.ev.flatMap encE else []
def bodyM (m : Msg) : List UInt8:=nb (headN m) ++ tailM m
def putM (m : Msg) : List UInt8 × Nat:=if rightM m = true then (if (bodyM m).length≤4096 then (Frame.frm (bodyM m),0) else ([],6)) else ([],2)
theorem headN_eq (m : Msg) : headN m = [m.kind,m.frm,m.to,(m.mem.length : Int)] ++ (m.mem.flatMap fun x=>[x.1,x.2.1,x.2.2]) ++ (if m.kind ≠ 5 then [m.seq] else []) ++ (if m.kind = 2∨m.kind = 3 then [m.node] else []):=rfl
theorem trip_len (l : List Mem) : (l.flatMap fun x : Mem=>[x.1,x.2.1,x.2.2]).length = 3 * l.length:=by
  induction l with
  | nil=>rfl
  | cons a l ih=>rw [List.flatMap_cons,List.length_append,ih,List.length_cons];simp;omega
theorem trip_snoc (l : List Mem) {k : Nat} (h : k < l.length) : ((l.take (k + 1)).flatMap fun x : Mem=>[x.1,x.2.1,x.2.2]) = ((l.take k).flatMap fun x : Mem=>[x.1,x.2.1,x.2.2]) ++ [(l[k]).1,(l[k]).2.1,(l[k]).2.2]:=by
  rw [take_snoc l h,List.flatMap_append]
  simp
theorem headN_len {m : Msg} (h : rightM m = true) : (headN m).length≤30:=by
  have h8:=members_len (right_head h).2.2.2.1;rw [headN_eq]
  simp only [List.length_append,trip_len,List.length_cons,List.length_nil]
  split <;> split <;> simp <;> omega
theorem headN_bd {m : Msg} (h : rightM m = true) : ∀ z ∈ headN m,0≤z∧z≤1099511627776:=by
  obtain ⟨h1,h2,h3,h4,h5,h6,_⟩:=right_head h;have h8:=members_len h4;have hs:=members_small h4
  unfold top at h5
  intro z hz;rw [headN_eq] at hz
  rcases List.mem_append.1 hz with hz | hz
  · rcases List.mem_append.1 hz with hz | hz
    · rcases List.mem_append.1 hz with hz | hz
      · simp at hz
        omega
      · obtain ⟨v,hv,hz⟩:=List.mem_flatMap.1 hz
        have:=hs v hv
        unfold top at this
        simp at hz
        omega
    · split at hz
      · simp at hz;omega
      · simp at hz
  · split at hz
    · simp at hz;omega
    · simp at hz
end Go.Proofs.YtcgalmnllegnbaaGreat.Ms

namespace Go.Proofs.YtcgalmnllegnbaaGreat
set_option linter.unusedVariables false
set_option linter.unusedSimpArgs false
set_option maxRecDepth 100000
open Go.RowKit
theorem same_eq (A1 A2 : Option Addr) (n1 c1 n2 c2 : Nat) (bs : List UInt8) (B1 B2 : Nat) (w : World) (h1 : RdB w B1 A1 n1 bs) (h2 : RdB w B2 A2 n2 bs) (hl : n1≤9223372036854775807) :
    Calls Tryz.prog 14 #[.slice A1 n1 c1,.slice A2 n2 c2] w fun e w'=>e = .returned (.bool true)∧∃ m,w' = w.drewN m:=by
  obtain rfl:=h1.1;obtain rfl:=h2.1
  go_enter Tryz.func14,Tryz.ntmps14
  go_wp2_with fail
  go_loopw [13] (fun i wr=>∃ k m : Nat,k≤bs.length∧i = .int .i64 k∧wr = w.drewN m) (fun i _=>bs.length - (intOf i).toNat)
  case atStart=>exact ⟨0,0,by omega,rfl,rfl⟩
  case round =>
    obtain ⟨k,m,hk,rfl,rfl⟩:=hrel
    by_cases hlt : k < bs.length
    · obtain ⟨a1,rfl,_,hc1⟩:=h1.at_ hlt
      obtain ⟨a2,rfl,_,hc2⟩:=h2.at_ hlt;obtain ⟨x,hx⟩ : ∃ x,x = bs[k]:=⟨_,rfl⟩;rw [← hx] at hc1 hc2;clear hx
      have hq : ((x.toNat : Int) != (x.toNat : Int)) = false:=by simp
      go_wp2_with fail
      go_quiet (fail)
      go_wp2_with fail
      go_roundw
      case rel=>exact ⟨k + 1,_,by omega,by go_num,rfl⟩
      case measure=>simp [intOf];omega
    · go_wp2_with fail
      go_ret;exact ⟨rfl,_,rfl⟩
end Go.Proofs.YtcgalmnllegnbaaGreat

namespace Go.Proofs.YtcgalmnllegnbaaGreat
set_option linter.unusedVariables false
set_option linter.unusedSimpArgs false
set_option maxRecDepth 100000
open Go.RowKit
open Dot
theorem encs_app (a b : List Int) : encs (a ++ b) = encs a ++ encs b:=by unfold encs;rw [List.flatMap_append]
theorem encs_one (x : Int) : encs [x] = Vint.enc x.toNat:=by simp [encs]
theorem encs_two (x y : Int) : encs [x,y] = Vint.enc x.toNat ++ Vint.enc y.toNat:=by simp [encs]
end Go.Proofs.YtcgalmnllegnbaaGreat

namespace Go.Proofs.YtcgalmnllegnbaaGreat
set_option linter.unusedVariables false
set_option linter.unusedSimpArgs false
set_option maxRecDepth 100000
open Go.RowKit
open Dot
theorem OwnD.short {w : World} {base n c : Nat} {A : Option Addr} {l : List Dt} (h : OwnD w base A n c l) {i : Nat} (hi : i≤n) (h0 : 0 < n) : OwnD w base A i c (l.take i):=by
  have hl : l.length = n:=h.1.symm;refine ⟨by rw [List.length_take];omega,?_,?_⟩
  · rw [dcs_len,List.length_take];omega
  · rcases h.2.2 with ⟨_,h1⟩ | ⟨g,cap,cur,hv,hb,hh,hn,hm,hs,hc⟩
    · omega
    · injection hv with h1 h2 h3
      subst h1 h3;refine .inr ⟨g,c,cur,rfl,hb,hh,by omega,hm,hs,?_⟩;have e : l = l.take i ++ l.drop i:=(List.take_append_drop i l).symm
      have h4 : dcs l = dcs (l.take i) ++ dcs (l.drop i):=by rw [← dcs_app,← e]
      have h5 : (dcs (l.take i)).length = i * 2:=by rw [dcs_len,List.length_take];omega
      have h6:=congrArg (List.take (i * 2)) hc;rw [List.take_take,show min (i * 2) (n * 2) = i * 2 by omega,h4,List.take_append_of_le_length (by omega),List.take_of_length_le (l:=dcs (l.take i)) (by omega)] at h6;exact h6
theorem OwnD.tail {w : World} {base i c g : Nat} {l : List Dt} (h : OwnD w base (some ⟨g,0,none⟩) i c l) (vs : List Value) : OwnD (w.setCells g (i * 2) vs) base (some ⟨g,0,none⟩) i c l:=by
  refine ⟨h.1,h.2.1,?_⟩
  rcases h.2.2 with ⟨hv,_⟩ | ⟨g',cap,cur,hv,hb,hh,hn,hm,hs,hc⟩
  · cases hv
  · injection hv with h1 h2 h3
    injection h1 with h1
    injection h1 with h1
    subst h1 h3;obtain ⟨cs',k1,k2,k3,_⟩:=setCells_heap w g vs (i * 2) cur hh;refine .inr ⟨g,c,cs',rfl,hb,k1,hn,hm,by rw [k2,hs],?_⟩;rw [← hc]
    apply List.ext_getElem?
    intro j;rw [List.getElem?_take,List.getElem?_take]
    by_cases hj : j < i * 2
    · rw [if_pos hj,if_pos hj]
      have:=k3 j (.inl hj)
      simpa using this
    · rw [if_neg hj,if_neg hj]
theorem dcs_set (l : List Dt) : ∀ (i : Nat) (x q : Int),((dcs l).set (i * 2) (.int .i64 x)).set (i * 2 + 1) (.int .i64 q) = dcs (l.set i (x,q)):=by
  induction l with
  | nil=>intro i x q;simp [dcs]
  | cons d l ih =>
    intro i x q
    have e : ∀ (d : Dt) (l : List Dt),dcs (d :: l) = .int .i64 d.1 :: .int .i64 d.2 :: dcs l:=fun _ _=>rfl
    cases i with
    | zero=>rfl
    | succ i =>
      rw [show (i + 1) * 2 = i * 2 + 1 + 1 by omega,e]
      show _ :: _ :: ((dcs l).set (i * 2) (.int .i64 x)).set (i * 2 + 1) (.int .i64 q) = _
      rw [ih]
      rfl
theorem OwnD.set_ {w : World} {base n c g : Nat} {l : List Dt} (h : OwnD w base (some ⟨g,0,none⟩) n c l) (i : Nat) (x q : Int) : OwnD ((w.setCell ⟨g,i * 2,none⟩ (.int .i64 x)).setCell ⟨g,i * 2 + 1,none⟩ (.int .i64 q)) base (some ⟨g,0,none⟩) n c (l.set i (x,q)):=by
  refine ⟨by rw [List.length_set];exact h.1,?_⟩;have h1:=(h.2.stored (i * 2) (.int .i64 x)).1;have h2:=(h1.stored (i * 2 + 1) (.int .i64 q)).1
  rwa [dcs_set] at h2
end Go.Proofs.YtcgalmnllegnbaaGreat

namespace Go.Proofs.YtcgalmnllegnbaaGreat
set_option linter.unusedVariables false
set_option linter.unusedSimpArgs false
set_option maxRecDepth 100000
open Go.RowKit
theorem intM_err {l : List UInt8} {e : Nat} (h : e ≠ 0) : Vint.intM l e = (0,l,e):=by unfold Vint.intM;rw [if_neg h]
theorem intM_small (l : List UInt8) (e : Nat) : (Vint.intM l e).2.2 ≠ 0→(Vint.intM l e).1 = 0:=by
  unfold Vint.intM
  by_cases h : e = 0
  · rw [if_pos h]
    cases Vint.dec l with
    | error x=>intro _;rfl
    | ok p=>intro h;exact absurd rfl h
  · rw [if_neg h];intro _;rfl
theorem intM_good {l : List UInt8} {e : Nat} (h : (Vint.intM l e).2.2 = 0) : e = 0∧l = Vint.enc (Vint.intM l e).1 ++ (Vint.intM l e).2.1∧(Vint.intM l e).1≤1099511627776:=by
  unfold Vint.intM at h ⊢
  by_cases he : e = 0
  · rw [if_pos he] at h ⊢
    cases hd : Vint.dec l with
    | error x =>
      rw [hd] at h
      have:=Vint.dec_err hd
      simp only at h
      omega
    | ok p =>
      obtain ⟨n,r⟩:=p
      have:=Vint.dec_ok hd
      exact ⟨he,this.1,this.2⟩
  · rw [if_neg he] at h
    exact absurd h he
def RSt (w : World) (g : Nat) (A : Option Addr) (n c : Nat) (bs r : List UInt8) (e : Nat) : Prop:=∃ at',at'≤n∧RRd w g A n c at' e∧bs.drop at' = r
def RIntM (w : World) (g : Nat) (A : Option Addr) (n c : Nat) (bs r : List UInt8) (e : Nat) (x : Ending) (w' : World) : Prop :=
  x = .returned (.int .i64 ((Vint.intM r e).1 : Nat))∧w.grownBy w' (some g)∧RSt w' g A n c bs (Vint.intM r e).2.1 (Vint.intM r e).2.2
theorem rint_m (g : Nat) (A : Option Addr) (n c B : Nat) (bs r : List UInt8) (e : Nat) (w : World) (hR : RSt w g A n c bs r e) (hb : RdB w B A n bs) (hn : n≤1000000000) :
    Calls Tryz.prog 26 #[.pointer (some ⟨g,0,none⟩)] w (RIntM w g A n c bs r e):=by
  obtain ⟨at',ha,hR,rfl⟩:=hR
  by_cases he : e = 0
  · subst he
    refine (rint_any g A n c at' bs B w hR hb ha (by omega)).mono ?_;rintro x w' ⟨hg,h⟩
    unfold RIntM Vint.intM
    rw [if_pos rfl]
    cases hd : Vint.dec (bs.drop at') with
    | error y =>
      rw [hd] at h;exact ⟨h.1,hg,at',ha,h.2,rfl⟩
    | ok p =>
      obtain ⟨m,r⟩:=p;rw [hd] at h;obtain ⟨h1,h2⟩:=h;refine ⟨h1,hg,n - r.length,by omega,h2,?_⟩;have hl:=hb.1;have hdo:=(Vint.dec_ok hd).1;have hlen:=congrArg List.length hdo;rw [List.length_drop,List.length_append] at hlen;rw [show n - r.length = at' + (Vint.enc m).length by omega,← List.drop_drop,hdo,List.drop_left]
  · refine (rint_fail g A n c at' e w hR he).mono ?_
    rintro x w' ⟨rfl,rfl⟩
    unfold RIntM
    rw [intM_err he];exact ⟨rfl,World.grownBy.refl _ _,at',ha,hR,rfl⟩
theorem rfail_m (g x : Nat) (A : Option Addr) (n c : Nat) (bs r : List UInt8) (e : Nat) (w : World) (hR : RSt w g A n c bs r e) :
    Calls Tryz.prog 27 #[.pointer (some ⟨g,0,none⟩),.int .i64 (x : Nat)] w fun k w'=>k = .returned (.tuple #[])∧w.grownBy w' (some g)∧RSt w' g A n c bs r (if e = 0 then x else e):=by
  obtain ⟨at',ha,hR,hd⟩:=hR;have c2 : w.cell? ⟨g,2,none⟩ = some (.int .i64 (e : Nat)):=hR.cell 2;have f2:=hR.free 2;have HD:=Lib.hid hd
  by_cases he : e = 0
  · subst he
    rw [if_pos rfl];have k2:=Blk.set_ hR 2 (.int .i64 (x : Nat));have g2:=only_set (i:=2) (World.grownBy.refl w (some g)) (.int .i64 (x : Nat));have K2:=Lib.hid k2;have G2:=Lib.hid g2;clear k2 g2 hR hd
    go_enter Tryz.func27,Tryz.ntmps27
    go_wp2_with fail
    go_end0
    exact ⟨rfl,G2.out,at',ha,K2.out,HD.out⟩
  · rw [if_neg he]
    have hq : (((e : Nat) : Int) == 0) = false:=by rw [beq_eq_false_iff_ne];omega
    clear hd
    go_enter Tryz.func27,Tryz.ntmps27
    go_wp2_with fail
    go_end0
    exact ⟨rfl,World.grownBy.refl _ _,at',ha,hR,HD.out⟩
theorem RSt.map {w w' : World} {g : Nat} {A : Option Addr} {n c : Nat} {bs r : List UInt8} {e : Nat} (h : RSt w g A n c bs r e) (f : ∀ t cs,Blk w g t cs→Blk w' g t cs) : RSt w' g A n c bs r e:=by
  obtain ⟨at',h1,h2,h3⟩:=h;exact ⟨at',h1,f _ _ h2,h3⟩
theorem grown_on {a w w' : World} {b : Nat} {row : Option Nat} (h0 : a.grownBy w row) (h : w.grownBy w' (some b)) (hb : a.heap.size≤b) : a.grownBy w' row :=
  ⟨h.os.trans h0.os,h.tape.trans h0.tape,h.output.trans h0.output,Nat.le_trans h0.size h.size,fun k hk hne=>(h.block k (Nat.lt_of_lt_of_le hk h0.size) (fun e=>by injection e;omega)).trans (h0.block k hk hne)⟩
end Go.Proofs.YtcgalmnllegnbaaGreat

namespace Go.Proofs.YtcgalmnllegnbaaGreat
set_option linter.unusedVariables false
set_option linter.unusedSimpArgs false
set_option maxRecDepth 100000
open Dot
def rdI : Nat→List UInt8→Nat→List Int × List UInt8 × Nat
  | 0,l,e=>([],l,e)
  | k + 1,l,e=>((rdI k l e).1 ++ [((Vint.intM (rdI k l e).2.1 (rdI k l e).2.2).1 : Int)],(Vint.intM (rdI k l e).2.1 (rdI k l e).2.2).2)
def rdD1 (s : List UInt8 × Nat) : Dt × List UInt8 × Nat :=
  ((((Vint.intM s.1 s.2).1 : Int),((Vint.intM (Vint.intM s.1 s.2).2.1 (Vint.intM s.1 s.2).2.2).1 : Int)),(Vint.intM (Vint.intM s.1 s.2).2.1 (Vint.intM s.1 s.2).2.2).2)
def rdDs : Nat→List UInt8→Nat→List Dt × List UInt8 × Nat
  | 0,l,e=>([],l,e)
  | k + 1,l,e=>if (rdDs k l e).2.2 = 0 then ((rdDs k l e).1 ++ [(rdD1 (rdDs k l e).2).1],(rdD1 (rdDs k l e).2).2) else rdDs k l e
def failM (n e : Nat) : Nat:=if 768 < n then (if e = 0 then 6 else e) else e
def rdU (bs : List UInt8) : List Int:=(rdI 8 bs 0).1
def rdN (bs : List UInt8) : Nat × List UInt8 × Nat:=Vint.intM (rdI 8 bs 0).2.1 (rdI 8 bs 0).2.2
def rdL (bs : List UInt8) : List Dt × List UInt8 × Nat:=rdDs (rdN bs).1 (rdN bs).2.1 (failM (rdN bs).1 (rdN bs).2.2)
def getE (bs : List UInt8) : Nat:=if (rdL bs).2.2 = 0∧((rdL bs).2.1 ≠ []∨rightB (rdU bs) (rdL bs).1 = false) then 4 else (rdL bs).2.2
def getU (bs : List UInt8) : List Int:=if getE bs = 0 then rdU bs else uptoS noG
def getL (bs : List UInt8) : List Dt:=if getE bs = 0 then (rdL bs).1 else []
theorem rdI_len (l : List UInt8) (e : Nat) : ∀ k,(rdI k l e).1.length = k:=by
  intro k
  induction k with
  | zero=>rfl
  | succ k ih=>rw [rdI,List.length_append,ih];rfl
theorem rdDs_stuck (l : List UInt8) (e k : Nat) (h : (rdDs k l e).2.2 ≠ 0) : ∀ m,k≤m→rdDs m l e = rdDs k l e:=by
  intro m
  induction m with
  | zero => intro hk; obtain rfl : k = 0 := by omega
            rfl
  | succ m ih =>
    intro hk
    by_cases e1 : k = m + 1
    · rw [e1]
    · have h1:=ih (by omega)
      rw [rdDs,if_neg (by rw [h1];exact h),h1]
theorem rdI_good (b : List UInt8) : ∀ k,(rdI k b 0).2.2 = 0→b = encs (rdI k b 0).1 ++ (rdI k b 0).2.1:=by
  intro k
  induction k with
  | zero=>intro _;rfl
  | succ k ih =>
    intro h;have h' : (Vint.intM (rdI k b 0).2.1 (rdI k b 0).2.2).2.2 = 0:=h;obtain ⟨h1,h2,h3⟩:=intM_good h';have h4:=ih h1;rw [rdI]
    simp only
    rw [encs_app,encs_one,Int.toNat_natCast,List.append_assoc,← h2];exact h4
theorem rdDs_good (b : List UInt8) : ∀ k,(rdDs k b 0).2.2 = 0→b = encs (nums (rdDs k b 0).1) ++ (rdDs k b 0).2.1∧(rdDs k b 0).1.length = k:=by
  intro k
  induction k with
  | zero=>intro _;exact ⟨rfl,rfl⟩
  | succ k ih =>
    intro h
    by_cases h0 : (rdDs k b 0).2.2 = 0
    · obtain ⟨h4,h5⟩:=ih h0
      rw [rdDs,if_pos h0] at h ⊢;have h' : (Vint.intM (Vint.intM (rdDs k b 0).2.1 (rdDs k b 0).2.2).2.1 (Vint.intM (rdDs k b 0).2.1 (rdDs k b 0).2.2).2.2).2.2 = 0:=h;obtain ⟨h1,h2,h3⟩:=intM_good h';obtain ⟨g1,g2,g3⟩:=intM_good h1
      simp only
      rw [nums_snoc,encs_app,List.length_append,h5];refine ⟨?_,rfl⟩
      unfold rdD1
      simp only
      rw [encs_two,Int.toNat_natCast,Int.toNat_natCast,List.append_assoc,List.append_assoc,← h2,← g2];exact h4
    · rw [rdDs,if_neg h0] at h
      exact absurd h h0
theorem failM_zero {n e : Nat} (h : failM n e = 0) : e = 0∧n≤768:=by
  unfold failM at h
  by_cases h1 : 768 < n
  · rw [if_pos h1] at h
    by_cases h2 : e = 0
    · rw [if_pos h2] at h;omega
    · rw [if_neg h2] at h;exact absurd h h2
  · rw [if_neg h1] at h;exact ⟨h,by omega⟩
theorem rdDs_zero (b : List UInt8) (e : Nat) : ∀ k,(rdDs k b e).2.2 = 0→e = 0:=by
  intro k
  induction k with
  | zero=>exact id
  | succ k ih =>
    intro h
    by_cases h0 : (rdDs k b e).2.2 = 0
    · exact ih h0
    · rw [rdDs,if_neg h0] at h
      exact absurd h h0
theorem put_get {b : List UInt8} (h : getE b = 0) : rightB (getU b) (getL b) = true∧encs (putL (getU b) (getL b)) = b∧(getU b).length = 8:=by
  have hU : getU b = rdU b:=by unfold getU;rw [if_pos h]
  have hL : getL b = (rdL b).1:=by unfold getL;rw [if_pos h]
  rw [hU,hL]
  have hc : (rdL b).2.2 = 0∧(rdL b).2.1 = []∧rightB (rdU b) (rdL b).1 = true:=by
    unfold getE at h
    by_cases h1 : (rdL b).2.2 = 0∧((rdL b).2.1 ≠ []∨rightB (rdU b) (rdL b).1 = false)
    · rw [if_pos h1] at h;omega
    · rw [if_neg h1] at h
      refine ⟨h,?_,?_⟩
      · by_cases h2 : (rdL b).2.1 = []
        · exact h2
        · exact absurd ⟨h,.inl h2⟩ h1
      · cases h2 : rightB (rdU b) (rdL b).1 with
        | true=>rfl
        | false=>exact absurd ⟨h,.inr h2⟩ h1
  obtain ⟨c1,c2,c3⟩:=hc
  have d00 : rdL b = rdDs (rdN b).1 (rdN b).2.1 (failM (rdN b).1 (rdN b).2.2):=by rw [rdL]
  have c11:=c1;rw [d00] at c11;have f0:=rdDs_zero _ _ _ c11;clear c11;obtain ⟨f1,f2⟩:=failM_zero f0
  have d0 : rdL b = rdDs (rdN b).1 (rdN b).2.1 0:=by rw [d00,f0]
  clear d00
  have c1' : (rdDs (rdN b).1 (rdN b).2.1 0).2.2 = 0:=by rw [← d0];exact c1
  obtain ⟨d1,d2⟩:=rdDs_good _ _ c1';rw [← d0] at d1 d2
  have hN : rdN b = Vint.intM (rdI 8 b 0).2.1 (rdI 8 b 0).2.2:=by rw [rdN]
  have f1':=f1;rw [hN] at f1';obtain ⟨n1,n2,n3⟩:=intM_good f1';rw [← hN] at n2
  have hUu : rdU b = (rdI 8 b 0).1:=by rw [rdU]
  have i1:=rdI_good b 8 n1;refine ⟨c3,?_,by rw [hUu];exact rdI_len b 0 8⟩
  unfold putL
  rw [encs_app,encs_app,encs_one,Int.toNat_natCast,d2,List.append_assoc];rw [c2,List.append_nil] at d1;rw [← d1,← n2,hUu];exact i1.symm
end Go.Proofs.YtcgalmnllegnbaaGreat

namespace Go.Proofs.YtcgalmnllegnbaaGreat
set_option linter.unusedVariables false
set_option linter.unusedSimpArgs false
set_option maxRecDepth 100000
open Go.RowKit
open Dot Evt
abbrev cE : Array Value:=#[.int .i64 1,.int .i64 2,.int .i64 3,.int .i64 1,.int .i64 4,.int .i64 5,.int .i64 0,.int .i64 0,.int .i64 0,.int .i64 0,.int .i64 0,.int .i64 0,.int .i64 0,.slice none 0 0]
abbrev cT (t : Int) : Array Value:=#[.int .i64 0,.int .i64 0,.int .i64 t,.int .i64 0,.int .i64 0,.int .i64 0,.int .i64 0,.int .i64 0,.int .i64 0,.int .i64 0,.int .i64 0,.int .i64 0,.int .i64 0,.slice none 0 0]
end Go.Proofs.YtcgalmnllegnbaaGreat

namespace Go.Proofs.YtcgalmnllegnbaaGreat
set_option linter.unusedVariables false
set_option linter.unusedSimpArgs false
set_option maxRecDepth 100000
open Go.RowKit
def NoPanic (Q : Exit→Act→World→Prop) : Exit→Act→World→Prop
  | .panic _,_,_=>False
  | e,a,w=>Q e a w
theorem NoPanic.ok {Q : Exit→Act→World→Prop} {a : Act} {w : World} (h : Q .normal a w) : NoPanic Q .normal a w:=h
theorem wp_nopanic {P : Program} {c : Code} {Q : Exit→Act→World→Prop} {a : Act} {w : World} (h : c.wp P (NoPanic Q) a w) : c.wp P Q a w :=
  Code.wp_mono (fun e a w h=>by cases e <;> first | exact h | exact False.elim h) h
end Go.Proofs.YtcgalmnllegnbaaGreat

namespace Go.Proofs.YtcgalmnllegnbaaGreat
set_option linter.unusedVariables false
set_option linter.unusedSimpArgs false
set_option maxRecDepth 100000
open Go.RowKit
open Dot Evt
theorem decE_p {l : List UInt8} {x : Ev} {r : List UInt8} (h : decE l = .ok (x,r)) : x.p.length = 7:=by
  unfold decE at h
  split at h
  · cases h
  split at h
  · cases h
  split at h
  · cases h
  split at h
  · cases h
  split at h
  case isFalse=>cases h
  split at h
  · cases h
  unfold decK at h
  split at h
  · split at h
    · cases h
    · injection h with h;injection h with h _;rw [← h];rfl
  · split at h
    · split at h
      · cases h
      · rename_i hd
        split at h
        · cases h
        · injection h with h;injection h with h _
          rw [← h]
          show (List.map _ _).length = 7
          rw [List.length_map,decs_len _ _ _ _ hd]
    · split at h
      · cases h
      · injection h with h;injection h with h _;rw [← h];rfl
end Go.Proofs.YtcgalmnllegnbaaGreat

namespace Go.Proofs.YtcgalmnllegnbaaGreat
set_option linter.unusedVariables false
set_option linter.unusedSimpArgs false
set_option maxRecDepth 100000
open Go.RowKit
open Dot Evt
section
variable {P : Program}
theorem run_loadVar_at (w : World) (a : Addr) (ty : TypeId) (cs : List Value) (d : TypeDesc) (hc : ∀ (j : Nat) v,cs[j]? = some v→w.cell? (a.add j) = some v)
    (hu : P.underlying ty = some d) (hd : d.isRow = true) (hi : (P.info? ty).map (·.size) = some cs.length) :
    (loadVar ty a).run P w = .ok (.agg cs.toArray) w:=by
  have hl : (loadCells a cs.length).run P w = .ok cs.toArray w:=run_loadCells_list (P:=P) w a cs hc
  cases hq : P.info? ty with
  | none=>simp [hq] at hi
  | some i =>
    have hs : i.size = cs.length:=by simpa [hq] using hi
    have hagg : (isAgg ty).run P w = .ok true w:=by
      unfold isAgg
      rw [Sem.run_bind,run_underlying hu w]
      cases d <;> simp_all
    simp [loadVar,Sem.run_bind,hagg,sizeOf,typeInfo,hq,hs,hl]
theorem wpList_lda {ops : Array Oper} {rest : List Oper} {a : Act} {w : World} {Q : Exit→Act→World→Prop} {d : Option Tmp} {ty T : TypeId} {pos : String} {aft : Array Edge} {x : Operand} {ad : Addr} {n : Nat} {cs : Array Value} (hR : RowT P T n)
    (hc : ∀ (j : Nat) v,cs[j]? = some v→w.cell? (ad.add j) = some v) (hn : cs.size = n)
    (h : wpList P ops Q rest (a.put d (.agg cs)) w) (hx : a.eval x = .pointer (some ad)) : wpList P ops Q (⟨d,.load T x,ty,pos,aft,none⟩ :: rest) a w:=by
  obtain ⟨e,hu,hd,hi⟩:=hR;rw [← hn,← Array.length_toList] at hi
  have hcl : ∀ (j : Nat) v,cs.toList[j]? = some v→w.cell? (ad.add j) = some v:=fun j v hj=>hc j v (by simpa using hj)
  refine wpList_plain rfl fun _ hK=>?_
  unfold Oper.wp execOp
  simp only [hx,Instr.loadAt,Instr.sureAddr,Sem.run_bind,Sem.run_pure,Result.andThen_ok,run_loadVar_at w ad T cs.toList e hcl hu hd hi,Array.toArray_toList]
  exact hK _ _ h
end
structure EvV where
  e : Ev
  A : Option Addr
  m : Nat
  c : Nat
def EvV.cs (x : EvV) : Array Value:=ec x.e (.slice x.A x.m x.c)
theorem EvV.size (x : EvV) : x.cs.size = 14:=rfl
theorem EvV.one (x : EvV) : x.cs.all (·.oneCell') = true:=ec_one _ _ _ _
def EvOk (w : World) (B : Nat) (x : EvV) : Prop:=x.e.p.length = 7∧RdD w B x.A x.m x.e.l∧x.m≤10000000000000
def RowEv (w : World) (B : Nat) (A : Option Addr) (n : Nat) (xs : List EvV) : Prop :=
  n = xs.length∧∀ i x,xs[i]? = some x→EvOk w B x∧∃ ad,A = some ad∧ad.block < B∧∀ (j : Nat) v,x.cs[j]? = some v→w.cell? ((ad.add (i * 14)).add j) = some v
section
variable {w w' : World} {B B' : Nat} {A : Option Addr} {n : Nat} {xs : List EvV} {x : EvV}
theorem EvOk.below (h : EvOk w B x) (hb : Below B w w') : EvOk w' B x:=⟨h.1,h.2.1.below hb,h.2.2⟩
theorem EvOk.more (h : EvOk w B x) (hB : B≤B') : EvOk w B' x:=⟨h.1,h.2.1.more hB,h.2.2⟩
theorem RowEv.below (h : RowEv w B A n xs) (hb : Below B w w') : RowEv w' B A n xs:=⟨h.1,fun i x hi=>by
  obtain ⟨h1,ad,e,h2,h3⟩:=h.2 i x hi
  exact ⟨h1.below hb,ad,e,h2,fun j v hv=>(hb.cell (by rw [block_add,block_add];exact h2)).trans (h3 j v hv)⟩⟩
theorem RowEv.more (h : RowEv w B A n xs) (hB : B≤B') : RowEv w B' A n xs:=⟨h.1,fun i x hi=>by
  obtain ⟨h1,ad,e,h2,h3⟩:=h.2 i x hi
  exact ⟨h1.more hB,ad,e,by omega,h3⟩⟩
theorem RowEv.nil (w : World) (B : Nat) (A : Option Addr) : RowEv w B A 0 []:=⟨rfl,fun i d hi=>by simp at hi⟩
end
end Go.Proofs.YtcgalmnllegnbaaGreat

namespace Go.Proofs.YtcgalmnllegnbaaGreat
set_option linter.unusedVariables false
set_option linter.unusedSimpArgs false
set_option maxRecDepth 100000
open Go.RowKit
open Dot Evt
theorem infoEv : (Tryz.prog.info? 109).map (fun i=>(i.zero,i.size,i.bytes)) = some (some (.agg (cT 0)),14,128):=by kernel_rfl
def ecsL (xs : List EvV) : List Value:=xs.flatMap fun x=>x.cs.toList
theorem ecsL_len (xs : List EvV) : (ecsL xs).length = xs.length * 14:=by
  induction xs with
  | nil=>rfl
  | cons x l ih=>show (x.cs.toList ++ ecsL l).length = _;rw [List.length_append,ih,Array.length_toList,x.size];simp;omega
theorem ecsL_app (l m : List EvV) : ecsL (l ++ m) = ecsL l ++ ecsL m:=by unfold ecsL;rw [List.flatMap_append]
theorem ecsL_one (l : List EvV) : ∀ u ∈ ecsL l,u.oneCell' = true:=by
  intro u hu
  unfold ecsL at hu
  rw [List.mem_flatMap] at hu;obtain ⟨d,_,hd⟩:=hu
  have:=Array.all_eq_true_iff_forall_mem.1 d.one u (by simpa using hd)
  exact this
theorem ecsL_at (l : List EvV) : ∀ (i : Nat) (x : EvV),l[i]? = some x→∀ (j : Nat) v,x.cs[j]? = some v→(ecsL l)[i * 14 + j]? = some v:=by
  induction l with
  | nil=>intro i d h;simp at h
  | cons y l ih =>
    intro i x h j v hv;have e : ecsL (y :: l) = y.cs.toList ++ ecsL l:=rfl
    have hj : j < 14:=by
      have:=(Array.getElem?_eq_some_iff.1 hv).1
      rwa [x.size] at this
    rw [e]
    cases i with
    | zero =>
      simp at h
      subst h;rw [Nat.zero_mul,Nat.zero_add,List.getElem?_append_left (by rw [Array.length_toList,y.size];exact hj),Array.getElem?_toList];exact hv
    | succ i =>
      rw [List.getElem?_append_right (by rw [Array.length_toList,y.size];omega),Array.length_toList,y.size,show (i + 1) * 14 + j - 14 = i * 14 + j by omega];exact ih i x (by simpa using h) j v hv
def OwnEv (w : World) (base : Nat) (A : Option Addr) (n c : Nat) (xs : List EvV) : Prop:=n = xs.length∧w.ownsRow base 109 14 (.slice A n c) n (ecsL xs)
section
variable {w w' : World} {base B n c : Nat} {A : Option Addr} {xs : List EvV}
theorem OwnEv.nil (w : World) (base : Nat) : OwnEv w base none 0 0 []:=⟨rfl,World.ownsRow_nil w base _ 14⟩
theorem OwnEv.alloc (h : OwnEv w base A n c xs) (o : Obj) : OwnEv (w.alloc o) base A n c xs:=⟨h.1,h.2.alloc o⟩
theorem OwnEv.drew (h : OwnEv w base A n c xs) : OwnEv w.drew base A n c xs:=h
theorem OwnEv.mono {base' : Nat} (h : OwnEv w base A n c xs) (hb : base'≤base) : OwnEv w base' A n c xs:=⟨h.1,ownsRow_base h.2 hb⟩
theorem OwnEv.raw (h : OwnEv w base A n c xs) : Rd w w.heap.size A (ecsL xs):=fun j u hu=>by
  rcases h.2.2 with ⟨hv,h0⟩ | ⟨g,cap,cur,hv,hb,hh,hn,hm,hs,hc⟩
  · have:=h.2.1;rw [h0] at this;simp at this;rw [this] at hu;simp at hu
  · injection hv with hA
    subst hA;exact ⟨_,rfl,(h.2.lt g rfl).2,h.2.cells (g:=g) rfl j u hu⟩
theorem OwnEv.lt (h : OwnEv w base A n c xs) : ∀ g,A.map (·.block) = some g→base≤g∧g < w.heap.size:=fun g hg=>h.2.lt g (by
  rcases A with _ | a
  · simp at hg
  · simpa [Value.ownBlock] using hg)
theorem OwnEv.below (h : OwnEv w base A n c xs) (hb : Below B w w') (hB : w.heap.size≤B) : OwnEv w' base A n c xs:=⟨h.1,ownsRow_keep h.2 fun k hk=>hb.block k (by have:=ownsRow_lt h.2 hk;omega)⟩
theorem OwnEv.row (h : OwnEv w base A n c xs) (hx : ∀ x ∈ xs,EvOk w w.heap.size x) : RowEv w w.heap.size A n xs:=⟨h.1,fun i x hi=>by
  have hm:=List.mem_of_getElem? hi;have h0 : (ecsL xs)[i * 14 + 0]? = some (.int .i64 x.e.d.1):=ecsL_at xs i x hi 0 _ rfl;obtain ⟨ad,hA,hb,_⟩:=h.raw _ _ h0;refine ⟨hx x hm,ad,hA,hb,fun j v hv=>?_⟩;obtain ⟨ad',hA',_,hc⟩:=h.raw _ _ (ecsL_at xs i x hi j v hv)
  obtain rfl : ad = ad':=by rw [hA] at hA';injection hA'
  rw [add_add]
  exact hc⟩
end
theorem own2_ne {w : World} {b1 b2 : Nat} {t1 t2 : TypeId} {s1 s2 : Nat} {A1 A2 : Option Addr} {n1 c1 n2 c2 : Nat} {x1 x2 : List Value} (h1 : w.ownsRow b1 t1 s1 (.slice A1 n1 c1) n1 x1) (h2 : w.ownsRow b2 t2 s2 (.slice A2 n2 c2) n2 x2) (hne : t1 ≠ t2) : A1.map (·.block) = none∨A1.map (·.block) ≠ A2.map (·.block):=by
  rcases h : A1.map (·.block) with _ | k
  · exact .inl h
  · refine .inr fun e=>?_
    obtain ⟨cur,hc⟩:=ownsRow_type h1 h;obtain ⟨cur',hc'⟩:=ownsRow_type h2 (e.symm.trans h);rw [hc] at hc'
    injection hc' with hc'
    injection hc' with _ ht
    exact hne ht
def EvOwn (w : World) (base : Nat) (x : EvV) : Prop:=x.e.p.length = 7∧OwnD w base x.A x.m x.c x.e.l∧x.m≤10000000000000
theorem EvOwn.ok {w : World} {base : Nat} {x : EvV} (h : EvOwn w base x) : EvOk w w.heap.size x:=⟨h.1,h.2.1.rd,h.2.2⟩
theorem wpList_appE {w : World} {ops : Array Oper} {rest : List Oper} {o : Oper} {a : Act} {Q : Exit→Act→World→Prop} (hgd : o.guard = none) (s x : Operand)
    (ho : o.op = .call { callee:=.builtin .append,args:=#[s,x],argTypes:=#[27,27] })
    {base : Nat} {A : Option Addr} {n c : Nat} {bs : List EvV} (hs : a.eval s = .slice A n c) (hown : OwnEv w base A n c bs)
    {B : Nat} {D : Option Addr} {m d : Nat} {news : List EvV} (hx : a.eval x = .slice D m d) (hr : Rd w B D (ecsL news)) (hm : m = news.length)
    (hbytes : n + m≤1000000000000) (hbase : base≤w.heap.size)
    (h : ∀ A' c' w',OwnEv w' base A' (n + m) c' (bs ++ news)→w.grownBy w' (A.map (·.block))→Moved A' (A.map (·.block)) w.heap.size→Below base w w' →
      wpList Tryz.prog ops Q rest (a.put o.dst (.slice A' (n + m) c')) w') : wpList Tryz.prog ops Q (o :: rest) a w:=by
  obtain ⟨i0,hi,hz0,hz1,hz2⟩:=info_parts infoEv
  have hob : (Value.slice A n c).ownBlock = A.map (·.block):=by cases A <;> rfl
  refine wpList_app w hgd s x 27 ho base 109 i0 (.agg (cT 0)) 14 128 Tryz.underlying27 hi hz0 hz1 hz2 rfl (by decide) _ _ _ hs hown.2 B D m d (ecsL news) hx hr (by rw [ecsL_len,hm]) (ecsL_one _) (by unfold maxLen;omega) (by omega) hbase ?_;intro A' c' w' h1 h2 h3;rw [hob] at h2 h3;exact h A' c' w' ⟨by rw [List.length_append,hown.1,hm],by rw [ecsL_app];exact h1⟩ h2 h3 ((Below.refl _ _).grown h2 hbase (fun g hg=>(hown.lt g hg).1))
theorem buildE1 (x : EvV) (w : World) : (Instr.buildSlice 27 1 #[(0,.agg x.cs)]).run Tryz.prog w = .ok (.slice (some ⟨w.heap.size,0,none⟩) 1 1) (w.alloc (.cells x.cs 109)):=by
  obtain ⟨⟨⟨n,q⟩,t,k,wk,v,p,l⟩,A,m,c⟩:=x
  unfold EvV.cs ec
  simp only
  generalize p.getD 0 0 = p0,p.getD 1 0 = p1,p.getD 2 0 = p2,p.getD 3 0 = p3,p.getD 4 0 = p4,p.getD 5 0 = p5,p.getD 6 0 = p6
  kernel_rfl
end Go.Proofs.YtcgalmnllegnbaaGreat

namespace Go.Proofs.YtcgalmnllegnbaaGreat
set_option linter.unusedVariables false
set_option linter.unusedSimpArgs false
set_option maxRecDepth 100000
open Go.RowKit
open Dot Evt
namespace Evt
def decEs : Nat→List UInt8→Except Nat (List Ev × List UInt8)
  | 0,l=>.ok ([],l)
  | k + 1,l=>match decEs k l with
    | .error y=>.error y
    | .ok (xs,r)=>match decE r with
      | .error y=>.error y
      | .ok (x,r')=>if rightE x = true then .ok (xs ++ [x],r') else .error 4
def decA (l : List UInt8) : Except Nat (List Ev) :=
  match Vint.dec l with
  | .error y=>.error y
  | .ok (n,r)=>if 768 < n then .error 6 else match decEs n r with
    | .error y=>.error y
    | .ok (xs,r')=>if r' = [] then .ok xs else .error 4
def getAllE (l : List UInt8) : List Ev × Nat:=match decA l with | .ok xs=>(xs,0) | .error y=>([],y)
theorem decEs_err {k : Nat} {l : List UInt8} {x : Nat} (h : decEs k l = .error x) : ∀ m,k≤m→decEs m l = .error x:=by
  intro m
  induction m with
  | zero => intro hk; obtain rfl : k = 0 := by omega
            exact h
  | succ m ih =>
    intro hk
    by_cases e : k = m + 1
    · rw [← e];exact h
    · rw [decEs,ih (by omega)]
theorem decE_l {l : List UInt8} {x : Ev} {r : List UInt8} (h : decE l = .ok (x,r)) : x.l.length≤96:=by
  unfold decE at h
  split at h
  · cases h
  split at h
  · cases h
  split at h
  · cases h
  split at h
  · cases h
  split at h
  case isFalse=>cases h
  split at h
  · cases h
  unfold decK at h
  split at h
  · split at h
    · cases h
    · injection h with h;injection h with h _;rw [← h];exact Nat.zero_le _
  · split at h
    · split at h
      · cases h
      · split at h
        · cases h
        · rename_i hd
          injection h with h;injection h with h _
          rw [← h];exact (decL_suf hd).2.1
    · split at h
      · cases h
      · rename_i hd
        injection h with h;injection h with h _;rw [← h]
        exact (decL_suf hd).2.1
end Evt
def GetAllEv (w : World) (bs : List UInt8) (e : Ending) (w' : World) : Prop:=∃ A n c ys,e = .returned (.tuple #[.slice A n c,.int .i64 ((getAllE bs).2 : Nat)])∧OwnEv w' w.heap.size A n c ys∧(∀ y ∈ ys,EvOwn w' w.heap.size y)∧ys.map (·.e) = (getAllE bs).1∧Below w.heap.size w w'
theorem gall_close {bs : List UInt8} {w w3 : World} {B y : Nat} {tmps : Array Value} (kf : Blk w3 B 31 #[.int .i64 0]) (gb : Below B w w3) (hB : B = w.heap.size) (h2 : tmps.getD 2 undef = .slice none 0 0) (h3 : tmps.getD 3 undef = .pointer (some ⟨B,0,none⟩)) (he : getAllE bs = ([],y)) :
    Leaves Tryz.prog Tryz.f24 tmps (GetAllEv w bs) [{ target:=.fn (.func 56) #[],args:=#[.pointer (some ⟨B,0,none⟩)] }] (.panicking [{ v:=eflt (y : Nat),recovered:=false }]) w3:=by
  refine leaves_cons (f:=56) (args:=#[.pointer (some ⟨B,0,none⟩)]) (by simp) (by simp [go_sem]) ?_;refine (ecaught_panic _ _ _ _ _ (kf.cell 0) (kf.free 0)).mono ?_;rintro e u' w4 ⟨rfl,rfl,rfl⟩;have k4:=(kf.alloc (.cells #[.int .i64 (y : Nat)] 138)).set_ 0 (.int .i64 (y : Nat));have c4:=k4.cell 0;have g4 : Below B w ((w3.alloc (.cells #[.int .i64 (y : Nat)] 138)).setCell ⟨B,0,none⟩ (.int .i64 (y : Nat))):=(gb.alloc (by have:=gb.size;omega) _).setCell (by show B≤B;omega) _
  have h2' : tmps[2]?.getD undef = .slice none 0 0:=by simpa using h2
  have h3' : tmps[3]?.getD undef = .pointer (some ⟨B,0,none⟩):=by simpa using h3
  refine ⟨.tuple #[.slice none 0 0,.int .i64 (y : Nat)],by simp [results,Tryz.results24,h2',h3',go_sem,c4],none,0,0,[],by rw [he],OwnEv.nil _ _,fun z hz=>by simp at hz,by rw [he];rfl,by rw [← hB];exact g4⟩
theorem keepOwn {g x0 base : Nat} {wr w6 w7 : World} {t : TypeId} {s : Nat} {A : Option Addr} {n c : Nat} {xs : List Value} {tR : TypeId} {cs : Array Value} (h : wr.ownsRow base t s (.slice A n c) n xs) (b1 : Below wr.heap.size wr w6) (o : Only (GB g x0) w6 w7) (hx : wr.heap.size≤x0) (kg : Blk wr g tR cs) (hne : tR ≠ t) : w7.ownsRow base t s (.slice A n c) n xs :=
  ownsRow_keep h fun k hk=>by
    have hl:=ownsRow_lt h hk;refine (o.block k (by have:=b1.size;omega) ?_).trans (b1.block k hl);rintro (e | e)
    · exact own_ne h kg hne (by rw [hk,e])
    · omega
set_option maxRecDepth 100000 in
set_option maxHeartbeats 4000000 in
theorem egetAll_any (A : Option Addr) (n c : Nat) (bs : List UInt8) (w : World) (hb : RdB w w.heap.size A n bs) (hl : n≤1000000000) :
    Calls Tryz.prog 24 #[.slice A n c] w (GetAllEv w bs):=by
  have HBS:=Lib.hid fun (w' : World) (h : Below w.heap.size w w')=>hb.below h
  have HL:=Lib.hid hl;clear hb hl
  go_enter_defers Tryz.func24,Tryz.ntmps24
  go_upto_region 2 with fail
  refine nameW ?_;intro W hW;obtain ⟨B,hB⟩ : ∃ B,B = w.heap.size:=⟨_,rfl⟩;rw [← hB]
  have kf : Blk W B 31 #[.int .i64 0]:=by rw [hW,hB];exact Blk.new w _ _
  have gb : Below B w W:=by rw [hW,hB];exact (Below.refl _ _).alloc (Nat.le_refl _) _
  have HB:=Lib.hid hB;rw [← hB] at HBS;clear hW hB;go_wp2_with fail;refine (new_any A n c bs B W (HBS.out W gb) (by have:=kf.lt;omega) (by have:=HL.out;omega)).mono ?_;rintro e w1 ⟨A1,c1,g,rfl,hg,hR,b1⟩;have kf1:=kf.below b1 kf.lt;have gb1:=gb.trans (b1.mono (by have:=kf.lt;omega))
  have hgB : B < g:=by have:=kf.lt;omega
  clear kf gb b1 hg
  go_upto_region 4 with fail
  refine nameW ?_;intro W2 hW2;obtain ⟨v,hv⟩ : ∃ v,v = w1.heap.size:=⟨_,rfl⟩;rw [← hv]
  have kv : Blk W2 v 103 #[.pointer (some ⟨g,0,none⟩)]:=by rw [hW2,hv];exact (Blk.new w1 _ _).alloc _
  have kn : Blk W2 (v + 1) 3 #[.int .i64 0]:=by
    have h:=Blk.new (w1.alloc (.cells #[.pointer (some ⟨g,0,none⟩)] 103)) 3 #[.int .i64 0];rw [show (w1.alloc (.cells #[.pointer (some ⟨g,0,none⟩)] 103)).heap.size = w1.heap.size + 1 by simp] at h;rw [hW2,hv];exact h
  have bA : Below w1.heap.size w1 W2:=by rw [hW2];exact ((Below.refl _ _).alloc (Nat.le_refl _) _).alloc (by simp) _
  have kf2:=kf1.below bA kf1.lt;have gb2:=gb1.trans (bA.mono (by have:=kf1.lt;omega));have hR2:=hR.below (bA.mono (by have:=hR.lt;omega))
  have hgv : g < v:=by have:=hR.lt;omega
  have cv : W2.cell? ⟨v,0,none⟩ = some (.pointer (some ⟨g,0,none⟩)):=kv.cell 0;clear hW2 hv kf1 gb1 hR bA;go_wp2_with fail;refine (rdnum_any g (v + 1) 3 _ 0 A1 bs.length c1 bs W2 hR2 kn (by omega) (by simp)).mono ?_;intro e w3 hn;have kf3:=kf2.only hn.1 (by rintro (h | h) <;> omega);have kv3:=kv.only hn.1 (by rintro (h | h) <;> omega);have gb3:=gb2.trans (hn.1.to_below (B:=B) (by rintro k (h | h) <;> omega) (by have:=kf2.lt;omega))
  rcases hd : Vint.dec bs with y | ⟨m,l0⟩
  · obtain ⟨rfl,_⟩:=hn.bad hd
    have HE:=Lib.hid (show getAllE bs = ([],y) by simp [getAllE,decA,hd]);clear hd hn;go_wp2_with fail;exact gall_close kf3 gb3 HB.out rfl rfl HE.out
  obtain ⟨rfl,⟨A3,c3,hR3⟩,kn3,_⟩:=hn.good hd;have kn3 : Blk w3 (v + 1) 3 #[.int .i64 (m : Nat)]:=kn3;have HD:=Lib.hid hd;have cn : w3.cell? ⟨v + 1,0,none⟩ = some (.int .i64 (m : Nat)):=kn3.cell 0;have cv : w3.cell? ⟨v,0,none⟩ = some (.pointer (some ⟨g,0,none⟩)):=kv3.cell 0;clear hd hn kf2 kv kn gb2 hR2 kn3
  by_cases hbig : 768 < m
  · have hmd : decide ((768 : Int) < (m : Int)) = true:=decide_eq_true (by omega)
    have HE:=Lib.hid (show getAllE bs = ([],6) by simp [getAllE,decA,HD.out,hbig]);clear hbig;go_wp2_with fail;refine (rdfail_any g 6 _).mono ?_;rintro e w4 ⟨rfl,b4⟩;have kf4:=kf3.below b4 kf3.lt;have gb4:=gb3.trans (b4.mono (by have:=kf3.lt;omega));go_wp2_with fail;exact gall_close (y:=6) kf4 gb4 HB.out rfl rfl HE.out
  have hmd : decide ((768 : Int) < (m : Int)) = false:=decide_eq_false (by omega);have H768:=Lib.hid (show m≤768 by omega)
  have HERR:=Lib.hid (show ∀ k y,k≤m→decEs k l0 = .error y→getAllE bs = ([],y) from fun k y hk h=>by
    have h2:=decEs_err h m hk
    simp [getAllE,decA,HD.out,hbig,h2])
  have HALL:=Lib.hid (show ∀ xs r,decEs m l0 = .ok (xs,r)→getAllE bs = if r = [] then (xs,0) else ([],4) from fun xs r h=>by
    by_cases hr : r = []
    · simp [getAllE,decA,HD.out,hbig,h,hr]
    · simp [getAllE,decA,HD.out,hbig,h,hr])
  clear hbig;go_wp2_with fail
  go_loopw [6,18] (fun s i wr=>∃ (k : Nat) (xs : List Ev) (ys : List EvV) (A' : Option Addr) (c' : Nat) (r : List UInt8) (Ar : Option Addr) (cr : Nat),k≤m∧i = .int .i64 k∧s = .slice A' k c'∧decEs k l0 = .ok (xs,r)∧OwnEv wr (g + 1) A' k c' ys∧(∀ y ∈ ys,EvOwn wr B y)∧ys.map (·.e) = xs∧Rdr wr g Ar r.length cr r 0∧Blk wr v 103 #[.pointer (some ⟨g,0,none⟩)]∧Blk wr B 31 #[.int .i64 0]∧Below B w wr) (fun _ i _=>m - (intOf i).toNat)
  case atStart=>exact ⟨0,[],[],none,0,l0,A3,c3,by omega,rfl,rfl,rfl,OwnEv.nil _ _,fun y hy=>by simp at hy,rfl,hR3,kv3,kf3,gb3⟩
  case round =>
    clear hR3 kv3 kf3 gb3 cn cv;obtain ⟨k,xs,ys,A',c',r,Ar,cr,hk,rfl,rfl,hdk,ho,hys,hmp,hR,kv,kf,gb⟩:=hrel;have HDK:=Lib.hid hdk;have HYS:=Lib.hid hys;have HMP:=Lib.hid hmp;have hgs : B < wr.heap.size:=kf.lt;clear hdk hys hmp
    by_cases hlt : k < m
    · go_upto_region 11 with fail
      refine nameW ?_;intro w6 hw6;obtain ⟨x0,hx0⟩ : ∃ x0,x0 = wr.heap.size:=⟨_,rfl⟩;rw [← hx0]
      have kx : Blk w6 x0 109 (cT 0):=by rw [hw6,hx0];exact Blk.new _ _ _
      have b6 : Below wr.heap.size wr w6:=by rw [hw6];exact (Below.refl _ _).alloc (Nat.le_refl _) _
      have hR6:=hR.below (b6.mono (by have:=hR.lt;omega));have kv6:=kv.below b6 kv.lt;have kf6:=kf.below b6 kf.lt;have gb6:=gb.trans (b6.mono (by omega))
      have hgx : g < x0:=by have:=hR.lt;omega
      have hvx : v < x0:=by have:=kv.lt;omega
      have hBx : B < x0:=by omega
      have cv : w6.cell? ⟨v,0,none⟩ = some (.pointer (some ⟨g,0,none⟩)):=kv6.cell 0;have kg : Blk wr g 94 _:=hR.1
      have HK7:=Lib.hid (show ∀ w7,Only (GB g x0) w6 w7→OwnEv w7 (g + 1) A' k c' ys∧∀ y ∈ ys,EvOwn w7 B y from fun w7 o=>⟨⟨ho.1,keepOwn ho.2 b6 o (by omega) kg (by decide)⟩,fun y hy=>by
        obtain ⟨q1,q2,q3⟩:=HYS.out y hy
        exact ⟨q1,⟨q2.1,keepOwn q2.2 b6 o (by omega) kg (by decide)⟩,q3⟩⟩)
      clear hw6 hx0 b6 hR kv kf gb ho HYS kg;go_wp2_with fail;refine (thrr_any x0 g Ar r.length cr r w6 hR6 kx hgx).mono ?_;rintro e w7 ⟨oo,hh⟩;have kf7:=kf6.only oo (by rintro (h | h) <;> omega);have kv7:=kv6.only oo (by rintro (h | h) <;> omega);have gb7:=gb6.trans (oo.to_below (B:=B) (by rintro k (h | h) <;> omega) (by have:=kf6.lt;omega));obtain ⟨ho7,hys7⟩:=HK7.out w7 oo
      rcases hh with ⟨x,r',hd,rfl,⟨A7,c7,hR7⟩,A8,m8,c8,kx7,o8⟩ | ⟨y,hd,rfl⟩
      case inr =>
        have HE:=Lib.hid (HERR.out (k + 1) y (by omega) (by simp [decEs,HDK.out,hd]));clear hd oo;go_wp2_with fail;exact gall_close kf7 gb7 HB.out rfl rfl HE.out
      have o9:=o8.mono (base':=B) (by have:=kf6.lt;omega);have hz : EvOwn w7 B ⟨x,A8,m8,c8⟩:=⟨decE_p hd,o9,by show m8≤_;rw [o8.1];have:=decE_l hd;omega⟩;obtain ⟨z,hzz⟩ : ∃ z : EvV,z = ⟨x,A8,m8,c8⟩:=⟨_,rfl⟩
      have hze : z.e = x:=by rw [hzz]
      have hcz : ec x (.slice A8 m8 c8) = z.cs:=by rw [hzz];rfl
      have hrt:=eright_any x (decE_p hd) A8 m8 c8 w7 o9.rd.size;rw [← hzz] at hz;rw [hcz] at kx7 hrt;obtain ⟨cz,hcz2⟩ : ∃ cz,cz = z.cs:=⟨_,rfl⟩;have HBS2:=Lib.hid (fun w=>buildE1 z w);rw [← hcz2] at kx7 hrt HBS2;have SZ:=Lib.hid (show cz.size = 14 by rw [hcz2];rfl);have HCZ:=Lib.hid hcz2;have HZ:=Lib.hid hz;have HZE:=Lib.hid hze;have HRT:=Lib.hid hrt;have HYS7:=Lib.hid hys7;have HDE:=Lib.hid hd;clear hz hzz hze hcz hcz2 hrt hys7 o8 o9 oo hd kx kf6 kv6 gb6 HK7 hR6
      go_wp2_with first
        | ((with_reducible refine wpList_ld rowE kx7 SZ.out ?_ ?_);rotate_left;(rfl))
      refine HRT.out.mono ?_;rintro e w8 ⟨rfl,b8⟩;have kf8:=kf7.below b8 kf7.lt;have kv8:=kv7.below b8 kv7.lt;have kx8:=kx7.below b8 kx7.lt;have gb8:=gb7.trans (b8.mono (by have:=kf7.lt;omega));have hR8:=hR7.below (b8.mono (by have:=hR7.lt;omega));have cv8 : w8.cell? ⟨v,0,none⟩ = some (.pointer (some ⟨g,0,none⟩)):=kv8.cell 0
      cases hrx : rightE x
      case false =>
        have HE:=Lib.hid (HERR.out (k + 1) 4 (by omega) (by simp [decEs,HDK.out,HDE.out,hrx]));clear hrx;go_wp2_with fail;refine (rdfail_any g 4 _).mono ?_;rintro e w9 ⟨rfl,b9⟩;have kf9:=kf8.below b9 kf8.lt;have gb9:=gb8.trans (b9.mono (by have:=kf8.lt;omega));go_wp2_with fail;exact gall_close (y:=4) kf9 gb9 HB.out rfl rfl HE.out
      case true =>
        have HDN:=Lib.hid (show decEs (k + 1) l0 = .ok (xs ++ [x],r') by simp [decEs,HDK.out,HDE.out,hrx]);have ho8:=ho7.below b8 (Nat.le_refl _)
        have hys8 : ∀ y ∈ ys,EvOwn w8 B y:=fun y hy=>by
          obtain ⟨q1,q2,q3⟩:=HYS7.out y hy;exact ⟨q1,q2.below b8 (Nat.le_refl _),q3⟩
        have hz8 : EvOwn w8 B z:=by
          obtain ⟨q1,q2,q3⟩:=HZ.out;exact ⟨q1,q2.below b8 (Nat.le_refl _),q3⟩
        have HYS8:=Lib.hid hys8;have HZ8:=Lib.hid hz8;have hs8 : B < w8.heap.size:=kf8.lt;have hg8 : g < w8.heap.size:=hR8.lt;clear hrx hys8 hz8 HYS7 HZ HRT kf7 kv7 kx7 gb7 b8 ho7 hR7
        go_wp2_with first
          | ((with_reducible refine wpList_ld rowE kx8 SZ.out ?_ ?_);rotate_left;(rfl))
          | ((refine wpList_bs (v:=.slice (some ⟨w8.heap.size,0,none⟩) 1 1) (w':=w8.alloc (.cells cz 109)) rfl 27 1 #[(0,.tmp 29)] rfl ?_ ?_);(simp only [List.map_toArray,List.map_cons,List.map_nil];exact HBS2.out w8))
          | (at_builtin;refine wpList_appE rfl (.tmp 28) (.tmp 30) rfl rfl (ho8.alloc _) rfl (news:=[z]) (B:=w8.heap.size + 1) ?hd1 rfl ?hd2 ?hd3 ?_)
        case hd1 =>
          have h:=Rd.made w8 cz 109 (0,0);rw [show ecsL [z] = cz.toList by rw [HCZ.out];simp [ecsL]];exact h
        case hd2=>have:=H768.out;omega
        case hd3=>simp;omega
        intro A9 c9 w9 o9 g9 m9 b9;have bx : Below w8.heap.size w8 (w8.alloc (.cells cz 109)):=(Below.refl _ _).alloc (Nat.le_refl _) _;have gb9:=gb8.trans (((Below.refl _ _).alloc (by omega) (.cells cz 109)).trans (b9.mono (by omega)))
        have hys9 : ∀ y ∈ ys ++ [z],EvOwn w9 B y:=fun y hy=>by
          have hy2 : EvOwn w8 B y:=by
            rcases List.mem_append.1 hy with h | h
            · exact HYS8.out y h
            · simp at h;rw [h];exact HZ8.out
          exact ⟨hy2.1,(hy2.2.1.alloc (.cells cz 109)).grown g9 (own2_ne hy2.2.1.2 ho8.2 (by decide)),hy2.2.2⟩
        have kf9:=(kf8.alloc (.cells cz 109)).grown g9 (own_ne ho8.2 kf8 (by decide));have kv9:=(kv8.alloc (.cells cz 109)).grown g9 (own_ne ho8.2 kv8 (by decide));have hR9:=hR8.below (((Below.refl (g + 1) w8).alloc (by omega) (.cells cz 109)).trans b9);have HYS9:=Lib.hid hys9;clear hys9 g9 m9 b9 HYS8 bx;go_wp2_with fail
        go_roundw
        case rel=>exact ⟨k + 1,xs ++ [x],ys ++ [z],A9,c9,r',A7,c7,by omega,num_succ k (by have:=H768.out;omega),rfl,HDN.out,o9,HYS9.out,by rw [List.map_append,HMP.out];simp [HZE.out],hR9,kv9,kf9,gb9⟩
        case measure=>exact meas_succ k m hlt (by have:=H768.out;omega)
    · obtain rfl : k = m:=by omega
      have hfin:=HALL.out xs r HDK.out;have HF:=Lib.hid hfin;have hkd : decide ((k : Int) < (k : Int)) = false:=decide_eq_false (by omega);have cv : wr.cell? ⟨v,0,none⟩ = some (.pointer (some ⟨g,0,none⟩)):=kv.cell 0;clear hfin;go_wp2_with fail;refine (rdend_any g Ar r.length cr r true wr hR).mono ?_;rintro e w8 ⟨he,b8⟩;have kf8:=kf.below b8 kf.lt;have gb8:=gb.trans (b8.mono (by omega))
      by_cases hr : r = []
      · rw [if_pos ⟨hr,rfl⟩] at he
        subst he;have HE:=Lib.hid (show getAllE bs = (xs,0) by rw [HF.out,if_pos hr]);have ho8:=ho.below b8 (Nat.le_refl _)
        have HYS8:=Lib.hid (show ∀ y ∈ ys,EvOwn w8 B y from fun y hy=>by
          obtain ⟨q1,q2,q3⟩:=HYS.out y hy
          exact ⟨q1,q2.below b8 (Nat.le_refl _),q3⟩)
        have cf8 : w8.cell? ⟨B,0,none⟩ = some (.int .i64 0):=kf8.cell 0;have ff8:=kf8.free 0;clear hr b8 kv kf hR HYS ho;go_wp2_with fail;refine leaves_cons (f:=56) (args:=#[.pointer (some ⟨B,0,none⟩)]) (by simp) (by simp [go_sem]) ?_;refine (ecaught_none _ _).mono ?_;rintro e u' w9 ⟨rfl,rfl,rfl⟩;have f9:=kf8.set_ 0 (.int .i64 0);have c9:=f9.cell 0;have o9 : OwnEv (w8.setCell ⟨B,0,none⟩ (.int .i64 0)) (g + 1) A' k c' ys:=⟨ho8.1,ownsRow_keep ho8.2 fun j hj=>Below.heap_setCell w8 _ _ j (fun e=>own_ne ho8.2 kf8 (by decide) (by rw [hj,e]))⟩
        have y9 : ∀ y ∈ ys,EvOwn (w8.setCell ⟨B,0,none⟩ (.int .i64 0)) B y:=fun y hy=>by
          obtain ⟨q1,q2,q3⟩:=HYS8.out y hy;exact ⟨q1,q2.setFar (own_ne q2.2 kf8 (by decide)) _,q3⟩
        have gb9 : Below B w (w8.setCell ⟨B,0,none⟩ (.int .i64 0)):=gb8.setCell (by show B≤B;omega) _;refine ⟨.tuple #[.slice A' k c',.int .i64 0],by simp [results,Tryz.results24,go_sem,c9],A',k,c',ys,by rw [HE.out];rfl,by rw [← HB.out];exact o9.mono (by omega),by rw [← HB.out];exact y9,by rw [HE.out];exact HMP.out,by rw [← HB.out];exact gb9⟩
      · rw [if_neg (fun h=>hr h.1)] at he
        subst he;have HE:=Lib.hid (show getAllE bs = ([],4) by rw [HF.out,if_neg hr]);clear hr;go_wp2_with fail;exact gall_close (y:=4) kf8 gb8 HB.out rfl rfl HE.out
end Go.Proofs.YtcgalmnllegnbaaGreat

namespace Go.Proofs.YtcgalmnllegnbaaGreat
set_option linter.unusedVariables false
set_option linter.unusedSimpArgs false
set_option maxRecDepth 100000
open Go.RowKit
open Dot Evt
def putAllE (xs : List EvV) : List UInt8 × Nat :=
  if 768 < xs.length then ([],6) else if xs.all (fun x=>rightE x.e) = true then (Vint.enc xs.length ++ xs.flatMap (fun x=>encE x.e),0) else ([],2)
theorem numsE_len (x : Ev) (hp : x.p.length = 7) : (numsE x).length≤13 + 2 * x.l.length:=by
  have hd : (dotNums x.l).length = 2 * x.l.length:=by rw [← dotN_len,← dotNums_nat,List.length_map]
  unfold numsE
  rw [List.length_append]
  split
  · simp only [List.length_cons,List.length_nil];omega
  · rw [List.length_append,List.length_append,hd]
    split
    · simp only [List.length_cons,List.length_nil,hp];omega
    · simp only [List.length_cons,List.length_nil];omega
theorem encE_len {x : Ev} (hp : x.p.length = 7) (hx : rightE x = true) : (encE x).length≤1230:=by
  have h:=encN_len ((numsE x).map Int.toNat);rw [List.length_map] at h;have h2:=numsE_len x hp;have h3:=(right_facts hp hx).2.2.1
  unfold encE
  omega
theorem encAll_len (xs : List EvV) (hp : ∀ x ∈ xs,x.e.p.length = 7∧rightE x.e = true) : (xs.flatMap fun x=>encE x.e).length≤1230 * xs.length:=by
  induction xs with
  | nil=>simp
  | cons a l ih =>
    have h1:=encE_len (hp a (by simp)).1 (hp a (by simp)).2
    have h2:=ih fun x hx=>hp x (by simp [hx])
    simp only [List.flatMap_cons,List.length_append,List.length_cons]
    omega
set_option maxRecDepth 100000 in
set_option maxHeartbeats 2000000 in
theorem eputAll_any (A : Option Addr) (n c : Nat) (xs : List EvV) (w : World) (hn : n≤10000000000000) (hR : RowEv w w.heap.size A n xs) :
    Calls Tryz.prog 37 #[.slice A n c] w (GiveBE w (putAllE xs).1 (putAllE xs).2):=by
  have HN:=Lib.hid hR.1
  have HRK:=Lib.hid fun (w' : World) (hb : Below w.heap.size w w')=>hR.below hb
  have HNB:=Lib.hid hn
  have hZ : ∀ s : List UInt8 × Nat,putAllE xs = s→GiveBE w (putAllE xs).1 (putAllE xs).2 = GiveBE w s.1 s.2:=fun s h=>by rw [h]
  clear hR;have HPA:=Lib.hid (show putAllE xs = putAllE xs from rfl)
  go_enter_defers Tryz.func37,Tryz.ntmps37
  go_upto_region 4 with fail
  refine nameW ?_;intro W hW;obtain ⟨B,hB⟩ : ∃ B,B = w.heap.size:=⟨_,rfl⟩;rw [← hB]
  have kf : Blk W B 31 #[.int .i64 0]:=by rw [hW,hB];exact ((Blk.new w _ _).alloc _).alloc _
  have kw : WrS W (B + 1) []:=by
    have h:=Blk.new (w.alloc (.cells #[.int .i64 0] 31)) 127 #[.slice none 0 0];rw [show (w.alloc (.cells #[.int .i64 0] 31)).heap.size = w.heap.size + 1 by simp] at h;rw [hW,hB];exact ⟨none,0,0,h.alloc _,OwnB.nil _ _⟩
  have kn : Blk W (B + 1 + 1) 3 #[.int .i64 n]:=by
    have h:=Blk.new ((w.alloc (.cells #[.int .i64 0] 31)).alloc (.cells #[.slice none 0 0] 127)) 3 #[.int .i64 n];rw [show ((w.alloc (.cells #[.int .i64 0] 31)).alloc (.cells #[.slice none 0 0] 127)).heap.size = w.heap.size + 1 + 1 by simp] at h;rw [hW,hB];exact h
  have hbb : Below B w W:=by rw [hW,hB];exact (((Below.refl _ _).alloc (Nat.le_refl _) _).alloc (by simp) _).alloc (by simp;omega) _
  have HB:=Lib.hid hB;rw [← hB] at HRK;clear hW hB hZ;have cn : W.cell? ⟨B + 1 + 1,0,none⟩ = some (.int .i64 n):=kn.cell 0;have cf : W.cell? ⟨B,0,none⟩ = some (.int .i64 0):=kf.cell 0;have ff:=kf.free 0
  by_cases hbig : 768 < n
  · have hd : decide ((768 : Int) < (n : Int)) = true:=decide_eq_true (by omega)
    have he : putAllE xs = ([],6):=by unfold putAllE;rw [if_pos (by rw [← HN.out];exact hbig)]
    have HE:=Lib.hid he;clear hbig he;go_wp2_with fail;refine leaves_cons (f:=56) (args:=#[.pointer (some ⟨B,0,none⟩)]) (by simp) (by simp [go_sem]) ?_;refine (ecaught_none _ _).mono ?_;rintro e u' w2 ⟨rfl,rfl,rfl⟩;have k2:=kf.set_ 0 (.int .i64 6);have c2:=k2.cell 0;have hb3 : Below B w (W.setCell ⟨B,0,none⟩ (.int .i64 6)):=hbb.setCell (by show B≤B;omega) _;refine ⟨.tuple #[.slice none 0 0,.int .i64 6],by simp [results,Tryz.results37,go_sem,c2],none,0,0,by rw [HE.out];rfl,?_,by rw [← HB.out];exact hb3⟩;rw [HE.out];exact OwnB.nil _ _
  have hd : decide ((768 : Int) < (n : Int)) = false:=decide_eq_false (by omega);have H768:=Lib.hid (show n≤768 by omega);clear hbig;go_wp2_with fail;refine (wnum_any (B + 1) ⟨B + 1 + 1,0,none⟩ [] n W kw cn (by have:=H768.out;omega) (by simp)).mono ?_;rintro e w1 ⟨rfl,hw1,g1⟩;have kf1:=kf.grown g1 (by simp);have hb1:=hbb.trans (only_Below g1 (B:=B) (by omega) (by have:=kf.lt;omega));clear cn cf ff kf kw kn hbb g1 hn hd;go_wp2_with fail
  go_loopw [18] (fun i wr=>∃ k : Nat,k≤n∧i = .int .i64 k∧(∀ j x,j < k→xs[j]? = some x→rightE x.e = true)∧WrS wr (B + 1) (Vint.enc n ++ (xs.take k).flatMap fun x=>encE x.e)∧Blk wr B 31 #[.int .i64 0]∧Below B w wr) (fun i _=>n - (intOf i).toNat)
  case atStart=>exact ⟨0,by omega,rfl,fun j x hj=>by omega,by simpa using hw1,kf1,hb1⟩
  case round =>
    clear hw1 kf1 hb1;obtain ⟨k,hk,rfl,hall,hw,kf,gb⟩:=hrel;have HA:=Lib.hid hall;clear hall
    by_cases hlt : k < n
    · have hkl : k < xs.length:=by rw [← HN.out];exact hlt
      obtain ⟨hok,ad,hA,hab,hcell⟩:=(HRK.out wr gb).2 k _ (List.getElem?_eq_getElem hkl);have hsn:=take_snoc xs hkl;have hkg:=List.getElem?_eq_getElem hkl
      generalize xs[k] = x at *
      have hpr : ∀ y ∈ xs.take k,y.e.p.length = 7∧rightE y.e = true:=fun y hy=>by
        obtain ⟨i,hi,rfl⟩:=List.getElem_of_mem hy;rw [List.length_take] at hi
        have e1 : xs[i]? = some (xs.take k)[i]:=by rw [List.getElem_take,List.getElem?_eq_getElem]
        exact ⟨((HRK.out wr gb).2 i _ e1).1.1,HA.out i _ (by omega) e1⟩
      have hlen:=encAll_len _ hpr;rw [List.length_take] at hlen;have hl6:=enc_len6 n;have HLL:=Lib.hid (show (Vint.enc n ++ (xs.take k).flatMap fun x=>encE x.e).length≤140737488350000 by rw [List.length_append];have:=H768.out;omega);subst hA
      have hyes:=fun (w' : World) (h : WrS w' (B + 1) (Vint.enc n ++ (xs.take k).flatMap fun x=>encE x.e)) (h2 : RdD w' (B + 1) x.A x.m x.e.l) (hx : rightE x.e = true)=>wput_yes x.e hok.1 x.A x.m x.c (B + 1) _ w' h h2 hx HLL.out
      have hno:=fun (w' : World) (h2 : RdD w' w'.heap.size x.A x.m x.e.l) (hx : rightE x.e = false)=>wput_no x.e hok.1 x.A x.m x.c (B + 1) w' h2 hx
      obtain ⟨cs,hcs⟩ : ∃ cs,cs = x.cs:=⟨_,rfl⟩;have hec : ec x.e (.slice x.A x.m x.c) = cs:=hcs.symm;rw [hec] at hyes hno;rw [← hcs] at hcell;have HYES:=Lib.hid hyes;have HNO:=Lib.hid hno;have HSZ:=Lib.hid (show cs.size = 14 by rw [hcs];rfl);have H1C:=Lib.hid (show cs.all (·.oneCell') = true by rw [hcs];exact x.one);have HC:=Lib.hid hcell;have HOK:=Lib.hid hok;have HSN:=Lib.hid hsn;have HKG:=Lib.hid hkg;have HWR:=Lib.hid hw
      have hk0 : (0 : Int)≤(k : Int):=by omega
      have hkm : (k : Int) < (n : Int):=by omega
      have hgs:=hw.lt;clear hcs hec hcell hok hsn hkg hlen hl6 hpr hyes hno hw
      go_upto_region 9 with fail
      go_upto_region 10 with first
        | ((with_reducible refine wpList_lda rowE HC.out HSZ.out ?_ ?_);rotate_left;(rfl))
        | ((with_reducible refine wpList_st rowE (Blk.new _ _ _) HSZ.out ?_ H1C.out ?_ ?_ ?_);(rfl);rotate_left;(rfl);(rfl);intro w6 k6 g6 z6)
      have bA : Below wr.heap.size wr w6:=(((Below.refl _ _).alloc (Nat.le_refl _) _).grown g6 (by simp) (fun q hq=>by injection hq with hq;omega));have gb6:=gb.trans (bA.mono (by have:=kf.lt;omega));have kf6:=kf.below bA kf.lt;have hw6:=HWR.out.below bA;have hrd6:=(HOK.out.2.1.below (bA.mono (by have:=kf.lt;omega))).more (show B≤B + 1 by omega);obtain ⟨gr,hgr2⟩ : ∃ gr,gr = wr.heap.size:=⟨_,rfl⟩;rw [← hgr2] at k6 ⊢;clear hgr2 g6 z6 bA gb kf
      cases hx : rightE x.e
      case false =>
        have he : putAllE xs = ([],2):=by
          unfold putAllE
          rw [if_neg (by rw [← HN.out];have:=H768.out;omega),if_neg];intro h
          have:=List.all_eq_true.1 h x (List.mem_of_getElem? HKG.out)
          rw [hx] at this
          cases this
        have HE:=Lib.hid he;have hn2:=HNO.out w6 hrd6.size hx;clear he hx
        go_wp2_with first
          | ((with_reducible refine wpList_ld rowE k6 HSZ.out ?_ ?_);rotate_left;(rfl))
        refine hn2.mono ?_;rintro e w7 ⟨rfl,b7⟩;have kf7:=kf6.below b7 kf6.lt;go_wp2_with fail;refine leaves_cons (f:=56) (args:=#[.pointer (some ⟨B,0,none⟩)]) (by simp) (by simp [go_sem]) ?_;refine (ecaught_panic _ _ _ _ _ (kf7.cell 0) (kf7.free 0)).mono ?_;rintro e u' w8 ⟨rfl,rfl,rfl⟩;have k8:=(kf7.alloc (.cells #[.int .i64 2] 138)).set_ 0 (.int .i64 2);have c8:=k8.cell 0;have hb8 : Below B w ((w7.alloc (.cells #[.int .i64 2] 138)).setCell ⟨B,0,none⟩ (.int .i64 2)):=((gb6.trans (b7.mono (by have:=kf6.lt;omega))).alloc (by have:=gb6.size;have:=b7.size;have:=HB.out;omega) _).setCell (by show B≤B;omega) _;refine ⟨.tuple #[.slice none 0 0,.int .i64 2],by simp [results,Tryz.results37,go_sem,c8],none,0,0,by rw [HE.out];rfl,?_,by rw [← HB.out];exact hb8⟩;rw [HE.out];exact OwnB.nil _ _
      case true =>
        have hy2:=HYES.out w6 hw6 hrd6 hx;have HX:=Lib.hid hx;clear hx
        go_wp2_with first
          | ((with_reducible refine wpList_ld rowE k6 HSZ.out ?_ ?_);rotate_left;(rfl))
        refine hy2.mono ?_;rintro e w7 ⟨rfl,hw7,g7⟩;have kf7:=kf6.grown g7 (by simp);have gb7:=gb6.trans (only_Below g7 (B:=B) (by omega) (by have:=kf6.lt;omega));go_wp2_with fail
        go_roundw
        case rel=>exact ⟨k + 1,by omega,num_succ k (by have:=H768.out;omega),fun j y hj hy=>by
          by_cases e : j = k
          · subst e;rw [HKG.out] at hy;injection hy with hy;rw [← hy];exact HX.out
          · exact HA.out j y (by omega) hy,by rw [HSN.out,List.flatMap_append];simpa using hw7,kf7,gb7⟩
        case measure=>exact meas_succ k n hlt (by have:=H768.out;omega)
    · have he : putAllE xs = (Vint.enc n ++ xs.flatMap fun x=>encE x.e,0):=by
        unfold putAllE
        rw [if_neg (by rw [← HN.out];have:=H768.out;omega),if_pos,← HN.out];rw [List.all_eq_true];intro x hx;obtain ⟨i,hi,rfl⟩:=List.getElem_of_mem hx;exact HA.out i _ (by have:=HN.out;omega) (List.getElem?_eq_getElem hi)
      have HE:=Lib.hid he;rw [List.take_of_length_le (by rw [← HN.out];omega)] at hw;clear he;obtain ⟨A1,n1,c1,kw1,ho1⟩:=hw;have q1 : wr.cell? ⟨B + 1,0,none⟩ = some (.slice A1 n1 c1):=kw1.cell 0;have f1 : wr.cell? ⟨B,0,none⟩ = some (.int .i64 0):=kf.cell 0;have f2:=kf.free 0;have hkd : decide ((k : Int) < (n : Int)) = false:=decide_eq_false (by omega);go_wp2_with fail;refine leaves_cons (f:=56) (args:=#[.pointer (some ⟨B,0,none⟩)]) (by simp) (by simp [go_sem]) ?_;refine (ecaught_none _ _).mono ?_;rintro e u' w2 ⟨rfl,rfl,rfl⟩;have k2:=kf.set_ 0 (.int .i64 0);have c2:=k2.cell 0;have hb3 : Below B w (wr.setCell ⟨B,0,none⟩ (.int .i64 0)):=gb.setCell (by show B≤B;omega) _;refine ⟨.tuple #[.slice A1 n1 c1,.int .i64 0],by simp [results,Tryz.results37,go_sem,c2],A1,n1,c1,by rw [HE.out];rfl,?_,by rw [← HB.out];exact hb3⟩;rw [HE.out];refine (ho1.setFar ?_ _).mono (by have:=HB.out;omega)
      rcases A1 with _ | a
      · simp
      · have:=(ho1.lt a.block rfl).1
        simp
        omega
end Go.Proofs.YtcgalmnllegnbaaGreat

namespace Go.Proofs.YtcgalmnllegnbaaGreat
set_option linter.unusedVariables false
set_option linter.unusedSimpArgs false
set_option maxRecDepth 100000
open Dot Evt
theorem flat_nat (l : List Nat) : l.flatMap Vint.enc = encN l:=rfl
theorem encD_eq (l : List Dt) : encN ((dotNums l).map Int.toNat) = encD l:=by
  rw [dotNums_nat]
  induction l with
  | nil=>rfl
  | cons a l ih =>
    show encN (a.1.toNat :: a.2.toNat :: dotN l) = Vint.enc a.1.toNat ++ Vint.enc a.2.toNat ++ encD l
    rw [encN_cons,encN_cons,ih,List.append_assoc]
theorem encE_eq (x : Ev) : encE x = Vint.enc x.d.1.toNat ++ (Vint.enc x.d.2.toNat ++ (Vint.enc x.t.toNat ++ (Vint.enc x.k.toNat ++ (Vint.enc x.w.toNat ++ (if x.k = 1 then Vint.enc x.v.toNat else (if x.k = 2 then encN (x.p.map Int.toNat) else []) ++ (Vint.enc x.l.length ++ encD x.l)))))):=by
  unfold encE numsE
  rw [List.map_append,encN_app]
  have h1 : encN (([x.d.1,x.d.2,x.t,x.k,x.w] : List Int).map Int.toNat) = Vint.enc x.d.1.toNat ++ (Vint.enc x.d.2.toNat ++ (Vint.enc x.t.toNat ++ (Vint.enc x.k.toNat ++ Vint.enc x.w.toNat))):=by simp [encN]
  rw [h1]
  by_cases hk : x.k = 1
  · rw [if_pos hk,if_pos hk]
    simp [encN]
  · rw [if_neg hk,if_neg hk,List.map_append,List.map_append,encN_app,encN_app,encD_eq]
    by_cases h2 : x.k = 2
    · rw [if_pos h2,if_pos h2]
      simp [encN]
    · rw [if_neg h2,if_neg h2]
      simp [encN]
theorem decE_put {l : List UInt8} {x : Ev} {r : List UInt8} (h : decE l = .ok (x,r)) : l = encE x ++ r:=by
  unfold decE at h
  split at h
  · cases h
  rename_i n l1 h1
  split at h
  · cases h
  rename_i q l2 h2
  split at h
  · cases h
  rename_i t l3 h3
  split at h
  · cases h
  rename_i k l4 h4
  split at h
  case isFalse=>cases h
  rename_i hk
  split at h
  · cases h
  rename_i wk l5 h5
  have e1:=(Vint.dec_ok h1).1;have e2:=(Vint.dec_ok h2).1;have e3:=(Vint.dec_ok h3).1;have e4:=(Vint.dec_ok h4).1;have e5:=(Vint.dec_ok h5).1
  suffices hs : ∃ s,encE x = Vint.enc n ++ (Vint.enc q ++ (Vint.enc t ++ (Vint.enc k ++ (Vint.enc wk ++ s))))∧l5 = s ++ r by
    obtain ⟨s,g1,g2⟩:=hs;rw [g1,e1,e2,e3,e4,e5,g2]
    simp only [List.append_assoc]
  rw [encE_eq]
  unfold decK at h
  split at h
  · rename_i k1
    split at h
    · cases h
    · rename_i v r' h6
      injection h with h
      injection h with h h'
      subst h h';refine ⟨Vint.enc v,?_,(Vint.dec_ok h6).1⟩
      simp only [Int.toNat_natCast]
      rw [if_pos (by omega)]
  · rename_i k1
    split at h
    · rename_i k2
      split at h
      · cases h
      · rename_i p r' h6
        split at h
        · cases h
        · rename_i ds r'' h7
          injection h with h
          injection h with h h'
          subst h h';refine ⟨encN p ++ (Vint.enc ds.length ++ encD ds),?_,?_⟩
          · simp only [Int.toNat_natCast]
            rw [if_neg (by omega),if_pos (by omega),List.map_map]
            have : p.map (Int.toNat ∘ fun x : Nat=>(x : Int)) = p:=by
              conv=>rhs;rw [← List.map_id p]
              exact List.map_congr_left fun z _=>by simp
            rw [this]
          · rw [(decs_suf _ _ _ _ h6).1,(decL_suf h7).1,flat_nat]
            simp only [List.append_assoc]
    · rename_i k2
      split at h
      · cases h
      · rename_i ds r'' h7
        injection h with h
        injection h with h h'
        subst h h';refine ⟨Vint.enc ds.length ++ encD ds,?_,?_⟩
        · simp only [Int.toNat_natCast]
          rw [if_neg (by omega),if_neg (by omega),List.nil_append]
        · rw [(decL_suf h7).1]
          simp only [List.append_assoc]
end Go.Proofs.YtcgalmnllegnbaaGreat

namespace Go.Proofs.YtcgalmnllegnbaaGreat.Ms
set_option linter.unusedVariables false
set_option linter.unusedSimpArgs false
set_option maxRecDepth 100000
open Dot
open Evt (Ev inB inB_iff rightE)
def partE (m : Msg) (r : List UInt8) : Except Nat Msg :=
  if m.kind = 4 then (if getE r = 0 then .ok { m with u:=getU r,more:=getL r } else .error (getE r))
  else if m.kind = 5 then (if (Evt.getAllE r).2 = 0 then .ok { m with ev:=(Evt.getAllE r).1 } else .error (Evt.getAllE r).2)
  else if r = [] then .ok m else .error 4
def getX (xs : List UInt8) : Except Nat Msg :=
  match headE xs with
  | .error y=>.error y
  | .ok (m,r)=>match partE m r with
    | .error y=>.error y
    | .ok m'=>if rightM m' = true then .ok m' else .error 4
def getG (bs : List UInt8) : Except Nat Msg :=
  match Frame.dec bs with
  | .error y=>.error y
  | .ok (xs,r)=>if r = [] then getX xs else .error 4
def getM (bs : List UInt8) : Msg × Nat:=match getG bs with
  | .error y=>(zero,y)
  | .ok m=>(m,0)
theorem getM_err {bs : List UInt8} {y : Nat} (h : getG bs = .error y) : getM bs = (zero,y):=by unfold getM;rw [h]
theorem getM_ok {bs : List UInt8} {m : Msg} (h : getG bs = .ok m) : getM bs = (m,0):=by unfold getM;rw [h]
theorem getG_dec {bs : List UInt8} {y : Nat} (h : Frame.dec bs = .error y) : getG bs = .error y:=by unfold getG;rw [h]
theorem getG_rest {bs xs r : List UInt8} (h : Frame.dec bs = .ok (xs,r)) (hr : r ≠ []) : getG bs = .error 4:=by unfold getG;rw [h];simp only;rw [if_neg hr]
theorem getG_x {bs xs : List UInt8} (h : Frame.dec bs = .ok (xs,[])) : getG bs = getX xs:=by unfold getG;rw [h];simp only;rw [if_pos trivial]
theorem getX_head {xs : List UInt8} {y : Nat} (h : headE xs = .error y) : getX xs = .error y:=by unfold getX;rw [h]
theorem getX_part {xs r : List UInt8} {m : Msg} {y : Nat} (h : headE xs = .ok (m,r)) (hp : partE m r = .error y) : getX xs = .error y:=by unfold getX;rw [h];simp only [hp]
theorem getX_end {xs r : List UInt8} {m m' : Msg} (h : headE xs = .ok (m,r)) (hp : partE m r = .ok m') : getX xs = if rightM m' = true then .ok m' else .error 4:=by unfold getX;rw [h];simp only [hp]
theorem head_nb (m : Msg) (S : List UInt8) : nb (headN m) ++ S = Vint.enc m.kind.toNat ++ (Vint.enc m.frm.toNat ++ (Vint.enc m.to.toNat ++ (Vint.enc m.mem.length ++ (nb (m.mem.flatMap fun x=>[x.1,x.2.1,x.2.2]) ++ (nb (if m.kind ≠ 5 then [m.seq] else []) ++ (nb (if m.kind = 2∨m.kind = 3 then [m.node] else []) ++ S)))))):=by
  unfold headN
  have e1 : nb [((m.mem.length : Nat) : Int)] = Vint.enc m.mem.length:=by rw [nb_cons,show nb [] = [] from rfl,List.append_nil,Int.toNat_natCast]
  rw [nb_app,nb_app,nb_app,nb_cons,nb_cons,nb_cons,e1]
  simp only [List.append_assoc]
theorem nb_one (z : Nat) : nb [(z : Int)] = Vint.enc z:=by rw [nb_cons,show nb [] = [] from rfl,List.append_nil,Int.toNat_natCast]
theorem tripE_fwd {bs r : List UInt8} {v : Mem} (h : tripE bs = .ok (v,r)) : bs = nb [v.1,v.2.1,v.2.2] ++ r:=by
  unfold tripE at h
  cases hd : Vint.dec bs with
  | error y=>rw [hd] at h;cases h
  | ok q =>
    obtain ⟨a,r1⟩:=q;rw [hd] at h
    simp only at h
    cases hd1 : Vint.dec r1 with
    | error y=>rw [hd1] at h;cases h
    | ok q =>
      obtain ⟨c,r2⟩:=q;rw [hd1] at h
      simp only at h
      cases hd2 : Vint.dec r2 with
      | error y=>rw [hd2] at h;cases h
      | ok q =>
        obtain ⟨d,r3⟩:=q;rw [hd2] at h
        simp only at h
        injection h with h
        injection h with h1 h2
        subst h1 h2;rw [(Vint.dec_ok hd).1,(Vint.dec_ok hd1).1,(Vint.dec_ok hd2).1,nb_cons,nb_cons,nb_one]
        simp only [Int.toNat_natCast,List.append_assoc]
theorem trips_fwd : ∀ (k : Nat) (acc : List Mem) (bs : List UInt8) (l : List Mem) (r : List UInt8),tripsE k acc bs = .ok (l,r)→∃ l',l = acc ++ l'∧l'.length = k∧bs = nb (l'.flatMap fun x=>[x.1,x.2.1,x.2.2]) ++ r:=by
  intro k
  induction k with
  | zero =>
    intro acc bs l r h
    injection h with h
    injection h with h1 h2
    subst h1 h2;exact ⟨[],by simp,rfl,rfl⟩
  | succ k ih =>
    intro acc bs l r h
    unfold tripsE at h
    cases ht : tripE bs with
    | error y=>rw [ht] at h;cases h
    | ok q =>
      obtain ⟨v,r1⟩:=q;rw [ht] at h
      simp only at h
      obtain ⟨l',e1,e2,e3⟩:=ih _ _ _ _ h;refine ⟨v :: l',by rw [e1,List.append_assoc];rfl,by rw [List.length_cons,e2],?_⟩;rw [tripE_fwd ht,e3,List.flatMap_cons,nb_app,List.append_assoc]
theorem headE_fwd {xs r : List UInt8} {m : Msg} (h : headE xs = .ok (m,r)) : xs = nb (headN m) ++ r∧m.u = [0,0,0,0,0,0,0,0]∧m.more = []∧m.ev = []∧m.mem.length≤8∧1≤m.kind∧m.kind≤5:=by
  unfold headE at h
  cases hd : Vint.dec xs with
  | error y=>rw [hd] at h;cases h
  | ok q =>
  obtain ⟨k,r1⟩:=q;rw [hd] at h
  simp only at h
  by_cases hk : 1≤k∧k≤5
  case neg=>rw [if_neg hk] at h;cases h
  rw [if_pos hk] at h
  unfold frmE at h
  cases hd1 : Vint.dec r1 with
  | error y=>rw [hd1] at h;cases h
  | ok q =>
  obtain ⟨f,r2⟩:=q;rw [hd1] at h
  simp only at h
  unfold toE at h
  cases hd2 : Vint.dec r2 with
  | error y=>rw [hd2] at h;cases h
  | ok q =>
  obtain ⟨t,r3⟩:=q;rw [hd2] at h
  simp only at h
  unfold cntE at h
  cases hd3 : Vint.dec r3 with
  | error y=>rw [hd3] at h;cases h
  | ok q =>
  obtain ⟨n,r4⟩:=q;rw [hd3] at h
  simp only at h
  by_cases hn : n≤8
  case neg=>rw [if_neg hn] at h;cases h
  rw [if_pos hn] at h
  unfold memE at h
  simp only [show zero.mem = [] from rfl] at h
  cases ht : tripsE n [] r4 with
  | error y=>rw [ht] at h;cases h
  | ok q =>
  obtain ⟨l,r5⟩:=q;rw [ht] at h
  simp only at h
  obtain ⟨l',e1,e2,e3⟩:=trips_fwd _ _ _ _ _ ht;rw [List.nil_append] at e1;subst e1
  have hx : ∀ S,xs = Vint.enc k ++ (Vint.enc f ++ (Vint.enc t ++ (Vint.enc l.length ++ (nb (l.flatMap fun x=>[x.1,x.2.1,x.2.2]) ++ S))))↔r5 = S:=by
    intro S;rw [(Vint.dec_ok hd).1,(Vint.dec_ok hd1).1,(Vint.dec_ok hd2).1,(Vint.dec_ok hd3).1,e3,e2]
    simp only [List.append_cancel_left_eq]
  unfold seqE at h
  by_cases k5 : (k : Int) = 5
  · rw [if_neg (by simp only;omega)] at h
    unfold nodeE at h
    rw [if_neg (by simp only;omega)] at h
    injection h with h
    injection h with h1 h2
    subst h1 h2;refine ⟨?_,rfl,rfl,rfl,by simp only;omega,by simp only;omega,by simp only;omega⟩;rw [head_nb]
    simp only [Int.toNat_natCast]
    rw [if_neg (by omega),if_neg (by omega)];exact (hx _).2 rfl
  · rw [if_pos (by simp only;omega)] at h
    cases hd5 : Vint.dec r5 with
    | error y=>rw [hd5] at h;cases h
    | ok q =>
    obtain ⟨s,r6⟩:=q;rw [hd5] at h
    simp only at h
    unfold nodeE at h
    by_cases k2 : (k : Int) = 2∨(k : Int) = 3
    · rw [if_pos (by simpa using k2)] at h
      cases hd6 : Vint.dec r6 with
      | error y=>rw [hd6] at h;cases h
      | ok q =>
      obtain ⟨z,r7⟩:=q;rw [hd6] at h
      simp only at h
      injection h with h
      injection h with h1 h2
      subst h1 h2;refine ⟨?_,rfl,rfl,rfl,by simp only;omega,by simp only;omega,by simp only;omega⟩;rw [head_nb]
      simp only [Int.toNat_natCast]
      rw [if_pos (by omega),if_pos (by omega),nb_one,nb_one];exact (hx _).2 (by rw [(Vint.dec_ok hd5).1,(Vint.dec_ok hd6).1])
    · rw [if_neg (by simpa using k2)] at h
      injection h with h
      injection h with h1 h2
      subst h1 h2;refine ⟨?_,rfl,rfl,rfl,by simp only;omega,by simp only;omega,by simp only;omega⟩;rw [head_nb]
      simp only [Int.toNat_natCast]
      rw [if_pos (by omega),if_neg (by omega),nb_one];exact (hx _).2 (by rw [(Vint.dec_ok hd5).1];rfl)
theorem eight_zero {m : Msg} (h : noSeen m = true) : m.u = [0,0,0,0,0,0,0,0]∧m.more = []:=by
  unfold noSeen at h
  rw [Bool.and_eq_true] at h;exact ⟨of_decide_eq_true h.1,of_decide_eq_true h.2⟩
theorem vdec_ne {l : List UInt8} {y : Nat} (h : Vint.dec l = .error y) : y ≠ 0:=by have:=Vint.dec_err h;omega
theorem decD_ne : ∀ (k : Nat) (l : List UInt8) (y : Nat),Evt.decD k l = .error y→y ≠ 0:=by
  intro k
  induction k with
  | zero=>intro l y h;cases h
  | succ k ih =>
    intro l y h
    unfold Evt.decD at h
    split at h
    · rename_i hd
      injection h with h
      subst h;exact ih _ _ hd
    · split at h
      · rename_i hd;injection h with h;subst h;exact vdec_ne hd
      · split at h
        · rename_i hd;injection h with h;subst h;exact vdec_ne hd
        · cases h
theorem decs_ne : ∀ (k : Nat) (l : List UInt8) (y : Nat),Evt.decs k l = .error y→y ≠ 0:=by
  intro k
  induction k with
  | zero=>intro l y h;cases h
  | succ k ih =>
    intro l y h
    unfold Evt.decs at h
    split at h
    · rename_i hd;injection h with h;subst h;exact vdec_ne hd
    · split at h
      · rename_i hd;injection h with h;subst h;exact ih _ _ hd
      · cases h
theorem decL_ne {l : List UInt8} {y : Nat} (h : Evt.decL l = .error y) : y ≠ 0:=by
  unfold Evt.decL at h
  split at h
  · rename_i hd;injection h with h;subst h;exact vdec_ne hd
  · split at h
    · injection h with h;omega
    · exact decD_ne _ _ _ h
theorem decK_ne {n q t k wk : Nat} {l : List UInt8} {y : Nat} (h : Evt.decK n q t k wk l = .error y) : y ≠ 0:=by
  unfold Evt.decK at h
  split at h
  · split at h
    · rename_i hd;injection h with h;subst h;exact vdec_ne hd
    · cases h
  · split at h
    · split at h
      · rename_i hd;injection h with h;subst h;exact decs_ne _ _ _ hd
      · split at h
        · rename_i hd;injection h with h;subst h;exact decL_ne hd
        · cases h
    · split at h
      · rename_i hd;injection h with h;subst h;exact decL_ne hd
      · cases h
theorem decE_ne {l : List UInt8} {y : Nat} (h : Evt.decE l = .error y) : y ≠ 0:=by
  unfold Evt.decE at h
  split at h
  · rename_i hd;injection h with h;subst h;exact vdec_ne hd
  split at h
  · rename_i hd;injection h with h;subst h;exact vdec_ne hd
  split at h
  · rename_i hd;injection h with h;subst h;exact vdec_ne hd
  split at h
  · rename_i hd;injection h with h;subst h;exact vdec_ne hd
  split at h
  case isFalse=>injection h with h;omega
  split at h
  · rename_i hd;injection h with h;subst h;exact vdec_ne hd
  exact decK_ne h
theorem decEs_ne : ∀ {k : Nat} {l : List UInt8} {y : Nat},Evt.decEs k l = .error y→y ≠ 0:=by
  intro k
  induction k with
  | zero=>intro l y h;cases h
  | succ k ih =>
    intro l y h
    unfold Evt.decEs at h
    split at h
    · rename_i hd
      injection h with h
      subst h;exact ih hd
    · split at h
      · rename_i hd;injection h with h;subst h;exact decE_ne hd
      · split at h
        · cases h
        · injection h with h;omega
theorem decEs_fwd : ∀ (k : Nat) (l : List UInt8) (xs : List Ev) (r : List UInt8),Evt.decEs k l = .ok (xs,r)→l = xs.flatMap encE ++ r∧xs.length = k∧∀ x ∈ xs,x.p.length = 7∧rightE x = true:=by
  intro k
  induction k with
  | zero =>
    intro l xs r h
    unfold Evt.decEs at h
    injection h with h
    injection h with h1 h2
    subst h1 h2;exact ⟨rfl,rfl,fun x hx=>by simp at hx⟩
  | succ k ih =>
    intro l xs r h
    unfold Evt.decEs at h
    cases hd : Evt.decEs k l with
    | error y=>rw [hd] at h;cases h
    | ok q =>
      obtain ⟨ys,r1⟩:=q;rw [hd] at h
      simp only at h
      cases hd2 : Evt.decE r1 with
      | error y=>rw [hd2] at h;cases h
      | ok q =>
        obtain ⟨x,r2⟩:=q;rw [hd2] at h
        simp only at h
        by_cases hr : rightE x = true
        case neg=>rw [if_neg hr] at h;cases h
        rw [if_pos hr] at h
        injection h with h
        injection h with h1 h2
        subst h1 h2;obtain ⟨e1,e2,e3⟩:=ih _ _ _ hd;refine ⟨?_,by rw [List.length_append,e2];rfl,fun z hz=>?_⟩
        · rw [e1,decE_put hd2,List.flatMap_append]
          simp
        · rcases List.mem_append.1 hz with hz | hz
          · exact e3 z hz
          · rw [List.mem_singleton.1 hz]
            exact ⟨decE_p hd2,hr⟩
theorem getAll_fwd {l : List UInt8} (h : (Evt.getAllE l).2 = 0) : l = Vint.enc (Evt.getAllE l).1.length ++ (Evt.getAllE l).1.flatMap encE∧(∀ x ∈ (Evt.getAllE l).1,x.p.length = 7∧rightE x = true)∧(Evt.getAllE l).1.length≤768:=by
  unfold Evt.getAllE at h ⊢
  have key : ∀ y,Evt.decA l = .error y→y ≠ 0:=by
    intro y hy
    unfold Evt.decA at hy
    split at hy
    · rename_i hd
      injection hy with hy
      subst hy
      have:=Vint.dec_err hd
      omega
    · split at hy
      · injection hy with hy;omega
      · split at hy
        · rename_i hd
          injection hy with hy
          subst hy;exact decEs_ne hd
        · split at hy
          · cases hy
          · injection hy with hy;omega
  cases hd : Evt.decA l with
  | error y =>
    rw [hd] at h;exact absurd h (key y hd)
  | ok xs =>
    simp only
    unfold Evt.decA at hd
    cases hv : Vint.dec l with
    | error y=>rw [hv] at hd;cases hd
    | ok q =>
      obtain ⟨n,r⟩:=q;rw [hv] at hd
      simp only at hd
      by_cases hn : 768 < n
      · rw [if_pos hn] at hd;cases hd
      rw [if_neg hn] at hd
      cases he : Evt.decEs n r with
      | error y=>rw [he] at hd;cases hd
      | ok q =>
        obtain ⟨ys,r'⟩:=q;rw [he] at hd
        simp only at hd
        by_cases hr : r' = []
        case neg=>rw [if_neg hr] at hd;cases hd
        rw [if_pos hr] at hd
        injection hd with hd
        subst hd hr;obtain ⟨e1,e2,e3⟩:=decEs_fwd _ _ _ _ he;refine ⟨?_,e3,by omega⟩;rw [(Vint.dec_ok hv).1,e2]
        conv=>lhs;rw [e1]
        simp
theorem part_inv {m m' : Msg} {r : List UInt8} (h : partE m r = .ok m') :
    (m.kind = 4∧getE r = 0∧m' = { m with u:=getU r,more:=getL r })∨(m.kind ≠ 4∧m.kind = 5∧(Evt.getAllE r).2 = 0∧m' = { m with ev:=(Evt.getAllE r).1 })∨(m.kind ≠ 4∧m.kind ≠ 5∧r = []∧m' = m):=by
  unfold partE at h
  by_cases h4 : m.kind = 4
  · rw [if_pos h4] at h
    by_cases hg : getE r = 0
    · rw [if_pos hg] at h
      injection h with h
      exact .inl ⟨h4,hg,h.symm⟩
    · rw [if_neg hg] at h;cases h
  · rw [if_neg h4] at h
    by_cases h5 : m.kind = 5
    · rw [if_pos h5] at h
      by_cases hg : (Evt.getAllE r).2 = 0
      · rw [if_pos hg] at h
        injection h with h
        exact .inr (.inl ⟨h4,h5,hg,h.symm⟩)
      · rw [if_neg hg] at h;cases h
    · rw [if_neg h5] at h
      by_cases hg : r = []
      · rw [if_pos hg] at h
        injection h with h
        exact .inr (.inr ⟨h4,h5,hg,h.symm⟩)
      · rw [if_neg hg] at h;cases h
theorem tail4 {m : Msg} (h : m.kind = 4) : tailM m = encs (putL m.u m.more):=by unfold tailM;rw [if_pos h]
theorem tail5 {m : Msg} (h4 : m.kind ≠ 4) (h : m.kind = 5) : tailM m = Vint.enc m.ev.length ++ m.ev.flatMap encE:=by unfold tailM;rw [if_neg h4,if_pos h]
theorem tail0 {m : Msg} (h4 : m.kind ≠ 4) (h : m.kind ≠ 5) : tailM m = []:=by unfold tailM;rw [if_neg h4,if_neg h]
theorem get_fwd {xs : List UInt8} {m : Msg} (h : getX xs = .ok m) : xs = bodyM m∧rightM m = true∧m.u.length = 8∧∀ x ∈ m.ev,x.p.length = 7:=by
  unfold getX at h
  cases hh : headE xs with
  | error y=>rw [hh] at h;cases h
  | ok q =>
  obtain ⟨m0,r⟩:=q;rw [hh] at h
  simp only at h
  obtain ⟨e1,e2,e3,e4,e5,e6,e7⟩:=headE_fwd hh
  cases hp : partE m0 r with
  | error y=>rw [hp] at h;cases h
  | ok m' =>
  rw [hp] at h
  simp only at h
  by_cases hr : rightM m' = true
  case neg=>rw [if_neg hr] at h;cases h
  rw [if_pos hr] at h
  injection h with h
  subst h
  rcases part_inv hp with ⟨h4,hg,hm⟩ | ⟨h4,h5,hg,hm⟩ | ⟨h4,h5,hg,hm⟩
  · obtain ⟨g1,g2,g3⟩:=put_get hg
    generalize getU r = U at *
    generalize getL r = l at *
    have hk : m'.kind = 4:=by rw [hm];exact h4
    have hu : m'.u = U:=by rw [hm]
    have hl : m'.more = l:=by rw [hm]
    have hn : headN m' = headN m0:=by rw [hm];rfl
    have he : m'.ev = m0.ev:=by rw [hm]
    refine ⟨?_,hr,by rw [hu];exact g3,fun x hx=>by rw [he,e4] at hx;simp at hx⟩
    unfold bodyM
    rw [tail4 hk,hn,hu,hl,g2];exact e1
  · obtain ⟨g1,g2,g3⟩:=getAll_fwd hg
    generalize (Evt.getAllE r).1 = es at *
    have hk : m'.kind = m0.kind:=by rw [hm]
    have hn : headN m' = headN m0:=by rw [hm];rfl
    have he : m'.ev = es:=by rw [hm]
    have hu : m'.u = m0.u:=by rw [hm]
    refine ⟨?_,hr,by rw [hu,e2];rfl,fun x hx=>(g2 x (by rw [← he];exact hx)).1⟩
    unfold bodyM
    rw [tail5 (by rw [hk];exact h4) (by rw [hk];exact h5),hn,he,← g1];exact e1
  · subst hm
    refine ⟨?_,hr,by rw [e2];rfl,fun x hx=>by rw [e4] at hx;simp at hx⟩
    unfold bodyM
    rw [tail0 h4 h5,← hg];exact e1
end Go.Proofs.YtcgalmnllegnbaaGreat.Ms

namespace Go.Proofs.YtcgalmnllegnbaaGreat
set_option linter.unusedVariables false
set_option linter.unusedSimpArgs false
set_option maxRecDepth 100000
open Go.RowKit
def leftL (l : List Bool) : Nat:=(l.filter fun b=>!b).length
theorem leftL_set : ∀ (l : List Bool) (i : Nat),l[i]? = some false→leftL (l.set i true) + 1 = leftL l
  | [],i,h=>by simp at h
  | b :: l,0,h=>by
    simp at h
    subst h
    simp [leftL]
  | b :: l,i + 1,h=>by
    have ih:=leftL_set l i (by simpa using h)
    cases b
    · simp [leftL] at ih ⊢
      omega
    · simp [leftL] at ih ⊢
      omega
theorem leftL_zero : ∀ (l : List Bool),leftL l = 0→∀ (i : Nat) b,l[i]? = some b→b = true
  | [],_,i,b,h=>by simp at h
  | c :: l,h0,0,b,h=>by
    simp at h
    subst h
    cases c
    · simp [leftL] at h0
    · rfl
  | c :: l,h0,i + 1,b,h=>by
    refine leftL_zero l ?_ i b (by simpa using h)
    cases c
    · simp [leftL] at h0
    · simpa [leftL] using h0
def upd (L : Nat→Bool) (i : Nat) : Nat→Bool:=fun j=>if j = i then true else L j
section
variable {P : Program} {ops : Array Oper} {Q : Exit→Act→World→Prop} {md : Region.Mode} {I : (Nat→Bool)→Act→World→Prop}
theorem wpAny_inv (hstep : ∀ i o (L : Nat→Bool) a w,ops[i]? = some o→L i = false→(∀ e ∈ o.after,Region.binds md e = true→L e.on = true)→I L a w→wpOp P ops Q i (I (upd L i)) a w)
    (hend : ∀ (L : Nat→Bool) a w,(∀ i,i < ops.size→L i = true)→I L a w→Q .normal a w)
    (htop : ∀ i o,ops[i]? = some o→∀ e ∈ o.after,Region.binds md e = true→e.on < i) :
    ∀ (fuel : Nat) (listed : Array Bool) (a : Act) (w : World),listed.size = ops.size→leftL listed.toList≤fuel→I (fun i=>listed.getD i true) a w→wpAny P md ops Q fuel listed a w:=by
  have hall : ∀ (listed : Array Bool),listed.size = ops.size→Region.ready md ops listed = []→∀ i,i < ops.size→listed.getD i true = true:=by
    intro listed hs h0 i
    induction i using Nat.strongRecOn with
    | ind i ih =>
      intro hi
      false_or_by_contra
      rename_i hne
      have hf : listed.getD i true = false:=by simpa using hne
      have ho : ops[i]? = some ops[i]:=Array.getElem?_eq_getElem hi
      have hm : i ∈ Region.ready md ops listed:=mem_ready.2 ⟨hf,ops[i],ho,fun e he hb=>by
        have h1:=htop i _ ho e he hb;have h2:=ih e.on h1 (by omega);rw [Array.getD_eq_getD_getElem?,Array.getElem?_eq_getElem (by omega)] at h2 ⊢
        exact h2⟩
      rw [h0] at hm
      cases hm
  intro fuel
  induction fuel with
  | zero =>
    intro listed a w hs hl hI
    have ht : ∀ i,i < ops.size→listed.getD i true = true:=fun i hi=>by
      have h1 : listed.toList[i]? = some listed[i]:=by rw [Array.getElem?_toList,Array.getElem?_eq_getElem (by omega)]
      have h2:=leftL_zero _ (by omega) i _ h1;rw [Array.getD_eq_getD_getElem?,Array.getElem?_eq_getElem (by omega)];exact h2
    refine ⟨?_,hend _ a w ht hI⟩;rw [List.eq_nil_iff_forall_not_mem];intro j hj;obtain ⟨h1,o,ho,_⟩:=mem_ready.1 hj;rw [ht j (Array.getElem?_eq_some_iff.1 ho).1] at h1
    cases h1
  | succ fuel ih =>
    intro listed a w hs hl hI;refine ⟨fun h0=>hend _ a w (hall listed hs h0) hI,fun i hi=>?_⟩;obtain ⟨h1,o,ho,hd⟩:=mem_ready.1 hi
    have hlt : i < listed.size:=by have:=(Array.getElem?_eq_some_iff.1 ho).1;omega
    have hst:=hstep i o (fun i=>listed.getD i true) a w ho h1 (fun e he hb=>by
      have h2:=hd e he hb
      show listed.getD e.on true = true
      rcases Nat.lt_or_ge e.on listed.size with h | h
      · rw [Array.getD_eq_getD_getElem?,Array.getElem?_eq_getElem h] at h2 ⊢
        exact h2
      · rw [Array.getD_eq_getD_getElem?,Array.getElem?_eq_none h]
        rfl) hI
    refine wpOp_mono (fun a' w' h=>ih _ a' w' (by simpa using hs) ?_ ?_) hst
    · have h3 : listed.toList[i]? = some false:=by
        rw [Array.getElem?_toList,Array.getElem?_eq_getElem hlt];rw [Array.getD_eq_getD_getElem?,Array.getElem?_eq_getElem hlt] at h1;exact congrArg some h1
      have h4:=leftL_set _ i h3;rw [Array.toList_setIfInBounds]
      omega
    · have e : (fun j=>(listed.setIfInBounds i true).getD j true) = upd (fun j=>listed.getD j true) i:=by
        funext j
        unfold upd
        by_cases hj : j = i
        · subst hj
          rw [if_pos rfl,Array.getD_eq_getD_getElem?]
          simp [hlt]
        · rw [if_neg hj]
          show (listed.setIfInBounds i true).getD j true = listed.getD j true
          rw [Array.getD_eq_getD_getElem?,Array.getD_eq_getD_getElem?,Array.getElem?_setIfInBounds_ne (fun e=>hj e.symm)]
      rw [e];exact h
def waits (md : Region.Mode) (o : Oper) : List Nat:=(o.after.toList.filter fun e=>Region.binds md e).map (·.on)
structure InvSteps (P : Program) (md : Region.Mode) (ops : Array Oper) (Q : Exit→Act→World→Prop) (I : (Nat→Bool)→Act→World→Prop) (rs : List Nat) : Prop where
  out : ∀ i ∈ rs,∀ o (L : Nat→Bool) a w,ops[i]? = some o→L i = false→(∀ d ∈ waits md o,L d = true)→I L a w→wpOp P ops Q i (I (upd L i)) a w
theorem InvSteps.nil : InvSteps P md ops Q I []:=⟨fun _ h=>by cases h⟩
theorem InvSteps.cons {i : Nat} {o : Oper} {ds : List Nat} {rs : List Nat} (ho : ops[i]? = some o) (hd : waits md o = ds)
    (h : ∀ (L : Nat→Bool) (a : Act) (w : World),L i = false→(∀ d ∈ ds,L d = true)→I L a w→∀ K : Act→World→Prop,Shut (∀ a w,I (upd L i) a w→K a w)→if Region.wanted o (yielded ops a.tmps) = true then Oper.wp P o a w K Q else K (a.put o.dst undef) w)
    (hs : InvSteps P md ops Q I rs) : InvSteps P md ops Q I (i :: rs):=⟨fun j hj=>by
  rcases List.mem_cons.1 hj with rfl | hj
  · intro o' L a w ho' hL hdep hI
    rw [ho] at ho'
    injection ho' with ho'
    subst ho';rw [hd] at hdep;exact wpOp_step ho (fun K hK=>h L a w hL hdep hI K hK)
  · exact hs.out j hj⟩
theorem wp_region_inv (I : (Nat→Bool)→Act→World→Prop) {id : Nat} {a : Act} {w : World} (hm : P.follows .mixedOrders = true)
    (htop : ((List.range ops.size).all fun i=>((ops[i]?).map fun o=>(waits .any o).all fun d=>decide (d < i)).getD true) = true)
    (h0 : ∀ L : Nat→Bool,(∀ i,i < ops.size→L i = false)→I L a w.drew) (hst : InvSteps P .any ops Q I (List.range ops.size))
    (hend : ∀ (L : Nat→Bool) a w,(∀ i,i < ops.size→L i = true)→I L a w→Q .normal a w) : (Code.region id ops true).wp P Q a w:=by
  refine wp_region_any hm (wpAny_inv (I:=I) ?_ hend ?_ ops.size _ a _ (by simp) ?_ ?_)
  · intro i o L a w ho hL hdep hI
    refine hst.out i (List.mem_range.2 (Array.getElem?_eq_some_iff.1 ho).1) o L a w ho hL (fun d hd=>?_) hI
    unfold waits at hd
    obtain ⟨e,he,rfl⟩:=List.mem_map.1 hd;obtain ⟨h1,h2⟩:=List.mem_filter.1 he;exact hdep e (by simpa using h1) h2
  · intro i o ho e he hb
    have h1:=List.all_eq_true.1 htop i (List.mem_range.2 (Array.getElem?_eq_some_iff.1 ho).1);rw [ho] at h1
    simp only [Option.map_some,Option.getD_some] at h1
    have h2:=List.all_eq_true.1 h1 e.on (by
      unfold waits
      exact List.mem_map.2 ⟨e,List.mem_filter.2 ⟨by simpa using he,hb⟩,rfl⟩)
    exact of_decide_eq_true h2
  · rw [Array.toList_replicate]
    unfold leftL
    exact Nat.le_trans (List.length_filter_le _ _) (by simp)
  · have e : (fun i=>(Array.replicate ops.size false).getD i true) = fun i=>decide (ops.size≤i):=by
      funext i
      rw [Array.getD_eq_getD_getElem?,Array.getElem?_replicate]
      by_cases h : i < ops.size
      · rw [if_pos h]
        simp
        omega
      · rw [if_neg h]
        simp
        omega
    rw [e]
    exact h0 _ fun i hi=>decide_eq_false (by omega)
end
end Go.Proofs.YtcgalmnllegnbaaGreat

namespace Go.Proofs.YtcgalmnllegnbaaGreat
set_option linter.unusedVariables false
set_option linter.unusedSimpArgs false
set_option maxRecDepth 100000
open Go.RowKit
def upv (v : Nat→Value) (d : Option Nat) (x : Value) : Nat→Value:=match d with
  | some d=>fun s=>if s = d then x else v s
  | none=>v
def finA (a : Act) (v : Nat→Value) (ds : List Nat) : Act:=ds.foldl (fun b d=>b.put (some d) (v d)) a
structure Frm (ops : Array Oper) (a0 a : Act) (L : Nat→Bool) : Prop where
  defers : a.defers = a0.defers
  size : a.tmps.size = a0.tmps.size
  old : ∀ s,(∀ i o,ops[i]? = some o→o.dst = some s→L i = false)→a.tmps[s]? = a0.tmps[s]?
  closed : ∀ i o,ops[i]? = some o→L i = true→∀ d ∈ waits .any o,L d = true
theorem put_size (a : Act) (d : Option Nat) (x : Value) : (a.put d x).tmps.size = a.tmps.size:=by
  unfold Act.put
  cases d <;> simp
theorem put_defers (a : Act) (d : Option Nat) (x : Value) : (a.put d x).defers = a.defers:=by
  unfold Act.put
  cases d <;> rfl
theorem put_slot (a : Act) (d : Nat) (x : Value) (s : Nat) : (a.put (some d) x).tmps[s]? = if s = d∧d < a.tmps.size then some x else a.tmps[s]?:=by
  unfold Act.put
  simp only [Array.getElem?_setIfInBounds]
  by_cases e : d = s
  · subst e
    by_cases h : d < a.tmps.size
    · simp [h]
    · simp [h]
  · rw [if_neg e,if_neg (fun h=>e h.1.symm)]
theorem put_eval (a : Act) (d : Option Nat) (x : Value) (hd : ∀ k,d = some k→k < a.tmps.size) (v : Nat→Value) (hv : ∀ s,a.eval (.tmp s) = v s) : ∀ s,(a.put d x).eval (.tmp s) = upv v d x s:=by
  intro s
  cases d with
  | none=>exact hv s
  | some k =>
    have hk:=hd k rfl
    show (a.put (some k) x).tmps.getD s undef = if s = k then x else v s
    rw [Array.getD_eq_getD_getElem?,put_slot]
    by_cases e : s = k
    · rw [if_pos ⟨e,hk⟩,if_pos e];rfl
    · rw [if_neg (fun h=>e h.1),if_neg e,← hv s]
      show _ = a.tmps.getD s undef
      rw [Array.getD_eq_getD_getElem?]
theorem finA_get (v : Nat→Value) (s : Nat) : ∀ (ds : List Nat) (a : Act),(finA a v ds).tmps[s]? = if s ∈ ds∧s < a.tmps.size then some (v s) else a.tmps[s]?:=by
  intro ds
  induction ds with
  | nil=>intro a;simp [finA]
  | cons d ds ih =>
    intro a
    show (finA (a.put (some d) (v d)) v ds).tmps[s]? = _
    rw [ih,put_size,put_slot]
    by_cases e : s = d
    · subst e
      by_cases h : s < a.tmps.size
      · rw [if_pos (⟨List.mem_cons_self ..,h⟩ : s ∈ s :: ds∧_)]
        by_cases hm : s ∈ ds
        · rw [if_pos ⟨hm,h⟩]
        · rw [if_neg (fun x=>hm x.1),if_pos ⟨rfl,h⟩]
      · rw [if_neg (fun x=>h x.2),if_neg (fun x=>h x.2),if_neg (fun x=>h x.2)]
    · rw [if_neg (fun x : s = d∧_=>e x.1)]
      by_cases hm : s ∈ ds∧s < a.tmps.size
      · rw [if_pos hm,if_pos ⟨List.mem_cons_of_mem _ hm.1,hm.2⟩]
      · rw [if_neg hm,if_neg (fun x=>hm ⟨(List.mem_cons.1 x.1).resolve_left e,x.2⟩)]
theorem finA_defers (v : Nat→Value) : ∀ (ds : List Nat) (a : Act),(finA a v ds).defers = a.defers:=by
  intro ds
  induction ds with
  | nil=>intro a;rfl
  | cons d ds ih=>intro a;exact (ih _).trans (put_defers ..)
section
variable {P : Program} {ops : Array Oper} {Q : Exit→Act→World→Prop} {J : (Nat→Bool)→(Nat→Value)→World→Prop}
structure FactSteps (P : Program) (ops : Array Oper) (Q : Exit→Act→World→Prop) (J : (Nat→Bool)→(Nat→Value)→World→Prop) (rs : List Nat) : Prop where
  out : ∀ i ∈ rs,∀ o (L : Nat→Bool) (a : Act) (v : Nat→Value) w,ops[i]? = some o→(∀ s,a.eval (.tmp s) = v s)→L i = false→(∀ d ∈ waits .any o,L d = true)→(∀ i o,ops[i]? = some o→L i = true→∀ d ∈ waits .any o,L d = true)→J L v w →
    ∀ K : Act→World→Prop,Shut (∀ x w',J (upd L i) (upv v o.dst x) w'→K (a.put o.dst x) w')→if Region.wanted o (yielded ops a.tmps) = true then Oper.wp P o a w K Q else K (a.put o.dst undef) w
theorem FactSteps.nil : FactSteps P ops Q J []:=⟨fun _ h=>by cases h⟩
theorem FactSteps.cons {i : Nat} {o : Oper} {ds : List Nat} {rs : List Nat} (ho' : ops.toList[i]? = some o) (hd : waits .any o = ds)
    (h : ∀ (L : Nat→Bool) (a : Act) (v : Nat→Value) (w : World),(∀ s : Nat,a.eval (.tmp s) = v s)→(∀ s : Nat,(a.tmps[s]?).getD undef = v s)→L i = false→(∀ d ∈ ds,L d = true)→(∀ i o,ops[i]? = some o→L i = true→∀ d ∈ waits .any o,L d = true)→J L v w →
      ∀ K : Act→World→Prop,Shut (∀ x w',J (upd L i) (upv v o.dst x) w'→K (a.put o.dst x) w')→if Region.wanted o (yielded ops a.tmps) = true then Oper.wp P o a w K Q else K (a.put o.dst undef) w)
    (hs : FactSteps P ops Q J rs) : FactSteps P ops Q J (i :: rs):=⟨fun j hj=>by
  rcases List.mem_cons.1 hj with rfl | hj
  · intro o' L a v w ho hv hL hdep hcl hJ K hK
    rw [← Array.getElem?_toList,ho'] at ho
    injection ho with ho
    subst ho;rw [hd] at hdep;refine h L a v w hv (fun s=>?_) hL hdep hcl hJ K hK;rw [← hv s]
    show _ = a.tmps.getD s undef
    rw [Array.getD_eq_getD_getElem?]
  · exact hs.out j hj⟩
theorem wp_region_facts (J : (Nat→Bool)→(Nat→Value)→World→Prop) (ds : List Nat) {id : Nat} {a : Act} {w : World} (hm : P.follows .mixedOrders = true)
    (htop : ((List.range ops.size).all fun i=>((ops[i]?).map fun o=>(waits .any o).all fun d=>decide (d < i)).getD true) = true)
    (hds : (ops.toList.filterMap (fun o : Oper=>o.dst)) = ds) (hin : (ds.all fun d=>decide (d < a.tmps.size)) = true)
    (h0 : ∀ L : Nat→Bool,(∀ i,i < ops.size→L i = false)→J L (fun s=>a.eval (.tmp s)) w.drew) (hst : FactSteps P ops Q J (List.range ops.size))
    (hend : ∀ (L : Nat→Bool) (v : Nat→Value) w',(∀ i,i < ops.size→L i = true)→J L v w'→Q .normal (finA a v ds) w') : (Code.region id ops true).wp P Q a w:=by
  have hdst : ∀ (i : Nat) (o : Oper) (k : Nat),ops[i]? = some o→o.dst = some k→k ∈ ds:=fun i o k ho hk=>by
    rw [← hds,List.mem_filterMap];exact ⟨o,by rw [← Array.getElem?_toList] at ho;exact List.mem_of_getElem? ho,hk⟩
  have hlt : ∀ k,k ∈ ds→k < a.tmps.size:=fun k hk=>of_decide_eq_true (List.all_eq_true.1 hin k hk)
  refine wp_region_inv (I:=fun L b w'=>Frm ops a b L∧J L (fun s=>b.eval (.tmp s)) w') hm htop ?_ ?_ ?_
  · intro L hL
    refine ⟨⟨rfl,rfl,fun _ _=>rfl,fun i o ho h=>?_⟩,h0 L hL⟩;rw [hL i (Array.getElem?_eq_some_iff.1 ho).1] at h
    cases h
  · refine ⟨fun i hi o L b w' ho hL hdep ⟨hF,hJ⟩=>wpOp_step ho fun K hK=>?_⟩
    refine hst.out i hi o L b (fun s=>b.eval (.tmp s)) w' ho (fun _=>rfl) hL hdep hF.closed hJ K fun x w'' h=>hK _ _ ⟨⟨?_,?_,?_,?_⟩,?_⟩
    · rw [put_defers];exact hF.defers
    · rw [put_size];exact hF.size
    · intro s hs
      have hs' : ∀ i' o',ops[i']? = some o'→o'.dst = some s→L i' = false:=fun i' o' h1 h2=>by
        have:=hs i' o' h1 h2
        unfold upd at this
        split at this
        · cases this
        · exact this
      have hne : o.dst ≠ some s:=fun e=>by
        have:=hs i o ho e
        unfold upd at this
        rw [if_pos rfl] at this
        cases this
      cases hd : o.dst with
      | none=>exact hF.old s hs'
      | some k =>
        rw [put_slot,if_neg (fun e=>hne (by rw [hd,e.1])),hF.old s hs']
    · intro i' o' ho' hl d hdw
      unfold upd at hl ⊢
      by_cases e : i' = i
      · subst e
        rw [ho] at ho'
        injection ho' with ho'
        subst ho';rw [hdep d hdw]
        split <;> rfl
      · rw [if_neg e] at hl
        rw [hF.closed i' o' ho' hl d hdw]
        split <;> rfl
    · have he:=put_eval b o.dst x (fun k hk=>by rw [hF.size];exact hlt k (hdst i o k ho hk)) _ (fun _=>rfl)
      have : (fun s=>(b.put o.dst x).eval (.tmp s)) = upv (fun s=>b.eval (.tmp s)) o.dst x:=funext he;rw [this];exact h
  · rintro L b w' hall ⟨hF,hJ⟩
    have hb : b = finA a (fun s=>b.eval (.tmp s)) ds:=by
      have h1 : b.tmps = (finA a (fun s=>b.eval (.tmp s)) ds).tmps:=by
        apply Array.ext_getElem?
        intro s;rw [finA_get]
        by_cases hs : s ∈ ds
        · have hsl:=hlt s hs
          rw [if_pos ⟨hs,hsl⟩]
          show b.tmps[s]? = some (b.tmps.getD s undef)
          rw [Array.getD_eq_getD_getElem?,Array.getElem?_eq_getElem (by rw [hF.size];exact hsl)]
          rfl
        · rw [if_neg (fun h=>hs h.1)]
          exact hF.old s fun i o ho hd=>absurd (hdst i o s ho hd) hs
      have h2 : b.defers = (finA a (fun s=>b.eval (.tmp s)) ds).defers:=by rw [finA_defers];exact hF.defers
      cases b
      generalize finA a _ ds = c at *
      cases c
      simp only at h1 h2
      rw [h1,h2]
    rw [hb];exact hend L _ w' hall hJ
theorem wanted_none {o : Oper} {f : Nat→Option Bool} (h : o.guard = none) : Region.wanted o f = true:=by simp [Region.wanted,h]
theorem yielded_of {a : Act} {j s : Nat} {b : Bool} (hj : ((ops[j]?).bind fun o : Oper=>o.dst) = some s) (hv : a.eval (.tmp s) = .bool b) : yielded ops a.tmps j = some b:=by
  have h1 : a.tmps.getD s undef = .bool b:=hv
  unfold yielded
  rw [hj,Option.bind_some];rw [Array.getD_eq_getD_getElem?] at h1
  cases h : a.tmps[s]? with
  | none=>rw [h] at h1;cases h1
  | some x =>
    rw [h] at h1
    simp only [Option.getD_some] at h1
    subst h1
    rfl
theorem step_skip {o : Oper} {a : Act} {w : World} {K : Act→World→Prop} {j s : Nat} {b b' : Bool} (hg : o.guard = some (j,b')) (hj : ((ops[j]?).bind fun o : Oper=>o.dst) = some s) (hv : a.eval (.tmp s) = .bool b) (hne : b ≠ b') (h : K (a.put o.dst undef) w) :
    if Region.wanted o (yielded ops a.tmps) = true then Oper.wp P o a w K Q else K (a.put o.dst undef) w:=by
  have hw : Region.wanted o (yielded ops a.tmps) = false:=by
    unfold Region.wanted
    rw [hg]
    simp only [yielded_of hj hv]
    cases b <;> cases b' <;> simp at hne ⊢
  rw [hw];exact h
theorem step_want {o : Oper} {a : Act} {w : World} {K : Act→World→Prop} {E : Prop} {j s : Nat} {b : Bool} (hg : o.guard = some (j,b)) (hj : ((ops[j]?).bind fun o : Oper=>o.dst) = some s) (hv : a.eval (.tmp s) = .bool b) (h : Oper.wp P o a w K Q) :
    if Region.wanted o (yielded ops a.tmps) = true then Oper.wp P o a w K Q else E:=by
  have hw : Region.wanted o (yielded ops a.tmps) = true:=by
    unfold Region.wanted
    rw [hg]
    simp only [yielded_of hj hv]
    simp
  rw [if_pos hw];exact h
theorem step_do {o : Oper} {a : Act} {w : World} {K : Act→World→Prop} {E : Prop} (hg : o.guard = none) (h : Oper.wp P o a w K Q) :
    if Region.wanted o (yielded ops a.tmps) = true then Oper.wp P o a w K Q else E:=by
  rw [if_pos (wanted_none hg)];exact h
theorem wp_ld {o : Oper} {a : Act} {w : World} {K : Act→World→Prop} {T t : TypeId} {n g : Nat} {cs : Array Value} (hR : RowT P T n) (x : Operand) (ho : o.op = .load T x) (hx : a.eval x = .pointer (some ⟨g,0,none⟩)) (hB : Blk w g t cs) (hn : cs.size = n)
    (h : K (a.put o.dst (.agg cs)) w) : Oper.wp P o a w K Q:=by
  obtain ⟨e,hu,hd,hi⟩:=hR;rw [← hn,← Array.length_toList] at hi;exact wp_load_mid T x ho g 0 hx cs.toList e hB.range hu hd hi (by simpa using h)
theorem wp_ldm {o : Oper} {a : Act} {w : World} {K : Act→World→Prop} {T : TypeId} {n g k : Nat} {cs : List Value} (hR : RowT P T n) (x : Operand) (ho : o.op = .load T x) (hx : a.eval x = .pointer (some ⟨g,k,none⟩)) (hB : w.rangeAt g k cs) (hn : cs.length = n)
    (h : K (a.put o.dst (.agg cs.toArray)) w) : Oper.wp P o a w K Q:=by
  obtain ⟨e,hu,hd,hi⟩:=hR;rw [← hn] at hi;exact wp_load_mid T x ho g k hx cs e hB hu hd hi h
theorem wp_str {o : Oper} {a : Act} {w : World} {K : Act→World→Prop} {T : TypeId} {n g k : Nat} {cs : Array Value} (hR : RowT P T n) (x y : Operand) (ho : o.op = .store T x y) (hx : a.eval x = .pointer (some ⟨g,k,none⟩)) (hy : a.eval y = .agg cs) (ht : w.there g k n) (hn : cs.size = n) (h1 : cs.all (·.oneCell') = true)
    (h : K (a.put o.dst undef) (w.setCells g k cs.toList)) : Oper.wp P o a w K Q:=by
  obtain ⟨e,hu,hd,hi⟩:=hR;rw [← hn] at hi ht;exact wp_store_mid T x y ho g k cs hx hy ht hi h1 h
theorem wp_st {o : Oper} {a : Act} {w : World} {K : Act→World→Prop} {T t : TypeId} {n g : Nat} {cs ds : Array Value} (hR : RowT P T n) (x y : Operand) (ho : o.op = .store T x y) (hx : a.eval x = .pointer (some ⟨g,0,none⟩)) (hy : a.eval y = .agg cs)
    (hB : Blk w g t ds) (hn : cs.size = n) (hm : ds.size = n) (h1 : cs.all (·.oneCell') = true) (h : ∀ w',Blk w' g t cs→w.grownBy w' (some g)→w'.heap.size = w.heap.size→K (a.put o.dst undef) w') : Oper.wp P o a w K Q:=by
  obtain ⟨d,hu,hd,hi⟩:=hR;rw [← hn] at hi;refine wp_store_mid T x y ho g 0 cs hx hy (fun j hj=>?_) hi h1 (h _ ?_ ?_ ?_)
  · rw [hB.cell,hB.free]
    simp;omega
  · obtain ⟨cs',k1,k2,k3,k4⟩:=setCells_heap w g cs.toList 0 ds hB
    have : cs' = cs:=by
      apply Array.ext_getElem?
      intro j
      by_cases hj : j < cs.size
      · have:=k4 j (by simpa using hj) (by omega)
        simpa using this
      · rw [Array.getElem?_eq_none (by omega),Array.getElem?_eq_none (by omega)]
    subst this;exact k1
  · obtain ⟨k1,k2,k3,k4⟩:=setCells_size w g cs.toList 0
    exact ⟨k2,k3,k4,by rw [k1];exact Nat.le_refl _,fun k hk hne=>setCells_other w g _ _ k (fun e=>hne (by rw [e]))⟩
  · exact (setCells_size w g cs.toList 0).1
end
theorem new_below {w w' : World} {o : Obj} (h : (w.alloc o).grownBy w' (some w.heap.size)) : Below w.heap.size w w' :=
  ((Below.refl _ _).alloc (Nat.le_refl _) o).grown h (by simp) (fun q hq=>by injection hq with hq;omega)
theorem wpList_ldr {P : Program} {ops : Array Oper} {rest : List Oper} {a : Act} {w : World} {Q : Exit→Act→World→Prop} {d : Option Tmp} {ty T : TypeId} {pos : String} {aft : Array Edge} {x : Operand} {b o n : Nat} {cs : Array Value} (hR : RowT P T n) (hc : w.rangeAt b o cs.toList) (hn : cs.size = n)
    (h : wpList P ops Q rest (a.put d (.agg cs)) w) (hx : a.eval x = .pointer (some ⟨b,o,none⟩)) : wpList P ops Q (⟨d,.load T x,ty,pos,aft,none⟩ :: rest) a w:=by
  obtain ⟨e,hu,hd,hi⟩:=hR;rw [← hn,← Array.length_toList] at hi;exact wpList_load_mid rfl T x rfl b o hx cs.toList e hc hu hd hi (by simpa using h)
theorem wpList_ldrg {P : Program} {ops : Array Oper} {rest : List Oper} {a : Act} {w : World} {Q : Exit→Act→World→Prop} {d : Option Tmp} {ty T : TypeId} {pos : String} {aft : Array Edge} {gd : Option (Nat × Bool)} {x : Operand} {b o n : Nat} {cs : Array Value} (hR : RowT P T n) (hc : w.rangeAt b o cs.toList) (hn : cs.size = n)
    (h : wpList P ops Q rest (a.put d (.agg cs)) w) (hx : a.eval x = .pointer (some ⟨b,o,none⟩)) (hw : Region.wanted ⟨d,.load T x,ty,pos,aft,gd⟩ (yielded ops a.tmps) = true) : wpList P ops Q (⟨d,.load T x,ty,pos,aft,gd⟩ :: rest) a w:=by
  obtain ⟨e,hu,hd,hi⟩:=hR;rw [← hn,← Array.length_toList] at hi
  refine wpList_step fun K hK=>?_
  rw [if_pos hw];exact wp_load_mid T x rfl b o hx cs.toList e hc hu hd hi (hK _ _ (by simpa using h))
theorem wpList_ix {P : Program} {ops : Array Oper} {rest : List Oper} {a : Act} {w : World} {v u : Value} {i : Int} {Q : Exit→Act→World→Prop} {d : Option Tmp} {ty T : TypeId} {pos : String} {aft : Array Edge} {x y : Operand}
    (hrun : (Instr.index T u (.int .i64 i)).run P w = .ok v w) (h : wpList P ops Q rest (a.put d v) w) (hx : a.eval x = u) (hy : a.eval y = .int .i64 i) : wpList P ops Q (⟨d,.index T x y,ty,pos,aft,none⟩ :: rest) a w:=by
  refine wpList_plain rfl fun K hK=>?_
  unfold Oper.wp execOp
  simp only [hx,hy,Sem.run_bind,hrun,Result.andThen_ok]
  exact hK _ _ h
def waitsAt (ops : Array Oper) (i : Nat) : List Nat:=((ops[i]?).map fun o=>waits .any o).getD []
theorem off_of {ops : Array Oper} {L : Nat→Bool} (hcl : ∀ i o,ops[i]? = some o→L i = true→∀ d ∈ waits .any o,L d = true) {j : Nat} {ds : List Nat} (hw : waitsAt ops j = ds) {d : Nat} (hm : d ∈ ds) (hL : L d = false) : L j = false:=by
  cases h : L j with
  | false=>rfl
  | true =>
    unfold waitsAt at hw
    cases ho : ops[j]? with
    | none =>
      rw [ho] at hw
      simp only [Option.map_none,Option.getD_none] at hw
      rw [← hw] at hm
      cases hm
    | some o =>
      rw [ho] at hw
      simp only [Option.map_some,Option.getD_some] at hw
      have:=hcl j o ho h d (by rw [hw];exact hm)
      rw [hL] at this
      cases this
def reach (ops : Array Oper) : Nat→Nat→List Nat
  | 0,_=>[]
  | f + 1,t=>waitsAt ops t ++ (waitsAt ops t).flatMap (reach ops f)
theorem reach_on {ops : Array Oper} {L : Nat→Bool} (hcl : ∀ i o,ops[i]? = some o→L i = true→∀ d ∈ waits .any o,L d = true) : ∀ (f t d : Nat),d ∈ reach ops f t→L t = true→L d = true:=by
  have hw : ∀ t d,d ∈ waitsAt ops t→L t = true→L d = true:=fun t d hd hL=>by
    cases h : L d with
    | true=>rfl
    | false=>rw [off_of hcl (j:=t) rfl hd h] at hL;cases hL
  intro f
  induction f with
  | zero=>intro t d h _;cases h
  | succ f ih =>
    intro t d h hL
    unfold reach at h
    rcases List.mem_append.1 h with h | h
    · exact hw t d h hL
    · obtain ⟨e,he,hde⟩:=List.mem_flatMap.1 h
      exact ih e d hde (hw t e he hL)
theorem wp_region_tailF {P : Program} {ops : Array Oper} {Q : Exit→Act→World→Prop} (F n0 : Nat) (J : (Nat→Bool)→(Nat→Value)→World→Prop) (ds : List Nat) {id : Nat} {a : Act} {w : World} (hm : P.follows .mixedOrders = true)
    (htop : ((List.range ops.size).all fun i=>((ops[i]?).map fun o=>(waits .any o).all fun d=>decide (d < i)).getD true) = true)
    (hds : ((ops.toList.take n0).filterMap (fun o : Oper=>o.dst)) = ds) (hin : (ds.all fun d=>decide (d < a.tmps.size)) = true)
    (hn : decide (n0 < ops.size) = true) (hr : ((List.range ops.size).all fun t=>decide (t < n0) || (List.range t).all fun d=>(reach ops F t).contains d) = true)
    (h0 : ∀ L : Nat→Bool,(∀ i,i < n0→L i = false)→J L (fun s=>a.eval (.tmp s)) w.drew) (hst : FactSteps P ops Q J (List.range n0))
    (hend : ∀ (L : Nat→Bool) (v : Nat→Value) w',(∀ i,i < n0→L i = true)→J L v w'→wpList P ops Q (ops.toList.drop n0) (finA a v ds) w') : (Code.region id ops true).wp P Q a w:=by
  have hn : n0 < ops.size:=of_decide_eq_true hn
  have hdst : ∀ (i : Nat) (o : Oper) (k : Nat),i < n0→ops[i]? = some o→o.dst = some k→k ∈ ds:=fun i o k hi ho hk=>by
    rw [← hds,List.mem_filterMap];refine ⟨o,?_,hk⟩;rw [← Array.getElem?_toList] at ho
    have : (ops.toList.take n0)[i]? = some o:=by rw [List.getElem?_take,if_pos hi];exact ho
    exact List.mem_of_getElem? this
  have hlt : ∀ k,k ∈ ds→k < a.tmps.size:=fun k hk=>of_decide_eq_true (List.all_eq_true.1 hin k hk)
  have hbef : ∀ t,n0≤t→t < ops.size→∀ d,d < t→d ∈ reach ops F t:=fun t h1 h2 d hd=>by
    have h3:=List.all_eq_true.1 hr t (List.mem_range.2 h2);rw [Bool.or_eq_true] at h3
    rcases h3 with h3 | h3
    · have:=of_decide_eq_true h3;omega
    · have h4:=List.all_eq_true.1 h3 d (List.mem_range.2 hd)
      simpa using h4
  refine wp_region_inv (I:=fun L b w'=>(∀ i o,ops[i]? = some o→L i = true→∀ d ∈ waits .any o,L d = true)∧((∀ t,n0≤t→t < ops.size→L t = false)→Frm ops a b L∧J L (fun s=>b.eval (.tmp s)) w') ∧
    (∀ j,n0≤j→j < ops.size→L j = true→(∀ t,j < t→t < ops.size→L t = false)→wpList P ops Q (ops.toList.drop (j + 1)) b w')) hm htop ?_ ?_ ?_
  · intro L hL
    refine ⟨fun i o ho h=>?_,fun _=>⟨⟨rfl,rfl,fun _ _=>rfl,fun i o ho h=>?_⟩,h0 L fun i hi=>hL i (by omega)⟩,fun j h1 h2 h3=>?_⟩
    · rw [hL i (Array.getElem?_eq_some_iff.1 ho).1] at h;cases h
    · rw [hL i (Array.getElem?_eq_some_iff.1 ho).1] at h;cases h
    · rw [hL j h2] at h3;cases h3
  · refine ⟨fun i hi o L b w' ho hL hdep ⟨hcl,hF,hT⟩=>?_⟩
    have hin':=List.mem_range.1 hi
    have hcl' : ∀ i' o',ops[i']? = some o'→upd L i i' = true→∀ d ∈ waits .any o',upd L i d = true:=by
      intro i' o' ho' hl d hdw
      unfold upd at hl ⊢
      by_cases e : i' = i
      · subst e
        rw [ho] at ho'
        injection ho' with ho'
        subst ho';rw [hdep d hdw]
        split <;> rfl
      · rw [if_neg e] at hl
        rw [hcl i' o' ho' hl d hdw]
        split <;> rfl
    have hoff : ∀ t,n0≤t→i < t→t < ops.size→L t = false:=fun t h1 h2 h3=>by
      cases h : L t with
      | false=>rfl
      | true =>
        have:=reach_on hcl F t i (hbef t h1 h3 i h2) h
        rw [hL] at this
        cases this
    by_cases hc : i < n0
    · have hall : ∀ t,n0≤t→t < ops.size→L t = false:=fun t h1 h2=>hoff t h1 (by omega) h2
      obtain ⟨hF,hJ⟩:=hF hall
      refine wpOp_step ho fun K hK=>?_
      refine hst.out i (List.mem_range.2 hc) o L b (fun s=>b.eval (.tmp s)) w' ho (fun _=>rfl) hL hdep hcl hJ K fun x w'' h=>hK _ _ ⟨hcl',fun _=>⟨⟨?_,?_,?_,hcl'⟩,?_⟩,fun j h1 h2 h3=>?_⟩
      · rw [put_defers];exact hF.defers
      · rw [put_size];exact hF.size
      · intro s hs
        have hs' : ∀ i' o',ops[i']? = some o'→o'.dst = some s→L i' = false:=fun i' o' h1 h2=>by
          have:=hs i' o' h1 h2
          unfold upd at this
          split at this
          · cases this
          · exact this
        have hne : o.dst ≠ some s:=fun e=>by
          have:=hs i o ho e
          unfold upd at this
          rw [if_pos rfl] at this
          cases this
        cases hd : o.dst with
        | none=>exact hF.old s hs'
        | some k =>
          rw [put_slot,if_neg (fun e=>hne (by rw [hd,e.1])),hF.old s hs']
      · have he:=put_eval b o.dst x (fun k hk=>by rw [hF.size];exact hlt k (hdst i o k hc ho hk)) _ (fun _=>rfl)
        have : (fun s=>(b.put o.dst x).eval (.tmp s)) = upv (fun s=>b.eval (.tmp s)) o.dst x:=funext he;rw [this];exact h
      · unfold upd at h3
        rw [if_neg (by omega),hall j h1 h2] at h3
        cases h3
    · -- the tail
      have hbl : ∀ d,d < i→L d = true:=fun d hd=>by
        have hm:=hbef i (by omega) hin' d hd;have hup:=reach_on (L:=upd L i) hcl' F i d hm (by unfold upd;rw [if_pos rfl])
        unfold upd at hup
        rwa [if_neg (by omega)] at hup
      have hlist : wpList P ops Q (ops.toList.drop i) b w':=by
        by_cases e : i = n0
        · subst e
          obtain ⟨hF,hJ⟩:=hF fun t h1 h2=>by
            rcases Nat.lt_or_ge i t with h | h
            · exact hoff t h1 h h2
            · obtain rfl : t = i:=by omega
              exact hL
          have hb : b = finA a (fun s=>b.eval (.tmp s)) ds:=by
            have h1 : b.tmps = (finA a (fun s=>b.eval (.tmp s)) ds).tmps:=by
              apply Array.ext_getElem?
              intro s;rw [finA_get]
              by_cases hs : s ∈ ds
              · have hsl:=hlt s hs
                rw [if_pos ⟨hs,hsl⟩]
                show b.tmps[s]? = some (b.tmps.getD s undef)
                rw [Array.getD_eq_getD_getElem?,Array.getElem?_eq_getElem (by rw [hF.size];exact hsl)]
                rfl
              · rw [if_neg (fun h=>hs h.1)]
                refine hF.old s fun i' o' ho' hd=>?_
                rcases Nat.lt_or_ge i' i with h | h
                · exact absurd (hdst i' o' s h ho' hd) hs
                · rcases Nat.lt_or_ge i i' with h' | h'
                  · exact hoff i' (by omega) h' (Array.getElem?_eq_some_iff.1 ho').1
                  · obtain rfl : i' = i:=by omega
                    exact hL
            have h2 : b.defers = (finA a (fun s=>b.eval (.tmp s)) ds).defers:=by rw [finA_defers];exact hF.defers
            cases b
            generalize finA a _ ds = c at *
            cases c
            simp only at h1 h2
            rw [h1,h2]
          rw [hb];exact hend L _ w' (fun d hd=>hbl d hd) hJ
        · have:=hT (i - 1) (by omega) (by omega) (hbl _ (by omega)) fun t h1 h2=>by
            rcases Nat.lt_or_ge i t with h | h
            · exact hoff t (by omega) h h2
            · obtain rfl : t = i:=by omega
              exact hL
          rwa [show i - 1 + 1 = i by omega] at this
      have hdr : ops.toList.drop i = o :: ops.toList.drop (i + 1):=by
        rw [← Array.getElem?_toList] at ho;obtain ⟨h1,h2⟩:=List.getElem?_eq_some_iff.1 ho;rw [List.drop_eq_getElem_cons h1,h2]
      rw [hdr] at hlist
      have hwp : wpOp P ops Q i (wpList P ops Q (ops.toList.drop (i + 1))) b w':=by
        unfold wpOp
        rw [ho];exact hlist
      refine wpOp_mono (fun b' w'' h=>⟨hcl',fun hall=>?_,fun j h1 h2 h3 h4=>?_⟩) hwp
      · have:=hall i (by omega) hin'
        unfold upd at this
        rw [if_pos rfl] at this
        cases this
      · obtain rfl : j = i:=by
          rcases Nat.lt_trichotomy j i with h | h | h
          · have:=h4 i h hin'
            unfold upd at this
            rw [if_pos rfl] at this
            cases this
          · exact h
          · unfold upd at h3
            rw [if_neg (by omega),hoff j h1 h h2] at h3
            cases h3
        exact h
  · rintro L b w' hall ⟨_,_,hT⟩
    have:=hT (ops.size - 1) (by omega) (by omega) (hall _ (by omega)) fun t h1 h2=>by omega
    rw [show ops.size - 1 + 1 = ops.toList.length by simp;omega,List.drop_length] at this;exact this
theorem wp_region_tail {P : Program} {ops : Array Oper} {Q : Exit→Act→World→Prop} (n0 : Nat) (J : (Nat→Bool)→(Nat→Value)→World→Prop) (ds : List Nat) {id : Nat} {a : Act} {w : World} (hm : P.follows .mixedOrders = true)
    (htop : ((List.range ops.size).all fun i=>((ops[i]?).map fun o=>(waits .any o).all fun d=>decide (d < i)).getD true) = true)
    (hds : ((ops.toList.take n0).filterMap (fun o : Oper=>o.dst)) = ds) (hin : (ds.all fun d=>decide (d < a.tmps.size)) = true)
    (hn : decide (n0 < ops.size) = true) (hr : ((List.range ops.size).all fun t=>decide (t < n0) || (List.range t).all fun d=>(reach ops 3 t).contains d) = true)
    (h0 : ∀ L : Nat→Bool,(∀ i,i < n0→L i = false)→J L (fun s=>a.eval (.tmp s)) w.drew) (hst : FactSteps P ops Q J (List.range n0))
    (hend : ∀ (L : Nat→Bool) (v : Nat→Value) w',(∀ i,i < n0→L i = true)→J L v w'→wpList P ops Q (ops.toList.drop n0) (finA a v ds) w') : (Code.region id ops true).wp P Q a w :=
  wp_region_tailF 3 n0 J ds hm htop hds hin hn hr h0 hst hend
theorem offF {L : Nat→Bool} {n i : Nat} {R : Prop} (h : ∀ i,i < n→L i = false) (hi : i < n) : L i = true→R:=fun h2=>by rw [h i hi] at h2;cases h2
theorem offC {b : Bool} {R : Prop} (h : b = false) : b = true→R:=fun h2=>by rw [h] at h2;cases h2
section
variable {T : TypeId} {n g : Nat} {b s : Bool} {p y : Value} {w w' : World}
end
end Go.Proofs.YtcgalmnllegnbaaGreat

namespace Go.Proofs.YtcgalmnllegnbaaGreat
set_option linter.unusedVariables false
set_option linter.unusedSimpArgs false
set_option maxRecDepth 100000
open Go.RowKit
open Ms (Mem)
theorem rowMb : RowT Tryz.prog 71 3:=⟨_,Tryz.underlying71,rfl,by kernel_rfl⟩
def MbAt (w : World) (B : Nat) (ad : Addr) (v : Mem) : Prop:=ad.block < B∧w.cell? ad = some (.int .i64 v.1)∧w.cell? ⟨ad.block,ad.off + 1,none⟩ = some (.int .i64 v.2.1)∧w.cell? ⟨ad.block,ad.off + 2,none⟩ = some (.int .i64 v.2.2)
def RdMb (w : World) (B : Nat) (A : Option Addr) (n : Nat) (l : List Mem) : Prop:=n = l.length∧∀ i v,l[i]? = some v→∃ ad,A = some ad∧MbAt w B (ad.add (i * 3)) v
def mbcs (l : List Mem) : List Value:=l.flatMap fun v=>[.int .i64 v.1,.int .i64 v.2.1,.int .i64 v.2.2]
section
variable {w w' : World} {B B' n : Nat} {A : Option Addr} {l : List Mem}
theorem MbAt.below {ad : Addr} {v : Mem} (h : MbAt w B ad v) (hb : Below B w w') : MbAt w' B ad v:=⟨h.1,(hb.cell h.1).trans h.2.1,(hb.cell (p:=⟨ad.block,ad.off + 1,none⟩) h.1).trans h.2.2.1,(hb.cell (p:=⟨ad.block,ad.off + 2,none⟩) h.1).trans h.2.2.2⟩
theorem RdMb.below (h : RdMb w B A n l) (hb : Below B w w') : RdMb w' B A n l:=⟨h.1,fun i d hi=>by obtain ⟨ad,e,h2⟩:=h.2 i d hi;exact ⟨ad,e,h2.below hb⟩⟩
theorem RdMb.more (h : RdMb w B A n l) (hB : B≤B') : RdMb w B' A n l:=⟨h.1,fun i d hi=>by obtain ⟨ad,e,h2,h3⟩:=h.2 i d hi;exact ⟨ad,e,by omega,h3⟩⟩
theorem RdMb.size (h : RdMb w B A n l) : RdMb w w.heap.size A n l:=⟨h.1,fun i d hi=>by obtain ⟨ad,e,h2,h3,h4⟩:=h.2 i d hi;exact ⟨ad,e,World.block_lt_of_cell? w _ h3,h3,h4⟩⟩
theorem RdMb.drew (h : RdMb w B A n l) : RdMb w.drew B A n l:=h
theorem RdMb.nil (w : World) (B : Nat) (A : Option Addr) : RdMb w B A 0 []:=⟨rfl,fun i d hi=>by simp at hi⟩
theorem mbcs_len (l : List Mem) : (mbcs l).length = l.length * 3:=by
  induction l with
  | nil=>rfl
  | cons d l ih=>show (([.int .i64 d.1,.int .i64 d.2.1,.int .i64 d.2.2] : List Value) ++ mbcs l).length = _;rw [List.length_append,ih];simp;omega
theorem mbcs_app (l m : List Mem) : mbcs (l ++ m) = mbcs l ++ mbcs m:=by unfold mbcs;rw [List.flatMap_append]
theorem mbcs_one (l : List Mem) : ∀ u ∈ mbcs l,u.oneCell' = true:=by
  intro u hu
  unfold mbcs at hu
  rw [List.mem_flatMap] at hu;obtain ⟨d,_,hd⟩:=hu
  simp at hd
  rcases hd with rfl | rfl | rfl <;> rfl
theorem mbcs_at (l : List Mem) : ∀ (i : Nat) (d : Mem),l[i]? = some d→(mbcs l)[i * 3]? = some (.int .i64 d.1)∧(mbcs l)[i * 3 + 1]? = some (.int .i64 d.2.1)∧(mbcs l)[i * 3 + 2]? = some (.int .i64 d.2.2):=by
  induction l with
  | nil=>intro i d h;simp at h
  | cons x l ih =>
    intro i d h;have e : mbcs (x :: l) = .int .i64 x.1 :: .int .i64 x.2.1 :: .int .i64 x.2.2 :: mbcs l:=rfl;rw [e]
    cases i with
    | zero=>simp at h;subst h;exact ⟨rfl,rfl,rfl⟩
    | succ i =>
      have:=ih i d (by simpa using h)
      rw [show (i + 1) * 3 = i * 3 + 1 + 1 + 1 by omega]
      simpa using this
theorem add_nextMb (ad : Addr) (i k : Nat) (hk : k ≠ 0) : ad.add (i * 3 + k) = ⟨(ad.add (i * 3)).block,(ad.add (i * 3)).off + k,none⟩:=by
  rw [show ad.add (i * 3 + k) = (ad.add (i * 3)).add k from (add_add ad (i * 3) k).symm]
  unfold Addr.add
  rw [if_neg hk]
theorem RdMb.of_rd (h : Rd w B A (mbcs l)) : RdMb w B A l.length l:=⟨rfl,fun i d hi=>by
  obtain ⟨h1,h2,h3⟩:=mbcs_at l i d hi;obtain ⟨a,e,hb,hc⟩:=h _ _ h1;obtain ⟨a',e',_,hc'⟩:=h _ _ h2;obtain ⟨a'',e'',_,hc''⟩:=h _ _ h3
  obtain rfl : a = a':=by rw [e] at e';injection e'
  obtain rfl : a = a'':=by rw [e] at e'';injection e''
  rw [add_nextMb _ _ _ (by decide)] at hc' hc''
  exact ⟨a,e,by rw [block_add];exact hb,hc,hc',hc''⟩⟩
theorem RdMb.rd (h : RdMb w B A n l) : Rd w B A (mbcs l):=fun j u hu=>by
  have hj : j < l.length * 3:=by
    have:=(List.getElem?_eq_some_iff.1 hu).1
    rwa [mbcs_len] at this
  obtain ⟨i,b,rfl,hb⟩ : ∃ i b,j = i * 3 + b∧b < 3:=⟨j / 3,j % 3,by omega,by omega⟩
  have hi : i < l.length:=by omega
  obtain ⟨ad,e,h1,h2,h3,h4⟩:=h.2 i _ (List.getElem?_eq_getElem hi);obtain ⟨k1,k2,k3⟩:=mbcs_at l i _ (List.getElem?_eq_getElem hi);refine ⟨ad,e,by rw [block_add] at h1;exact h1,?_⟩
  rcases (show b = 0∨b = 1∨b = 2 by omega) with rfl | rfl | rfl
  · rw [Nat.add_zero] at hu ⊢
    rw [h2,← hu,k1]
  · rw [add_nextMb _ _ _ (by decide),h3,← hu,k2]
  · rw [add_nextMb _ _ _ (by decide),h4,← hu,k3]
end
def OwnMb (T : TypeId) (w : World) (base : Nat) (A : Option Addr) (n c : Nat) (l : List Mem) : Prop:=n = l.length∧w.ownsRow base T 3 (.slice A n c) n (mbcs l)
theorem infoMb : (Tryz.prog.info? 71).map (fun i=>(i.zero,i.size,i.bytes)) = some (some (.agg #[.int .i64 0,.int .i64 0,.int .i64 0]),3,24):=by kernel_rfl
section
variable {T : TypeId} {w w' : World} {base n c : Nat} {A : Option Addr} {bs : List Mem}
theorem OwnMb.raw (h : OwnMb T w base A n c bs) : Rd w w.heap.size A (mbcs bs):=fun j u hu=>by
  rcases h.2.2 with ⟨hv,h0⟩ | ⟨g,cap,cur,hv,hb,hh,hn,hm,hs,hc⟩
  · have:=h.2.1;rw [h0] at this;simp at this;rw [this] at hu;simp at hu
  · injection hv with hA
    subst hA;exact ⟨_,rfl,(h.2.lt g rfl).2,h.2.cells (g:=g) rfl j u hu⟩
theorem OwnMb.rd (h : OwnMb T w base A n c bs) : RdMb w w.heap.size A n bs:=by
  have:=RdMb.of_rd h.raw
  rwa [← h.1] at this
theorem OwnMb.alloc (h : OwnMb T w base A n c bs) (o : Obj) : OwnMb T (w.alloc o) base A n c bs:=⟨h.1,h.2.alloc o⟩
theorem OwnMb.nil (T : TypeId) (w : World) (base : Nat) : OwnMb T w base none 0 0 []:=⟨rfl,World.ownsRow_nil w base _ 3⟩
theorem OwnMb.mono {base' : Nat} (h : OwnMb T w base A n c bs) (hb : base'≤base) : OwnMb T w base' A n c bs:=by
  refine ⟨h.1,h.2.1,?_⟩
  rcases h.2.2 with h | ⟨g,cap,cur,h1,h2,h3⟩
  · exact .inl h
  · exact .inr ⟨g,cap,cur,h1,by omega,h3⟩
theorem OwnMb.lt (h : OwnMb T w base A n c bs) : ∀ g,A.map (·.block) = some g→base≤g∧g < w.heap.size:=fun g hg=>h.2.lt g (by
  rcases A with _ | a
  · simp at hg
  · simpa [Value.ownBlock] using hg)
theorem OwnMb.form (h : OwnMb T w base A n c bs) (hn : 0 < n) : ∃ g,A = some ⟨g,0,none⟩∧base≤g∧g < w.heap.size:=by
  rcases h.2.2 with ⟨_,h0⟩ | ⟨g,cap,cur,hv,hb,hh,_⟩
  · omega
  · injection hv with hA
    subst hA;exact ⟨g,rfl,hb,lt_of_block hh⟩
theorem OwnMb.free {g : Nat} (h : OwnMb T w base (some ⟨g,0,none⟩) n c bs) (j : Nat) : w.frozen? ⟨g,j,none⟩ = false:=h.2.frozenAt j
theorem OwnMb.setFar {p : Addr} (h : OwnMb T w base A n c bs) (hp : A.map (·.block) ≠ some p.block) (u : Value) : OwnMb T (w.setCell p u) base A n c bs :=
  ⟨h.1,ownsRow_setCell_other h.2 (by
    rcases A with _ | a
    · simp [Value.ownBlock]
    · simpa [Value.ownBlock] using hp) u⟩
theorem OwnMb.drew (h : OwnMb T w base A n c bs) : OwnMb T w.drew base A n c bs:=h
theorem OwnMb.grown {row : Option Nat} (h : OwnMb T w base A n c bs) (hg : w.grownBy w' row) (hne : A.map (·.block) = none∨A.map (·.block) ≠ row) : OwnMb T w' base A n c bs :=
  ⟨h.1,h.2.kept hg (by
    rcases A with _ | a
    · exact .inl rfl
    · rcases hne with h | h
      · simp at h
      · exact .inr h)⟩
theorem OwnMb.below {B : Nat} (h : OwnMb T w base A n c bs) (hb : Below B w w') (hB : w.heap.size≤B) : OwnMb T w' base A n c bs :=
  ⟨h.1,h.2.kept (row:=none) ⟨hb.os,hb.tape,hb.output,hb.size,fun k hk _=>hb.block k (by omega)⟩ (by
    rcases h.2.2 with ⟨e,_⟩ | ⟨g,cap,cur,e,_⟩
    · rw [e];exact .inl rfl
    · rw [e];exact .inr (by simp [Value.ownBlock]))⟩
end
theorem wpList_appMb {w : World} {ops : Array Oper} {rest : List Oper} {o : Oper} {a : Act} {Q : Exit→Act→World→Prop} (hgd : o.guard = none) (s x : Operand)
    (ho : o.op = .call { callee:=.builtin .append,args:=#[s,x],argTypes:=#[28,28] })
    {base : Nat} {A : Option Addr} {n c : Nat} {bs : List Mem} (hs : a.eval s = .slice A n c) (hown : OwnMb 71 w base A n c bs)
    {B : Nat} {D : Option Addr} {m d : Nat} {news : List Mem} (hx : a.eval x = .slice D m d) (hr : Rd w B D (mbcs news)) (hm : m = news.length)
    (hbytes : n + m≤1000000000000) (hbase : base≤w.heap.size)
    (h : ∀ A' c' w',OwnMb 71 w' base A' (n + m) c' (bs ++ news)→w.grownBy w' (A.map (·.block))→Moved A' (A.map (·.block)) w.heap.size→Below base w w' →
      wpList Tryz.prog ops Q rest (a.put o.dst (.slice A' (n + m) c')) w') : wpList Tryz.prog ops Q (o :: rest) a w:=by
  obtain ⟨i0,hi,hz0,hz1,hz2⟩:=info_parts infoMb
  have hob : (Value.slice A n c).ownBlock = A.map (·.block):=by cases A <;> rfl
  refine wpList_app w hgd s x 28 ho base 71 i0 (.agg #[.int .i64 0,.int .i64 0,.int .i64 0]) 3 24 Tryz.underlying28 hi hz0 hz1 hz2 rfl (by decide) _ _ _ hs hown.2 B D m d (mbcs news) hx hr (by rw [mbcs_len,hm]) (mbcs_one _) (by unfold maxLen;omega) (by omega) hbase ?_;intro A' c' w' h1 h2 h3;rw [hob] at h2 h3;exact h A' c' w' ⟨by rw [List.length_append,hown.1,hm],by rw [mbcs_app];exact h1⟩ h2 h3 ((Below.refl _ _).grown h2 hbase (fun g hg=>(hown.lt g hg).1))
end Go.Proofs.YtcgalmnllegnbaaGreat

namespace Go.Proofs.YtcgalmnllegnbaaGreat
set_option linter.unusedVariables false
set_option linter.unusedSimpArgs false
set_option maxRecDepth 100000
open Go.RowKit
open Dot Evt
def mgc (m : Ms.Msg) (s1 s2 s3 : Value) : Array Value:=#[.int .i64 m.kind,.int .i64 m.frm,.int .i64 m.to,.int .i64 m.seq,.int .i64 m.node,.int .i64 (m.u.getD 0 0),.int .i64 (m.u.getD 1 0),.int .i64 (m.u.getD 2 0),.int .i64 (m.u.getD 3 0),.int .i64 (m.u.getD 4 0),.int .i64 (m.u.getD 5 0),.int .i64 (m.u.getD 6 0),.int .i64 (m.u.getD 7 0),s1,s2,s3]
theorem mgc_size (m : Ms.Msg) (s1 s2 s3 : Value) : (mgc m s1 s2 s3).size = 16:=rfl
theorem mgc_one (m : Ms.Msg) (A1 A2 A3 : Option Addr) (n1 c1 n2 c2 n3 c3 : Nat) : (mgc m (.slice A1 n1 c1) (.slice A2 n2 c2) (.slice A3 n3 c3)).all (·.oneCell') = true:=by kernel_rfl
theorem rowMg : RowT Tryz.prog 30 16:=⟨_,Tryz.underlying30,rfl,by kernel_rfl⟩
structure MgV where
  m : Ms.Msg
  A1 : Option Addr
  n1 : Nat
  c1 : Nat
  xs : List EvV
  A2 : Option Addr
  n2 : Nat
  c2 : Nat
  A3 : Option Addr
  n3 : Nat
  c3 : Nat
def MgV.cs (x : MgV) : Array Value:=mgc x.m (.slice x.A1 x.n1 x.c1) (.slice x.A2 x.n2 x.c2) (.slice x.A3 x.n3 x.c3)
theorem MgV.size (x : MgV) : x.cs.size = 16:=rfl
theorem MgV.one (x : MgV) : x.cs.all (·.oneCell') = true:=mgc_one ..
structure MgOk (w : World) (B : Nat) (x : MgV) : Prop where
  u : x.m.u.length = 8
  more : RdD w B x.A1 x.n1 x.m.more
  ev : RowEv w B x.A2 x.n2 x.xs
  es : x.m.ev = x.xs.map (·.e)
  mem : RdMb w B x.A3 x.n3 x.m.mem
section
variable {w w' : World} {B B' : Nat} {x : MgV}
theorem MgOk.below (h : MgOk w B x) (hb : Below B w w') : MgOk w' B x:=⟨h.u,h.more.below hb,h.ev.below hb,h.es,h.mem.below hb⟩
theorem MgOk.mono (h : MgOk w B x) (hB : B≤B') : MgOk w B' x:=⟨h.u,h.more.more hB,h.ev.more hB,h.es,h.mem.more hB⟩
end
end Go.Proofs.YtcgalmnllegnbaaGreat

namespace Go.Proofs.YtcgalmnllegnbaaGreat.Crc
set_option linter.unusedVariables false
set_option linter.unusedSimpArgs false
set_option maxRecDepth 100000
open Go.RowKit
theorem and_one (q : Nat) (h : q < 4294967296) : bits .and .u32 (q : Int) 1 = ((q % 2 : Nat) : Int):=by
  have:=u32_and_nat q 1 h (by omega)
  rw [Nat.and_one_is_mod] at this;exact this
theorem and_D0 : bits .and .u32 3988292384 0 = 0:=by decide +kernel
theorem and_D1 : bits .and .u32 3988292384 4294967295 = 3988292384:=by decide +kernel
theorem xor_D (q : Nat) (h : q < 4294967296) : bits .xor .u32 (q / 2 : Int) 3988292384 = ((q / 2 ^^^ D : Nat) : Int):=u32_xor_nat (q / 2) 3988292384 (by omega) (by omega)
theorem xor_0 (q : Nat) (h : q < 4294967296) : bits .xor .u32 (q / 2 : Int) 0 = ((q / 2 : Nat) : Int):=by
  have:=u32_xor_nat (q / 2) 0 (by omega) (by omega)
  rw [Nat.xor_zero] at this;exact this
theorem step_of1 {q : Nat} (h : q % 2 = 1) : step q = q / 2 ^^^ D:=if_pos h
theorem step_of0 {q : Nat} (h : q % 2 = 0) : step q = q / 2:=if_neg (by omega)
theorem eat_any (r : Nat) (c : UInt8) (w : World) (hr : r < 4294967296) :
    Calls Tryz.prog 106 #[.int .u32 r,.int .u8 c.toNat] w fun e w'=>e = .returned (.int .u32 (eat r c : Nat))∧w = w':=by
  have hc:=c.toNat_lt;have h0 : r ^^^ c.toNat < 4294967296:=Nat.xor_lt_two_pow (n:=32) (by omega) (by omega);have e0:=u32_xor_nat r c.toNat hr (by omega);have E0:=Lib.hid e0
  go_enter Tryz.func106,Tryz.ntmps106
  go_wp2
  clear e0
  go_loop [0,10] (fun x i=>∃ k : Nat,k≤8∧i = .int .i64 k∧x = .int .u32 (steps k (r ^^^ c.toNat) : Nat)) (fun _ i=>8 - (intOf i).toNat)
  case atStart=>exact ⟨0,by omega,rfl,rfl⟩
  case round =>
    obtain ⟨k,hk,rfl,rfl⟩:=hrel;have hq:=steps_lt h0 k
    by_cases hlt : k < 8
    · obtain ⟨q,hqq⟩ : ∃ q,q = steps k (r ^^^ c.toNat):=⟨_,rfl⟩
      rw [← hqq] at hq;have HQ:=Lib.hid hqq;rw [← hqq];clear hqq;have a1:=and_one q hq
      rcases Nat.mod_two_eq_zero_or_one q with hm | hm
      · rw [hm] at a1
        have HM:=Lib.hid hm;clear hm;have a2:=and_D0;have a3:=xor_0 q hq
        go_wp2
        go_round
        case rel=>exact ⟨k + 1,by omega,by go_num,by rw [show steps (k + 1) (r ^^^ c.toNat) = step (steps k (r ^^^ c.toNat)) from rfl,← HQ.out,step_of0 HM.out];rfl⟩
        case measure=>simp [intOf];omega
      · rw [hm] at a1
        have HM:=Lib.hid hm;clear hm;have a2:=and_D1;have a3:=xor_D q hq
        go_wp2
        go_round
        case rel=>exact ⟨k + 1,by omega,by go_num,by rw [show steps (k + 1) (r ^^^ c.toNat) = step (steps k (r ^^^ c.toNat)) from rfl,← HQ.out,step_of1 HM.out]⟩
        case measure=>simp [intOf];omega
    · go_wp2
      go_ret;exact ⟨by rw [show k = 8 by omega];rfl,rfl⟩
theorem turn_any (r : Nat) (c : UInt8) (w : World) (hr : r < 4294967296) :
    Calls Tryz.prog 105 #[.int .u32 r,.int .u8 c.toNat] w fun e w'=>e = .returned (.int .u32 (eat r c : Nat))∧w = w':=by
  have hc:=c.toNat_lt;have h0 : r ^^^ c.toNat < 4294967296:=Nat.xor_lt_two_pow (n:=32) (by omega) (by omega);have e0:=u32_xor_nat r c.toNat hr (by omega)
  go_enter Tryz.func105,Tryz.ntmps105
  go_wp2
  clear e0
  go_loop [0,5] (fun x i=>∃ k : Nat,k≤8∧i = .int .i64 k∧x = .int .u32 (steps k (r ^^^ c.toNat) : Nat)) (fun _ i=>8 - (intOf i).toNat)
  case atStart=>exact ⟨0,by omega,rfl,rfl⟩
  case round =>
    obtain ⟨k,hk,rfl,rfl⟩:=hrel;have hq:=steps_lt h0 k
    by_cases hlt : k < 8
    · obtain ⟨q,hqq⟩ : ∃ q,q = steps k (r ^^^ c.toNat):=⟨_,rfl⟩
      rw [← hqq] at hq;have HQ:=Lib.hid hqq;rw [← hqq];clear hqq
      rcases Nat.mod_two_eq_zero_or_one q with hm | hm
      · have HM:=Lib.hid hm
        have a1 : ((q : Int) % 2 == 1) = false:=by simp;omega
        clear hm
        go_wp2
        go_round
        case rel=>exact ⟨k + 1,by omega,by go_num,by rw [show steps (k + 1) (r ^^^ c.toNat) = step (steps k (r ^^^ c.toNat)) from rfl,← HQ.out,step_of0 HM.out];rfl⟩
        case measure=>simp [intOf];omega
      · have HM:=Lib.hid hm
        have a1 : ((q : Int) % 2 == 1) = true:=by simp;omega
        have a3:=xor_D q hq;clear hm
        go_wp2
        go_round
        case rel=>exact ⟨k + 1,by omega,by go_num,by rw [show steps (k + 1) (r ^^^ c.toNat) = step (steps k (r ^^^ c.toNat)) from rfl,← HQ.out,step_of1 HM.out]⟩
        case measure=>simp [intOf];omega
    · go_wp2
      go_ret;exact ⟨by rw [show k = 8 by omega];rfl,rfl⟩
theorem more_any (s : Nat) (A : Option Addr) (bs : List UInt8) (n cap B : Nat) (w : World) (hs : s < 4294967296) (hb : RdB w B A n bs) (hl : n≤maxLen) :
    Calls Tryz.prog 98 #[.int .u32 s,.slice A n cap] w fun e w'=>e = .returned (.int .u32 (more s bs : Nat))∧w = w':=by
  obtain rfl:=hb.1
  unfold maxLen at hl
  have e0 : bits .xor .u32 (s : Int) 4294967295 = ((s ^^^ ones : Nat) : Int):=u32_xor_nat s ones hs (by decide);have h0 : s ^^^ ones < 4294967296:=Nat.xor_lt_two_pow (n:=32) (by omega) (by decide)
  go_enter Tryz.func98,Tryz.ntmps98
  go_wp2
  clear e0
  go_loop [5,12] (fun x i=>∃ k : Nat,k≤bs.length∧i = .int .i64 k∧x = .int .u32 (run (s ^^^ ones) (bs.take k) : Nat)) (fun _ i=>bs.length - (intOf i).toNat)
  case atStart=>exact ⟨0,by omega,rfl,rfl⟩
  case round =>
    obtain ⟨k,hk,rfl,rfl⟩:=hrel;have hq:=run_lt h0 (bs.take k)
    by_cases hlt : k < bs.length
    · obtain ⟨a,rfl,_,hc⟩:=hb.at_ hlt
      have HS:=Lib.hid (take_snoc bs hlt)
      go_wp2_with (go_at_call 106;refine (eat_any _ _ _ hq).mono ?_;rintro e w' ⟨rfl,rfl⟩)
      go_round
      case rel=>exact ⟨k + 1,by omega,by go_num,by rw [HS.out,run_snoc]⟩
      case measure=>simp [intOf];omega
    · have e0 : bits .xor .u32 ((run (s ^^^ ones) (bs.take k) : Nat) : Int) 4294967295 = ((run (s ^^^ ones) (bs.take k) ^^^ ones : Nat) : Int):=u32_xor_nat _ ones hq (by decide)
      go_wp2
      go_ret;exact ⟨by rw [List.take_of_length_le (by omega)];rfl,rfl⟩
theorem sum_any (A : Option Addr) (bs : List UInt8) (n cap B : Nat) (w : World) (hb : RdB w B A n bs) (hl : n≤maxLen) :
    Calls Tryz.prog 71 #[.slice A n cap] w fun e w'=>e = .returned (.int .u32 (sum bs : Nat))∧w = w':=by
  go_enter Tryz.func71,Tryz.ntmps71
  go_wp2_with (go_at_call 98;refine (more_any 0 _ _ _ _ _ _ (by omega) hb hl).mono ?_;rintro e w' ⟨rfl,rfl⟩)
  go_ret;exact ⟨rfl,rfl⟩
theorem rmore_any (s : Nat) (A : Option Addr) (bs : List UInt8) (n cap B : Nat) (w : World) (hs : s < 4294967296) (hb : RdB w B A n bs) (hl : n≤maxLen) :
    Calls Tryz.prog 93 #[.int .u32 s,.slice A n cap] w fun e w'=>e = .returned (.int .u32 (more s bs : Nat))∧w = w':=by
  obtain rfl:=hb.1
  unfold maxLen at hl
  have e0 : bits .xor .u32 (s : Int) 4294967295 = ((s ^^^ ones : Nat) : Int):=u32_xor_nat s ones hs (by decide);have h0 : s ^^^ ones < 4294967296:=Nat.xor_lt_two_pow (n:=32) (by omega) (by decide)
  go_enter Tryz.func93,Tryz.ntmps93
  go_wp2
  clear e0
  go_loop [5,12] (fun x i=>∃ k : Nat,k≤bs.length∧i = .int .i64 k∧x = .int .u32 (run (s ^^^ ones) (bs.take k) : Nat)) (fun _ i=>bs.length - (intOf i).toNat)
  case atStart=>exact ⟨0,by omega,rfl,rfl⟩
  case round =>
    obtain ⟨k,hk,rfl,rfl⟩:=hrel;have hq:=run_lt h0 (bs.take k)
    by_cases hlt : k < bs.length
    · obtain ⟨a,rfl,_,hc⟩:=hb.at_ hlt
      have HS:=Lib.hid (take_snoc bs hlt)
      go_wp2_with (go_at_call 105;refine (turn_any _ _ _ hq).mono ?_;rintro e w' ⟨rfl,rfl⟩)
      go_round
      case rel=>exact ⟨k + 1,by omega,by go_num,by rw [HS.out,run_snoc]⟩
      case measure=>simp [intOf];omega
    · have e0 : bits .xor .u32 ((run (s ^^^ ones) (bs.take k) : Nat) : Int) 4294967295 = ((run (s ^^^ ones) (bs.take k) ^^^ ones : Nat) : Int):=u32_xor_nat _ ones hq (by decide)
      go_wp2
      go_ret;exact ⟨by rw [List.take_of_length_le (by omega)];rfl,rfl⟩
theorem rsum_any (A : Option Addr) (bs : List UInt8) (n cap B : Nat) (w : World) (hb : RdB w B A n bs) (hl : n≤maxLen) :
    Calls Tryz.prog 62 #[.slice A n cap] w fun e w'=>e = .returned (.int .u32 (sum bs : Nat))∧w = w':=by
  go_enter Tryz.func62,Tryz.ntmps62
  go_wp2_with (go_at_call 93;refine (rmore_any 0 _ _ _ _ _ _ (by omega) hb hl).mono ?_;rintro e w' ⟨rfl,rfl⟩)
  go_ret;exact ⟨rfl,rfl⟩
end Go.Proofs.YtcgalmnllegnbaaGreat.Crc

namespace Go.Proofs.YtcgalmnllegnbaaGreat
set_option linter.unusedVariables false
set_option linter.unusedSimpArgs false
set_option maxRecDepth 100000
open Go.RowKit
namespace Frame
theorem byte_of (s k : Nat) : IntKind.u8.wrap ((s : Int) / (k : Nat)) = ((UInt8.ofNat (s / k)).toNat : Int):=by
  have h:=u8_byte (s / k);rw [← h];rfl
theorem byte_at (s k : Nat) (hk : k < 4) (z : Int) (hz : 24 - 8 * (k : Int) = z) : IntKind.u8.wrap ((s : Int) / 2 ^ z.toNat) = (((be s)[k]'hk).toNat : Int):=by
  subst hz
  match k,hk with
  | 0,_=>exact byte_of s 16777216
  | 1,_=>exact byte_of s 65536
  | 2,_=>exact byte_of s 256
  | 3,_=>exact (congrArg _ (Int.ediv_one _)).trans (u8_byte s)
set_option maxRecDepth 100000 in
theorem sum_any (A : Option Addr) (bs : List UInt8) (n c B : Nat) (w : World) (hb : RdB w B A n bs) (hB : B≤w.heap.size) (hl : n≤maxLen) :
    Calls Tryz.prog 34 #[.slice A n c] w (GiveB w (be (Crc.sum bs))):=by
  go_enter Tryz.func34,Tryz.ntmps34
  go_wp2_with fail;refine (Crc.sum_any _ _ _ _ _ _ hb hl).mono ?_;rintro e w1 ⟨rfl,rfl⟩;have hs:=Crc.sum_lt bs;obtain ⟨s,hs0⟩ : ∃ s,s = Crc.sum bs:=⟨_,rfl⟩;rw [← hs0] at hs ⊢;have HS0:=Lib.hid hs0;clear hs0;go_wp2_with fail
  go_loopw [4,5] (fun v i wr=>∃ (k : Nat) (A' : Option Addr) (n' c' : Nat),k≤4∧i = .int .i64 (24 - 8 * (k : Int))∧v = .slice A' n' c'∧OwnB wr w.heap.size A' n' c' ((be s).take k)∧Below w.heap.size w wr) (fun _ i _=>(intOf i + 8).toNat)
  case atStart=>exact ⟨0,none,0,0,by omega,rfl,rfl,OwnB.nil _ _,Below.refl _ _⟩
  case round =>
    obtain ⟨k,A',n',c',hk,rfl,rfl,hown,hbel⟩:=hrel;have hn:=hown.1
    have hlk : n' = k:=by rw [hn,List.length_take,be_length];omega
    subst hlk
    generalize hz : 24 - 8 * (n' : Int) = z
    have HZ:=Lib.hid hz
    by_cases hlt : n' < 4
    · have hd : decide (0≤z) = true:=decide_eq_true (by omega)
      have hz0 : 0≤z:=by omega
      have hz1 : z≤24:=by omega
      obtain ⟨x,hx⟩ : ∃ x,x = (be s)[n']'hlt:=⟨_,rfl⟩;have eb:=byte_at s n' hlt z hz;rw [← hx] at eb;have HX:=Lib.hid hx;have HO:=Lib.hid hown;clear hx hown hs hn;clear hz
      go_wp2_with (at_builtin;refine wpList_appB rfl (.tmp 12) (.tmp 17) rfl rfl (HO.out.alloc _) rfl (RdB.made _ [x] _ _ _ ?hx1) ?hx0 ?hx2 ?_)
      case hx0=>show n' + 1≤_;omega
      case hx2=>have:=hbel.size;simp;omega
      intro A2 c2 w3 ho2 _ _ hbl2;have hbel3 : Below w.heap.size w w3:=(hbel.alloc hbel.size _).trans hbl2;go_wp2_with fail
      go_roundw
      case rel =>
        refine ⟨n' + 1,A2,n' + 1,c2,by omega,?_,rfl,?_,hbel3⟩
        · have:=HZ.out
          simp;omega
        · rw [HX.out] at ho2
          rw [List.take_succ_eq_append_getElem (show n' < (be s).length from hlt)];exact ho2
      case measure=>simp [intOf];omega
    · have hd : decide (0≤z) = false:=decide_eq_false (by omega)
      clear hz;go_wp2_with fail;go_ret;refine ⟨_,_,_,rfl,?_,hbel⟩;rw [List.take_of_length_le (by rw [be_length];omega)] at hown;rw [← HS0.out];exact hown
theorem put_ok (A : Option Addr) (n c : Nat) (bs : List UInt8) (B : Nat) (w : World) (hb : RdB w B A n bs) (hB : B≤w.heap.size) (hl : n≤4096) :
    Calls Tryz.prog 11 #[.slice A n c] w (GiveBE w (frm bs) 0):=by
  obtain rfl:=hb.1;have hd : decide ((4096 : Int) < (bs.length : Int)) = false:=decide_eq_false (by omega);have hel:=Vint.enc_length bs.length
  go_enter Tryz.func11,Tryz.ntmps11
  go_wp2_with fail;refine (Go.Proofs.YtcgalmnllegnbaaGreat.put_ok _ _ _ [1] bs.length _ _ (RdB.made _ [1] _ _ _ ?hx1) (by simp) (by simp) (by omega)).mono ?_
  case hx1=>rfl
  rintro e w1 ⟨A1,n1,c1,rfl,ho1,hb1⟩;have hbl1 : Below w.heap.size w w1:=((Below.refl _ _).alloc (Nat.le_refl _) _).trans (hb1.mono (by simp));have hr1:=(hb.more hB).below hbl1;have ho1':=ho1.mono (base':=w.heap.size) (by simp);have hn1:=ho1.1;rw [List.length_append] at hn1
  simp only [List.length_cons,List.length_nil] at hn1
  have hn7 : n1≤7:=by omega
  clear ho1 hel hn1
  go_wp2_with (at_builtin;refine wpList_appB rfl (.tmp 19) (.tmp 20) rfl rfl ho1' rfl hr1 ?hy0 hbl1.size ?_)
  case hy0=>omega
  intro A2 c2 w2 ho2 _ _ hbl2;have hb2:=hbl1.trans hbl2;have hd2 : OwnB w2 w.heap.size A2 (n1 + bs.length) c2 (head bs):=ho2;clear ho2;go_wp2_with fail;refine (sum_any _ _ _ _ _ _ hd2.rd (Nat.le_refl _) (by unfold maxLen;omega)).mono ?_;rintro e w3 ⟨A3,n3,c3,rfl,ho3,hb3⟩;have hd3:=hd2.below hb3 (Nat.le_refl _);have hb3':=hb2.trans (hb3.mono hb2.size);have hn3:=ho3.1;rw [be_length] at hn3;subst hn3
  go_wp2_with (at_builtin;refine wpList_appB rfl (.tmp 22) (.tmp 24) rfl rfl hd3 rfl ho3.rd ?hz0 hb3'.size ?_)
  case hz0=>omega
  intro A4 c4 w4 ho4 _ _ hbl4;go_wp2_with fail;go_ret2;exact ⟨_,_,_,rfl,ho4,hb3'.trans hbl4⟩
theorem put_long (A : Option Addr) (n c : Nat) (w : World) (hl : 4096 < n) :
    Calls Tryz.prog 11 #[.slice A n c] w fun e w'=>e = .returned (.tuple #[.slice none 0 0,.int .i64 6])∧w = w':=by
  have hd : decide ((4096 : Int) < (n : Int)) = true:=decide_eq_true (by omega)
  go_enter Tryz.func11,Tryz.ntmps11
  go_wp2_with fail;go_ret2;exact ⟨rfl,rfl⟩
end Frame
end Go.Proofs.YtcgalmnllegnbaaGreat

namespace Go.Proofs.YtcgalmnllegnbaaGreat
set_option linter.unusedVariables false
set_option linter.unusedSimpArgs false
set_option maxRecDepth 100000
open Go.RowKit
namespace Frame
abbrev flt (x : Int) : Value:=.iface 130 (.agg #[.int .i64 x])
theorem must_ok (x : Int) (w : World) :
    Calls Tryz.prog 77 #[.bool true,.int .i64 x] w fun e w'=>e = .returned (.tuple #[])∧w = w':=by
  go_enter Tryz.func77,Tryz.ntmps77
  go_wp2_with fail
  go_end0
  exact ⟨rfl,rfl⟩
theorem must_bad (x : Int) (w : World) :
    Calls Tryz.prog 77 #[.bool false,.int .i64 x] w fun e w'=>e = .panicked [{ v:=flt x,recovered:=false }]∧w = w':=by
  go_enter Tryz.func77,Tryz.ntmps77
  go_wp2_with fail;exact ⟨rfl,rfl,rfl⟩
theorem must_yes {b : Bool} (hb : b = true) (x : Int) (w : World) : Calls Tryz.prog 77 #[.bool b,.int .i64 x] w fun e w'=>e = .returned (.tuple #[])∧w = w':=hb ▸ must_ok x w
theorem must_no {b : Bool} (hb : b = false) (x : Int) (w : World) : Calls Tryz.prog 77 #[.bool b,.int .i64 x] w fun e w'=>e = .panicked [{ v:=flt x,recovered:=false }]∧w = w':=hb ▸ must_bad x w
theorem drewN2 (w : World) (a b : Nat) : (w.drewN a).drewN b = w.drewN (a + b):=by simp [World.drewN,Nat.add_assoc]
theorem equal_any (A1 A2 : Option Addr) (n1 c1 n2 c2 : Nat) (xs ys : List UInt8) (B1 B2 : Nat) (w : World) (h1 : RdB w B1 A1 n1 xs) (h2 : RdB w B2 A2 n2 ys) (hl : n1≤9223372036854775807) (hne : n1 = n2) :
    Calls Tryz.prog 78 #[.slice A1 n1 c1,.slice A2 n2 c2] w fun e w'=>e = .returned (.bool (decide (xs = ys)))∧∃ m,w' = w.drewN m:=by
  obtain rfl:=h1.1;obtain hn:=h2.1;subst hne
  go_enter Tryz.func78,Tryz.ntmps78
  go_wp2_with fail
  go_loopw [13] (fun i wr=>∃ k m : Nat,k≤xs.length∧i = .int .i64 k∧wr = w.drewN m∧xs.take k = ys.take k) (fun i _=>xs.length - (intOf i).toNat)
  case atStart=>exact ⟨0,0,by omega,rfl,rfl,rfl⟩
  case round =>
    obtain ⟨k,m,hk,rfl,rfl,hp⟩:=hrel;have HP:=Lib.hid hp;clear hp
    by_cases hlt : k < xs.length
    · obtain ⟨a1,rfl,_,hc1⟩:=h1.at_ hlt
      obtain ⟨a2,rfl,_,hc2⟩:=h2.at_ (show k < ys.length by omega);have HN:=Lib.hid hn
      have hlt2 : k < ys.length:=by omega
      obtain ⟨x,hx⟩ : ∃ x,x = xs[k]:=⟨_,rfl⟩;obtain ⟨y,hy⟩ : ∃ y,y = ys[k]:=⟨_,rfl⟩;rw [← hx] at hc1;rw [← hy] at hc2;have HX:=Lib.hid hx;have HY:=Lib.hid hy;clear hx hy hn
      by_cases hxy : x = y
      · have hq : ((x.toNat : Int) != (y.toNat : Int)) = false:=by simp [hxy]
        go_wp2_with fail
        go_quiet (fail)
        go_wp2_with fail
        go_roundw
        case rel=>exact ⟨k + 1,_,by omega,by go_num,rfl,by rw [take_snoc xs hlt,take_snoc ys hlt2,HP.out,← HX.out,← HY.out,hxy]⟩
        case measure=>simp [intOf];omega
      · have hq : ((x.toNat : Int) != (y.toNat : Int)) = true:=by
          rw [bne_iff_ne];intro e;exact hxy (UInt8.toNat_inj.1 (by omega))
        have hd : ¬ xs = ys:=by
          intro e
          apply hxy
          rw [HX.out,HY.out]
          simp only [e]
        have HD:=Lib.hid hd;clear hd hxy;go_wp2_with fail
        go_quiet (fail)
        go_wp2_with fail;go_ret;exact ⟨by rw [decide_eq_false HD.out];rfl,_,drewN2 _ _ _⟩
    · have e : xs = ys:=by
        have:=HP.out
        rwa [List.take_of_length_le (by omega),List.take_of_length_le (by omega)] at this
      have HE:=Lib.hid e;clear e;go_wp2_with fail;go_ret;exact ⟨by rw [decide_eq_true HE.out];rfl,_,rfl⟩
theorem frame15 (a f : Value) : (#[a] ++ (Array.replicate 14 undef).setIfInBounds 4 f : Array Value) = #[a,undef,undef,undef,undef,f,undef,undef,undef,undef,undef,undef,undef,undef,undef]:=by kernel_rfl
theorem assert_flt (x : Int) (w : World) : (Instr.typeAssert (flt x) 20 130 true).run Tryz.prog w = .ok (.tuple #[.agg #[.int .i64 x],.bool true]) w:=by kernel_rfl
theorem caught_panic (g : Nat) (x : Int) (older : List PanicEntry) (v : Value) (w : World) (h0 : w.cell? ⟨g,0,none⟩ = some v) (hf : w.frozen? ⟨g,0,none⟩ = false) :
    CallsD Tryz.prog 38 #[.pointer (some ⟨g,0,none⟩)] (.panicking ({ v:=flt x,recovered:=false } :: older)) w fun e u' w' =>
      e = .returned (.tuple #[])∧u' = .panicking ({ v:=flt x,recovered:=true } :: older)∧w' = (w.alloc (.cells #[.int .i64 x] 130)).setCell ⟨g,0,none⟩ (.int .i64 x):=by
  have ta:=assert_flt x;have lt0:=World.block_lt_of_cell? w _ h0
  refine callsD_of_wpS Tryz.func38 rfl fun c₀ cs hu=>?_
  apply wpS_seq
  apply wpS_region
  simp [wpOpsS,go_sem,recoverD,hu,Tryz.ntmps38,Exit.thenS]
  refine wpS_of_wp ?_;rw [frame15];go_wp2_with fail
  simp [bodyPostS,results,Tryz.results38]
theorem caught_none (g : Nat) (w : World) :
    CallsD Tryz.prog 38 #[.pointer (some ⟨g,0,none⟩)] .returning w fun e u' w'=>e = .returned (.tuple #[])∧u' = .returning∧w' = w:=by
  refine callsD_of_wpS Tryz.func38 rfl fun c₀ cs hu=>?_
  apply wpS_seq
  apply wpS_region
  simp [wpOpsS,go_sem,recoverD,hu,Tryz.ntmps38,Exit.thenS]
  refine wpS_of_wp ?_;rw [frame15];go_wp2_with fail
  cases c₀
  simp_all [bodyPostS,results,Tryz.results38]
end Frame
end Go.Proofs.YtcgalmnllegnbaaGreat

namespace Go.Proofs.YtcgalmnllegnbaaGreat
set_option linter.unusedVariables false
set_option linter.unusedSimpArgs false
set_option maxRecDepth 100000
open Go.RowKit
open Dot Evt
theorem mwithin_any (n lo hi : Int) (w : World) : Calls Tryz.prog 41 #[.int .i64 n,.int .i64 lo,.int .i64 hi] w fun e w'=>e = .returned (.bool (inB n lo hi))∧w = w':=by
  have hs:=satw_any n lo hi w;obtain ⟨R,hR⟩ : ∃ R,R = inB n lo hi:=⟨_,rfl⟩;rw [← hR];rw [← within_eq] at hR
  generalize (if hi < n then hi else if n < lo then lo else n) = z at hs hR
  have HR:=Lib.hid hR;clear hR
  go_enter Tryz.func41,Tryz.ntmps41
  go_wp2_with fail;refine hs.mono ?_;rintro e w1 ⟨rfl,rfl⟩;go_wp2_with fail;go_ret;rw [HR.out];exact ⟨rfl,rfl⟩
theorem mnode_any (n : Int) (w : World) : Calls Tryz.prog 42 #[.int .i64 n] w fun e w'=>e = .returned (.bool (Ms.nodeB n))∧w = w':=by
  unfold Ms.nodeB
  go_enter Tryz.func42,Tryz.ntmps42
  go_wp2_with fail;refine (mwithin_any n 0 7 _).mono ?_;rintro e w1 ⟨rfl,rfl⟩;go_wp2_with fail;go_ret;exact ⟨rfl,rfl⟩
theorem rnode_any (n : Int) (w : World) : Calls Tryz.prog 66 #[.int .i64 n] w fun e w'=>e = .returned (.bool (Ms.nodeB n))∧w = w':=by
  obtain ⟨R,hR⟩ : ∃ R,R = Ms.nodeB n:=⟨_,rfl⟩;rw [← hR];have HR:=Lib.hid hR;clear hR
  by_cases h1 : 0≤n
  · by_cases h2 : n < 8
    · have hr : R = true:=by rw [HR.out];exact (Ms.nodeB_iff n).2 (by omega)
      subst hr
      go_enter Tryz.func66,Tryz.ntmps66
      go_wp2_with fail;go_ret;exact ⟨rfl,rfl⟩
    · have hr : R = false:=by rw [HR.out,Bool.eq_false_iff];intro h;have:=(Ms.nodeB_iff n).1 h;omega
      subst hr
      go_enter Tryz.func66,Tryz.ntmps66
      go_wp2_with fail;go_ret;exact ⟨rfl,rfl⟩
  · have hr : R = false:=by rw [HR.out,Bool.eq_false_iff];intro h;have:=(Ms.nodeB_iff n).1 h;omega
    subst hr
    go_enter Tryz.func66,Tryz.ntmps66
    go_wp2_with fail;go_ret;exact ⟨rfl,rfl⟩
abbrev mflt (x : Int) : Value:=.iface 92 (.agg #[.int .i64 x])
theorem mmust_ok (x : Int) (w : World) :
    Calls Tryz.prog 17 #[.bool true,.int .i64 x] w fun e w'=>e = .returned (.tuple #[])∧w = w':=by
  go_enter Tryz.func17,Tryz.ntmps17
  go_wp2_with fail
  go_end0
  exact ⟨rfl,rfl⟩
theorem mmust_bad (x : Int) (w : World) :
    Calls Tryz.prog 17 #[.bool false,.int .i64 x] w fun e w'=>e = .panicked [{ v:=mflt x,recovered:=false }]∧w = w':=by
  go_enter Tryz.func17,Tryz.ntmps17
  go_wp2_with fail;exact ⟨rfl,rfl,rfl⟩
theorem mmust_yes {b : Bool} (hb : b = true) (x : Int) (w : World) : Calls Tryz.prog 17 #[.bool b,.int .i64 x] w fun e w'=>e = .returned (.tuple #[])∧w = w':=hb ▸ mmust_ok x w
theorem mmust_no {b : Bool} (hb : b = false) (x : Int) (w : World) : Calls Tryz.prog 17 #[.bool b,.int .i64 x] w fun e w'=>e = .panicked [{ v:=mflt x,recovered:=false }]∧w = w':=hb ▸ mmust_bad x w
theorem massert_flt (x : Int) (w : World) : (Instr.typeAssert (mflt x) 20 92 true).run Tryz.prog w = .ok (.tuple #[.agg #[.int .i64 x],.bool true]) w:=by kernel_rfl
theorem mcaught_panic (g : Nat) (x : Int) (older : List PanicEntry) (v : Value) (w : World) (h0 : w.cell? ⟨g,0,none⟩ = some v) (hf : w.frozen? ⟨g,0,none⟩ = false) :
    CallsD Tryz.prog 16 #[.pointer (some ⟨g,0,none⟩)] (.panicking ({ v:=mflt x,recovered:=false } :: older)) w fun e u' w' =>
      e = .returned (.tuple #[])∧u' = .panicking ({ v:=mflt x,recovered:=true } :: older)∧w' = (w.alloc (.cells #[.int .i64 x] 92)).setCell ⟨g,0,none⟩ (.int .i64 x):=by
  have ta:=massert_flt x;have lt0:=World.block_lt_of_cell? w _ h0
  refine callsD_of_wpS Tryz.func16 rfl fun c₀ cs hu=>?_
  apply wpS_seq
  apply wpS_region
  simp [wpOpsS,go_sem,recoverD,hu,Tryz.ntmps16,Exit.thenS]
  refine wpS_of_wp ?_;rw [Frame.frame15];go_wp2_with fail
  simp [bodyPostS,results,Tryz.results16]
theorem mcaught_none (g : Nat) (w : World) :
    CallsD Tryz.prog 16 #[.pointer (some ⟨g,0,none⟩)] .returning w fun e u' w'=>e = .returned (.tuple #[])∧u' = .returning∧w' = w:=by
  refine callsD_of_wpS Tryz.func16 rfl fun c₀ cs hu=>?_
  apply wpS_seq
  apply wpS_region
  simp [wpOpsS,go_sem,recoverD,hu,Tryz.ntmps16,Exit.thenS]
  refine wpS_of_wp ?_;rw [Frame.frame15];go_wp2_with fail
  cases c₀
  simp_all [bodyPostS,results,Tryz.results16]
end Go.Proofs.YtcgalmnllegnbaaGreat

namespace Go.Proofs.YtcgalmnllegnbaaGreat
set_option linter.unusedVariables false
set_option linter.unusedSimpArgs false
set_option maxRecDepth 100000
open Go.RowKit
open Dot Evt
def pv (s n q v : Bool) : Value:=.agg #[.bool s,.bool n,.bool q,.bool v]
def hasV (k : Int) : Value:=pv (decide (k ≠ 5)) (decide (k = 2∨k = 3)) (decide (k = 4)) (decide (k = 5))
theorem rowPt : RowT Tryz.prog 56 4:=⟨_,Tryz.underlying56,rfl,by kernel_rfl⟩
theorem rowKs : RowT Tryz.prog 96 24:=⟨_,Tryz.underlying96,rfl,by kernel_rfl⟩
abbrev KS : Array Value:=#[.bool false,.bool false,.bool false,.bool false,.bool true,.bool false,.bool false,.bool false,.bool true,.bool true,.bool false,.bool false,.bool true,.bool true,.bool false,.bool false,.bool true,.bool false,.bool true,.bool false,.bool false,.bool false,.bool false,.bool true]
theorem ks_size : KS.size = 24:=rfl
theorem ks_one : KS.all (·.oneCell') = true:=by kernel_rfl
theorem pt_one (s n q v : Bool) : (#[Value.bool s,.bool n,.bool q,.bool v]).all (·.oneCell') = true:=by simp [Value.oneCell']
theorem rng4 {w : World} {g o : Nat} {T : TypeId} {cs : Array Value} {a b c d : Value} (k : Blk w g T cs) (h0 : cs[o]? = some a) (h1 : cs[o + 1]? = some b) (h2 : cs[o + 2]? = some c) (h3 : cs[o + 3]? = some d) : w.rangeAt g o (#[a,b,c,d]).toList:=fun j v hv=>by
  rw [k.cell]
  match j,hv with
  | 0,hv=>rw [Nat.add_zero,h0];exact hv
  | 1,hv=>rw [h1];exact hv
  | 2,hv=>rw [h2];exact hv
  | 3,hv=>rw [h3];exact hv
theorem has1_any (w : World) : Calls Tryz.prog 22 #[.int .i64 1] w fun e w'=>e = .returned (hasV 1)∧Below w.heap.size w w':=by
  go_enter Tryz.func22,Tryz.ntmps22
  go_upto_region 1 with fail
  refine nameW ?_;intro W hW;obtain ⟨G,hG⟩ : ∃ G,G = w.heap.size:=⟨_,rfl⟩;rw [← hG]
  have k0 : Blk W G 56 #[.bool false,.bool false,.bool false,.bool false]:=by rw [hW,hG];exact Blk.new w _ _
  have gb : Below w.heap.size w W:=by rw [hW];exact (Below.refl _ _).alloc (Nat.le_refl _) _
  have hGl : w.heap.size≤G:=by omega
  clear hW hG
  go_upto_region 2 with ((with_reducible refine wpList_st (cs:=KS) rowKs (Blk.new _ _ _) ks_size ?_ ks_one ?_ ?_ ?_);(rfl);rotate_left;(rfl);(rfl);intro w6 k6 g6 z6)
  have gn : Below W.heap.size W w6:=new_below g6;have k0:=k0.below gn k0.lt;have gb:=gb.trans (gn.mono gb.size);obtain ⟨H,hH⟩ : ∃ H,H = W.heap.size:=⟨_,rfl⟩;rw [← hH] at k6 ⊢;clear g6 z6 gn hH;have r4:=rng4 (o:=4) k6 rfl rfl rfl rfl
  go_wp2_with first
    | ((with_reducible refine wpList_ldr rowPt r4 rfl ?_ ?_);rotate_left;(rfl))
    | ((with_reducible refine wpList_st (cs:=#[.bool true,.bool false,.bool false,.bool false]) rowPt k0 rfl rfl (pt_one _ _ _ _) ?_ ?_ ?_);rotate_left;(rfl);(rfl);intro w7 k7 g7 z7)
  exact bodyPost_ret (v:=.agg #[.bool true,.bool false,.bool false,.bool false]) (results_blk rfl rowPt k7 rfl rfl) rfl ⟨rfl,gb.grown g7 gb.size (fun q hq=>by injection hq with hq;omega)⟩
theorem has2_any (w : World) : Calls Tryz.prog 22 #[.int .i64 2] w fun e w'=>e = .returned (hasV 2)∧Below w.heap.size w w':=by
  go_enter Tryz.func22,Tryz.ntmps22
  go_upto_region 1 with fail
  refine nameW ?_;intro W hW;obtain ⟨G,hG⟩ : ∃ G,G = w.heap.size:=⟨_,rfl⟩;rw [← hG]
  have k0 : Blk W G 56 #[.bool false,.bool false,.bool false,.bool false]:=by rw [hW,hG];exact Blk.new w _ _
  have gb : Below w.heap.size w W:=by rw [hW];exact (Below.refl _ _).alloc (Nat.le_refl _) _
  have hGl : w.heap.size≤G:=by omega
  clear hW hG
  go_upto_region 2 with ((with_reducible refine wpList_st (cs:=KS) rowKs (Blk.new _ _ _) ks_size ?_ ks_one ?_ ?_ ?_);(rfl);rotate_left;(rfl);(rfl);intro w6 k6 g6 z6)
  have gn : Below W.heap.size W w6:=new_below g6;have k0:=k0.below gn k0.lt;have gb:=gb.trans (gn.mono gb.size);obtain ⟨H,hH⟩ : ∃ H,H = W.heap.size:=⟨_,rfl⟩;rw [← hH] at k6 ⊢;clear g6 z6 gn hH;have r4:=rng4 (o:=8) k6 rfl rfl rfl rfl
  go_wp2_with first
    | ((with_reducible refine wpList_ldr rowPt r4 rfl ?_ ?_);rotate_left;(rfl))
    | ((with_reducible refine wpList_st (cs:=#[.bool true,.bool true,.bool false,.bool false]) rowPt k0 rfl rfl (pt_one _ _ _ _) ?_ ?_ ?_);rotate_left;(rfl);(rfl);intro w7 k7 g7 z7)
  exact bodyPost_ret (v:=.agg #[.bool true,.bool true,.bool false,.bool false]) (results_blk rfl rowPt k7 rfl rfl) rfl ⟨rfl,gb.grown g7 gb.size (fun q hq=>by injection hq with hq;omega)⟩
theorem has3_any (w : World) : Calls Tryz.prog 22 #[.int .i64 3] w fun e w'=>e = .returned (hasV 3)∧Below w.heap.size w w':=by
  go_enter Tryz.func22,Tryz.ntmps22
  go_upto_region 1 with fail
  refine nameW ?_;intro W hW;obtain ⟨G,hG⟩ : ∃ G,G = w.heap.size:=⟨_,rfl⟩;rw [← hG]
  have k0 : Blk W G 56 #[.bool false,.bool false,.bool false,.bool false]:=by rw [hW,hG];exact Blk.new w _ _
  have gb : Below w.heap.size w W:=by rw [hW];exact (Below.refl _ _).alloc (Nat.le_refl _) _
  have hGl : w.heap.size≤G:=by omega
  clear hW hG
  go_upto_region 2 with ((with_reducible refine wpList_st (cs:=KS) rowKs (Blk.new _ _ _) ks_size ?_ ks_one ?_ ?_ ?_);(rfl);rotate_left;(rfl);(rfl);intro w6 k6 g6 z6)
  have gn : Below W.heap.size W w6:=new_below g6;have k0:=k0.below gn k0.lt;have gb:=gb.trans (gn.mono gb.size);obtain ⟨H,hH⟩ : ∃ H,H = W.heap.size:=⟨_,rfl⟩;rw [← hH] at k6 ⊢;clear g6 z6 gn hH;have r4:=rng4 (o:=12) k6 rfl rfl rfl rfl
  go_wp2_with first
    | ((with_reducible refine wpList_ldr rowPt r4 rfl ?_ ?_);rotate_left;(rfl))
    | ((with_reducible refine wpList_st (cs:=#[.bool true,.bool true,.bool false,.bool false]) rowPt k0 rfl rfl (pt_one _ _ _ _) ?_ ?_ ?_);rotate_left;(rfl);(rfl);intro w7 k7 g7 z7)
  exact bodyPost_ret (v:=.agg #[.bool true,.bool true,.bool false,.bool false]) (results_blk rfl rowPt k7 rfl rfl) rfl ⟨rfl,gb.grown g7 gb.size (fun q hq=>by injection hq with hq;omega)⟩
theorem has4_any (w : World) : Calls Tryz.prog 22 #[.int .i64 4] w fun e w'=>e = .returned (hasV 4)∧Below w.heap.size w w':=by
  go_enter Tryz.func22,Tryz.ntmps22
  go_upto_region 1 with fail
  refine nameW ?_;intro W hW;obtain ⟨G,hG⟩ : ∃ G,G = w.heap.size:=⟨_,rfl⟩;rw [← hG]
  have k0 : Blk W G 56 #[.bool false,.bool false,.bool false,.bool false]:=by rw [hW,hG];exact Blk.new w _ _
  have gb : Below w.heap.size w W:=by rw [hW];exact (Below.refl _ _).alloc (Nat.le_refl _) _
  have hGl : w.heap.size≤G:=by omega
  clear hW hG
  go_upto_region 2 with ((with_reducible refine wpList_st (cs:=KS) rowKs (Blk.new _ _ _) ks_size ?_ ks_one ?_ ?_ ?_);(rfl);rotate_left;(rfl);(rfl);intro w6 k6 g6 z6)
  have gn : Below W.heap.size W w6:=new_below g6;have k0:=k0.below gn k0.lt;have gb:=gb.trans (gn.mono gb.size);obtain ⟨H,hH⟩ : ∃ H,H = W.heap.size:=⟨_,rfl⟩;rw [← hH] at k6 ⊢;clear g6 z6 gn hH;have r4:=rng4 (o:=16) k6 rfl rfl rfl rfl
  go_wp2_with first
    | ((with_reducible refine wpList_ldr rowPt r4 rfl ?_ ?_);rotate_left;(rfl))
    | ((with_reducible refine wpList_st (cs:=#[.bool true,.bool false,.bool true,.bool false]) rowPt k0 rfl rfl (pt_one _ _ _ _) ?_ ?_ ?_);rotate_left;(rfl);(rfl);intro w7 k7 g7 z7)
  exact bodyPost_ret (v:=.agg #[.bool true,.bool false,.bool true,.bool false]) (results_blk rfl rowPt k7 rfl rfl) rfl ⟨rfl,gb.grown g7 gb.size (fun q hq=>by injection hq with hq;omega)⟩
theorem has5_any (w : World) : Calls Tryz.prog 22 #[.int .i64 5] w fun e w'=>e = .returned (hasV 5)∧Below w.heap.size w w':=by
  go_enter Tryz.func22,Tryz.ntmps22
  go_upto_region 1 with fail
  refine nameW ?_;intro W hW;obtain ⟨G,hG⟩ : ∃ G,G = w.heap.size:=⟨_,rfl⟩;rw [← hG]
  have k0 : Blk W G 56 #[.bool false,.bool false,.bool false,.bool false]:=by rw [hW,hG];exact Blk.new w _ _
  have gb : Below w.heap.size w W:=by rw [hW];exact (Below.refl _ _).alloc (Nat.le_refl _) _
  have hGl : w.heap.size≤G:=by omega
  clear hW hG
  go_upto_region 2 with ((with_reducible refine wpList_st (cs:=KS) rowKs (Blk.new _ _ _) ks_size ?_ ks_one ?_ ?_ ?_);(rfl);rotate_left;(rfl);(rfl);intro w6 k6 g6 z6)
  have gn : Below W.heap.size W w6:=new_below g6;have k0:=k0.below gn k0.lt;have gb:=gb.trans (gn.mono gb.size);obtain ⟨H,hH⟩ : ∃ H,H = W.heap.size:=⟨_,rfl⟩;rw [← hH] at k6 ⊢;clear g6 z6 gn hH;have r4:=rng4 (o:=20) k6 rfl rfl rfl rfl
  go_wp2_with first
    | ((with_reducible refine wpList_ldr rowPt r4 rfl ?_ ?_);rotate_left;(rfl))
    | ((with_reducible refine wpList_st (cs:=#[.bool false,.bool false,.bool false,.bool true]) rowPt k0 rfl rfl (pt_one _ _ _ _) ?_ ?_ ?_);rotate_left;(rfl);(rfl);intro w7 k7 g7 z7)
  exact bodyPost_ret (v:=.agg #[.bool false,.bool false,.bool false,.bool true]) (results_blk rfl rowPt k7 rfl rfl) rfl ⟨rfl,gb.grown g7 gb.size (fun q hq=>by injection hq with hq;omega)⟩
theorem has17_any (k : Int) (w : World) (hk : 1≤k∧k≤5) : Calls Tryz.prog 22 #[.int .i64 k] w fun e w'=>e = .returned (hasV k)∧Below w.heap.size w w':=by
  obtain rfl | rfl | rfl | rfl | rfl : k = 1∨k = 2∨k = 3∨k = 4∨k = 5:=by omega
  · exact has1_any w
  · exact has2_any w
  · exact has3_any w
  · exact has4_any w
  · exact has5_any w
end Go.Proofs.YtcgalmnllegnbaaGreat

namespace Go.Proofs.YtcgalmnllegnbaaGreat
set_option linter.unusedVariables false
set_option linter.unusedSimpArgs false
set_option maxRecDepth 100000
open Go.RowKit
open Dot Evt
theorem askSeq_any (s n q v : Bool) (x : MgV) (w : World) : Calls Tryz.prog 44 #[pv s n q v,.agg x.cs] w fun e w'=>e = .returned (.bool (inB x.m.seq 0 (if q then 1 else if s then 1099511627776 else 0)))∧Below w.heap.size w w':=by
  obtain ⟨⟨kd,fr,tt,sq,nd,u,more,ev,mem⟩,A1,n1,c1,xs,A2,n2,c2,A3,n3,c3⟩:=x
  unfold MgV.cs mgc
  simp only
  generalize u.getD 0 0 = u0,u.getD 1 0 = u1,u.getD 2 0 = u2,u.getD 3 0 = u3,u.getD 4 0 = u4,u.getD 5 0 = u5,u.getD 6 0 = u6,u.getD 7 0 = u7
  unfold pv
  have hb : Below w.heap.size w ((w.alloc (.cells #[.bool s,.bool n,.bool q,.bool v] 56)).alloc (.cells #[.int .i64 kd,.int .i64 fr,.int .i64 tt,.int .i64 sq,.int .i64 nd,.int .i64 u0,.int .i64 u1,.int .i64 u2,.int .i64 u3,.int .i64 u4,.int .i64 u5,.int .i64 u6,.int .i64 u7,.slice A1 n1 c1,.slice A2 n2 c2,.slice A3 n3 c3] 30)):=((Below.refl _ _).alloc (Nat.le_refl _) _).alloc (by simp) _
  cases q
  case true =>
    cases s
    all_goals (
      go_enter Tryz.func44,Tryz.ntmps44
      go_wp2_with fail;refine (mwithin_any _ _ _ _).mono ?_;rintro e w1 ⟨rfl,rfl⟩;go_wp2_with fail;go_ret
      exact ⟨rfl,hb⟩)
  case false =>
    cases s
    all_goals (
      go_enter Tryz.func44,Tryz.ntmps44
      go_wp2_with fail;refine (mwithin_any _ _ _ _).mono ?_;rintro e w1 ⟨rfl,rfl⟩;go_wp2_with fail;go_ret
      exact ⟨rfl,hb⟩)
theorem askNode_any (s n q v : Bool) (x : MgV) (w : World) : Calls Tryz.prog 45 #[pv s n q v,.agg x.cs] w fun e w'=>e = .returned (.bool ((n && Ms.nodeB x.m.node) || decide (x.m.node = 0)))∧Below w.heap.size w w':=by
  obtain ⟨⟨kd,fr,tt,sq,nd,u,more,ev,mem⟩,A1,n1,c1,xs,A2,n2,c2,A3,n3,c3⟩:=x
  unfold MgV.cs mgc
  simp only
  generalize u.getD 0 0 = u0,u.getD 1 0 = u1,u.getD 2 0 = u2,u.getD 3 0 = u3,u.getD 4 0 = u4,u.getD 5 0 = u5,u.getD 6 0 = u6,u.getD 7 0 = u7
  unfold pv
  have hb : Below w.heap.size w ((w.alloc (.cells #[.bool s,.bool n,.bool q,.bool v] 56)).alloc (.cells #[.int .i64 kd,.int .i64 fr,.int .i64 tt,.int .i64 sq,.int .i64 nd,.int .i64 u0,.int .i64 u1,.int .i64 u2,.int .i64 u3,.int .i64 u4,.int .i64 u5,.int .i64 u6,.int .i64 u7,.slice A1 n1 c1,.slice A2 n2 c2,.slice A3 n3 c3] 30)):=((Below.refl _ _).alloc (Nat.le_refl _) _).alloc (by simp) _;have hn:=mnode_any nd
  generalize Ms.nodeB nd = R at *
  have hz : ((nd : Int) == 0) = decide (nd = 0):=rfl
  generalize hdz : decide (nd = 0) = Z at *
  cases n
  case true =>
    cases R
    all_goals (
      go_enter Tryz.func45,Tryz.ntmps45
      go_wp2_with fail;refine (hn _).mono ?_;rintro e w1 ⟨rfl,rfl⟩;go_wp2_with fail;go_ret
      exact ⟨rfl,hb⟩)
  case false =>
    go_enter Tryz.func45,Tryz.ntmps45
    go_wp2_with fail;go_ret;exact ⟨rfl,hb⟩
theorem mgv_at (x : MgV) : x.cs[0]? = some (.int .i64 x.m.kind)∧x.cs[1]? = some (.int .i64 x.m.frm)∧x.cs[2]? = some (.int .i64 x.m.to)∧x.cs[3]? = some (.int .i64 x.m.seq)∧x.cs[4]? = some (.int .i64 x.m.node)∧x.cs[13]? = some (.slice x.A1 x.n1 x.c1)∧x.cs[14]? = some (.slice x.A2 x.n2 x.c2)∧x.cs[15]? = some (.slice x.A3 x.n3 x.c3):=⟨rfl,rfl,rfl,rfl,rfl,rfl,rfl,rfl⟩
theorem mgv_u (x : MgV) (hu : x.m.u.length = 8) {w : World} {g : Nat} {T : TypeId} (k : Blk w g T x.cs) : w.rangeAt g 5 (x.m.u.map (Value.int .i64)):=fun j v hv=>by
  rw [k.cell];obtain ⟨⟨kd,fr,tt,sq,nd,u,more,ev,mem⟩,A1,n1,c1,xs,A2,n2,c2,A3,n3,c3⟩:=x
  simp only at hu hv
  match u,hu with
  | [u0,u1,u2,u3,u4,u5,u6,u7],_ =>
    match j,hv with
    | 0,hv=>exact hv
    | 1,hv=>exact hv
    | 2,hv=>exact hv
    | 3,hv=>exact hv
    | 4,hv=>exact hv
    | 5,hv=>exact hv
    | 6,hv=>exact hv
    | 7,hv=>exact hv
theorem seen_any (x : MgV) (hu : x.m.u.length = 8) (w : World) : Calls Tryz.prog 36 #[.agg x.cs] w fun e w'=>e = .returned (.agg (uc x.m.u (.slice x.A1 x.n1 x.c1)))∧Below w.heap.size w w':=by
  obtain ⟨⟨kd,fr,tt,sq,nd,u,more,ev,mem⟩,A1,n1,c1,xs,A2,n2,c2,A3,n3,c3⟩:=x
  simp only at hu
  match u,hu with
  | [u0,u1,u2,u3,u4,u5,u6,u7],_ =>
    unfold MgV.cs mgc uc
    simp only [List.getD_cons_zero,List.getD_cons_succ,List.map_cons,List.map_nil,List.cons_append,List.nil_append]
    go_enter Tryz.func36,Tryz.ntmps36
    go_upto_region 1 with fail
    refine nameW ?_;intro W hW;obtain ⟨G,hG⟩ : ∃ G,G = w.heap.size:=⟨_,rfl⟩;rw [← hG]
    have kb : Blk W G 30 #[.int .i64 kd,.int .i64 fr,.int .i64 tt,.int .i64 sq,.int .i64 nd,.int .i64 u0,.int .i64 u1,.int .i64 u2,.int .i64 u3,.int .i64 u4,.int .i64 u5,.int .i64 u6,.int .i64 u7,.slice A1 n1 c1,.slice A2 n2 c2,.slice A3 n3 c3]:=by rw [hW,hG];exact (Blk.new w _ _).alloc _
    have kz : Blk W (G + 1) 59 #[.int .i64 0,.int .i64 0,.int .i64 0,.int .i64 0,.int .i64 0,.int .i64 0,.int .i64 0,.int .i64 0,.slice none 0 0]:=by
      have h:=Blk.new (w.alloc (.cells #[.int .i64 kd,.int .i64 fr,.int .i64 tt,.int .i64 sq,.int .i64 nd,.int .i64 u0,.int .i64 u1,.int .i64 u2,.int .i64 u3,.int .i64 u4,.int .i64 u5,.int .i64 u6,.int .i64 u7,.slice A1 n1 c1,.slice A2 n2 c2,.slice A3 n3 c3] 30)) 59 #[.int .i64 0,.int .i64 0,.int .i64 0,.int .i64 0,.int .i64 0,.int .i64 0,.int .i64 0,.int .i64 0,.slice none 0 0];rw [hW,hG]
      simpa using h
    have gb : Below w.heap.size w W:=by rw [hW];exact ((Below.refl _ _).alloc (Nat.le_refl _) _).alloc (by simp) _
    have hGl : w.heap.size≤G + 1:=by omega
    have r5 : W.rangeAt G 5 (([u0,u1,u2,u3,u4,u5,u6,u7] : List Int).map (Value.int .i64)):=fun j v hv=>by
      rw [kb.cell]
      match j,hv with
      | 0,hv=>exact hv
      | 1,hv=>exact hv
      | 2,hv=>exact hv
      | 3,hv=>exact hv
      | 4,hv=>exact hv
      | 5,hv=>exact hv
      | 6,hv=>exact hv
      | 7,hv=>exact hv
    have k13 : W.cell? ⟨G,13,none⟩ = some (.slice A1 n1 c1):=kb.cell 13;clear hW hG kb
    go_wp2_with first
      | ((with_reducible refine wpList_ldm row8 r5 rfl ?_ ?_);rotate_left;(rfl))
      | ((with_reducible refine wpList_st (cs:=#[.int .i64 u0,.int .i64 u1,.int .i64 u2,.int .i64 u3,.int .i64 u4,.int .i64 u5,.int .i64 u6,.int .i64 u7,.slice A1 n1 c1]) rowS kz rfl rfl ?_ ?_ ?_ ?_);(exact uc_one (U:=[u0,u1,u2,u3,u4,u5,u6,u7]) (s:=.slice A1 n1 c1) rfl);rotate_left;(rfl);(rfl);intro w7 k7 g7 z7)
    exact bodyPost_ret (v:=.agg #[.int .i64 u0,.int .i64 u1,.int .i64 u2,.int .i64 u3,.int .i64 u4,.int .i64 u5,.int .i64 u6,.int .i64 u7,.slice A1 n1 c1]) (results_blk rfl rowS k7 rfl rfl) rfl ⟨rfl,gb.grown g7 gb.size (fun q hq=>by injection hq with hq;omega)⟩
def zeros8 : List Int:=[0,0,0,0,0,0,0,0]
set_option maxHeartbeats 1000000 in
theorem askSeen_any (s n q v : Bool) (x : MgV) (hu : x.m.u.length = 8) (wu : Wf x.m.u) (w : World) (hr : RdD w w.heap.size x.A1 x.n1 x.m.more) :
    Calls Tryz.prog 46 #[pv s n q v,.agg x.cs] w fun e w'=>e = .returned (.bool (if q then rightB x.m.u x.m.more else Ms.noSeen x.m))∧Below w.heap.size w w':=by
  have hs:=seen_any x hu;have HS:=Lib.hid hs
  have HR:=Lib.hid fun (w' : World) (h : RdD w' w'.heap.size x.A1 x.n1 x.m.more)=>right_any x.m.u hu x.A1 x.n1 x.c1 x.m.more w' h
  have HRD:=Lib.hid fun (w' : World) (h : Below w.heap.size w w')=>(hr.below h).more h.size
  have HN:=Lib.hid hr.1;have H13:=Lib.hid (mgv_at x).2.2.2.2.2.1
  have HU:=Lib.hid fun (w' : World) (g : Nat) (h : Blk w' g 30 x.cs)=>mgv_u x hu h
  have HUL:=Lib.hid hu;have HUM:=Lib.hid (show (x.m.u.map (Value.int .i64)).length = 8 by rw [List.length_map,hu]);have WU:=Lib.hid wu;have SZ:=Lib.hid x.size;have ONE:=Lib.hid x.one;have WZ:=Lib.hid (show Wf zeros8 from fun y hy=>by simp [zeros8] at hy;subst hy;exact wf_of (by omega) (by omega));have NS:=Lib.hid (show Ms.noSeen x.m = (decide (x.m.u = zeros8) && decide (x.m.more = [])) from rfl);clear hs hr hu wu
  unfold pv
  generalize hC : x.cs = C at *
  clear hC
  cases q
  case true =>
    go_enter Tryz.func46,Tryz.ntmps46
    go_upto_region 1 with fail
    refine nameW ?_;intro W hW;obtain ⟨G,hG⟩ : ∃ G,G = w.heap.size:=⟨_,rfl⟩;rw [← hG]
    have kb : Blk W (G + 1) 30 C:=by
      have h:=Blk.new (w.alloc (.cells #[.bool s,.bool n,.bool true,.bool v] 56)) 30 C;rw [hW,hG]
      simpa using h
    have kp : W.cell? ⟨G,2,none⟩ = some (.bool true):=by rw [hW,hG];exact ((Blk.new w 56 #[.bool s,.bool n,.bool true,.bool v]).alloc _).cell 2
    have gb : Below w.heap.size w W:=by rw [hW];exact ((Below.refl _ _).alloc (Nat.le_refl _) _).alloc (by simp) _
    clear hW hG
    go_wp2_with ((with_reducible refine wpList_ld rowMg kb SZ.out ?_ ?_);rotate_left;(rfl))
    refine (HS.out _).mono ?_;rintro e w1 ⟨rfl,b1⟩;have gb1:=gb.trans (b1.mono gb.size);clear kb kp gb b1;go_wp2_with fail;refine (HR.out _ (HRD.out _ gb1)).mono ?_;rintro e w2 ⟨rfl,b2⟩;have gb2:=gb1.trans (b2.mono gb1.size);go_wp2_with fail;go_ret;exact ⟨rfl,gb2⟩
  case false =>
    go_enter Tryz.func46,Tryz.ntmps46
    go_upto_region 1 with fail
    refine nameW ?_;intro W hW;obtain ⟨G,hG⟩ : ∃ G,G = w.heap.size:=⟨_,rfl⟩;rw [← hG]
    have kb : Blk W (G + 1) 30 C:=by
      have h:=Blk.new (w.alloc (.cells #[.bool s,.bool n,.bool false,.bool v] 56)) 30 C;rw [hW,hG]
      simpa using h
    have kp : W.cell? ⟨G,2,none⟩ = some (.bool false):=by rw [hW,hG];exact ((Blk.new w 56 #[.bool s,.bool n,.bool false,.bool v]).alloc _).cell 2
    have gb : Below w.heap.size w W:=by rw [hW];exact ((Below.refl _ _).alloc (Nat.le_refl _) _).alloc (by simp) _
    have r5:=HU.out _ _ kb;have k13 : W.cell? ⟨G + 1,13,none⟩ = some (.slice x.A1 x.n1 x.c1):=(kb.cell 13).trans H13.out;have hnm : x.n1 = x.m.more.length:=HN.out;clear hW hG kb
    by_cases hz : x.m.u = zeros8
    · by_cases hm : x.n1 = 0
      · have hres : Ms.noSeen x.m = true:=by rw [NS.out,decide_eq_true hz,decide_eq_true (List.eq_nil_of_length_eq_zero (by omega))];rfl
        have HRS:=Lib.hid hres;have hd : decide (x.m.u = zeros8) = true:=decide_eq_true hz;clear hres hz hnm
        go_upto_region 3 with fail
        go_wp2_with first
          | ((with_reducible refine wpList_ldm row8 r5 HUM.out ?_ ?_);rotate_left;(rfl);rw [show (x.m.u.map (Value.int .i64)).toArray = uI x.m.u from rfl])
          | ((with_reducible refine wpList_eq8 (A:=x.m.u) (B:=zeros8) HUL.out rfl WU.out WZ.out ?_ ?_ ?_);rotate_left;(rfl);(rfl);rw [hd])
        go_ret;rw [HRS.out];exact ⟨rfl,gb⟩
      · have hres : Ms.noSeen x.m = false:=by rw [NS.out,decide_eq_true hz,decide_eq_false (fun e=>hm (by rw [hnm,e];rfl))];rfl
        have hq0 : ((x.n1 : Int) == 0) = false:=by rw [beq_eq_false_iff_ne];omega
        have HRS:=Lib.hid hres;have hd : decide (x.m.u = zeros8) = true:=decide_eq_true hz;clear hres hz hnm
        go_upto_region 3 with fail
        go_wp2_with first
          | ((with_reducible refine wpList_ldm row8 r5 HUM.out ?_ ?_);rotate_left;(rfl);rw [show (x.m.u.map (Value.int .i64)).toArray = uI x.m.u from rfl])
          | ((with_reducible refine wpList_eq8 (A:=x.m.u) (B:=zeros8) HUL.out rfl WU.out WZ.out ?_ ?_ ?_);rotate_left;(rfl);(rfl);rw [hd])
        go_ret;rw [HRS.out];exact ⟨rfl,gb⟩
    · have hres : Ms.noSeen x.m = false:=by rw [NS.out,decide_eq_false hz];rfl
      have HRS:=Lib.hid hres;have hd : decide (x.m.u = zeros8) = false:=decide_eq_false hz;clear hres hz hnm
      go_upto_region 3 with fail
      go_wp2_with first
        | ((with_reducible refine wpList_ldm row8 r5 HUM.out ?_ ?_);rotate_left;(rfl);rw [show (x.m.u.map (Value.int .i64)).toArray = uI x.m.u from rfl])
        | ((with_reducible refine wpList_eq8 (A:=x.m.u) (B:=zeros8) HUL.out rfl WU.out WZ.out ?_ ?_ ?_);rotate_left;(rfl);(rfl);rw [hd])
      go_ret;rw [HRS.out];exact ⟨rfl,gb⟩
end Go.Proofs.YtcgalmnllegnbaaGreat

namespace Go.Proofs.YtcgalmnllegnbaaGreat
set_option linter.unusedVariables false
set_option linter.unusedSimpArgs false
set_option maxRecDepth 100000
open Go.RowKit
open Dot Evt
open Ms (Mem)
theorem members_bad {l : List Mem} {i : Nat} (h : i < l.length) (hb : Ms.memAt l i = false) : Ms.membersB l = false:=by
  rw [Bool.eq_false_iff];intro h2
  have:=(Ms.members_iff l).1 h2 i h
  rw [hb] at this
  cases this
theorem lastM_succ {l : List Mem} {k : Nat} (h : k < l.length) : Ms.lastM l (k + 1) = (l[k]).1:=by
  unfold Ms.lastM
  rw [if_neg (by omega),Nat.add_sub_cancel,List.getD_eq_getElem?_getD,List.getElem?_eq_getElem h]
  rfl
theorem memAt_eq {l : List Mem} {k : Nat} (h : k < l.length) : Ms.memAt l k = (Ms.nodeB (l[k]).1 && decide (Ms.lastM l k < (l[k]).1) && inB (l[k]).2.1 1 4 && inB (l[k]).2.2 0 1099511627776):=by
  unfold Ms.memAt
  rw [List.getD_eq_getElem?_getD,List.getElem?_eq_getElem h]
  rfl
set_option maxHeartbeats 1000000 in
theorem members_any (A : Option Addr) (n c : Nat) (l : List Mem) (w : World) (hl : RdMb w w.heap.size A n l) (hn : n≤maxLen) :
    Calls Tryz.prog 43 #[.slice A n c] w fun e w'=>e = .returned (.bool (Ms.membersB l))∧Below w.heap.size w w':=by
  obtain ⟨R,hR⟩ : ∃ R,R = Ms.membersB l:=⟨_,rfl⟩;rw [← hR];have HR:=Lib.hid hR;have HN:=Lib.hid hl.1
  have HRK:=Lib.hid fun (w' : World) (hb : Below w.heap.size w w')=>hl.below hb
  unfold maxLen at hn
  clear hR hl
  go_enter Tryz.func43,Tryz.ntmps43
  go_wp2_with fail
  go_loopw [3,8] (fun la i wr=>∃ k : Nat,k≤n∧i = .int .i64 k∧la = .int .i64 (Ms.lastM l k)∧(∀ j,j < k→Ms.memAt l j = true)∧Below w.heap.size w wr) (fun _ i _=>n - (intOf i).toNat)
  case atStart=>exact ⟨0,by omega,rfl,rfl,fun j hj=>by omega,Below.refl _ _⟩
  case round =>
    obtain ⟨k,hk,rfl,rfl,hall,gb⟩:=hrel;have HA:=Lib.hid hall;clear hall
    by_cases hlt : k < n
    · have hkl : k < l.length:=by rw [← HN.out];exact hlt
      obtain ⟨ad,hA,q5,q0,q1,q2⟩:=(HRK.out wr gb).2 k _ (List.getElem?_eq_getElem hkl);have hme:=memAt_eq hkl;have hls:=lastM_succ hkl
      have HB:=Lib.hid fun (h : Ms.memAt l k = false)=>members_bad hkl h
      have hk0 : (0 : Int)≤(k : Int):=by omega
      have hkn : (k : Int) < (n : Int):=by omega
      generalize l[k] = d at *
      obtain ⟨x,y,z⟩:=d
      simp only at q0 q1 q2 hme hls
      generalize Ms.lastM l k = la at *
      subst hA
      have hc1:=fun w=>mnode_any x w
      have hc3:=fun w=>mwithin_any y 1 4 w
      have hc4:=fun w=>mwithin_any z 0 1099511627776 w
      have gb1 : ∀ o : Obj,Below w.heap.size w (wr.alloc o):=fun o=>gb.alloc gb.size o
      have HG:=Lib.hid gb1;have HLS:=Lib.hid hls;clear hls gb1
      cases h1 : Ms.nodeB x
      case false =>
        rw [h1] at hme hc1
        have hr : R = false:=by rw [HR.out];exact HB.out hme
        subst hr;have H1:=Lib.hid hc1;clear hc1 hc3 hc4 hme h1 gb HR;go_wp2_with fail;refine (H1.out _).mono ?_;rintro e w1 ⟨rfl,rfl⟩;go_wp2_with fail;go_ret;exact ⟨rfl,HG.out _⟩
      case true =>
        by_cases h2 : x≤la
        · have hr : R = false:=by rw [HR.out];exact HB.out (by rw [hme,h1,decide_eq_false (by omega)];rfl)
          subst hr;rw [h1] at hc1;have H1:=Lib.hid hc1;have hd : decide (x≤la) = true:=decide_eq_true h2;clear hc1 hc3 hc4 hme h1 gb HR;go_wp2_with fail;refine (H1.out _).mono ?_;rintro e w1 ⟨rfl,rfl⟩;go_wp2_with fail;go_ret;exact ⟨rfl,HG.out _⟩
        · have hd : decide (x≤la) = false:=decide_eq_false h2
          have hme : Ms.memAt l k = (inB y 1 4 && inB z 0 1099511627776):=by rw [hme,h1,decide_eq_true (by omega)];rfl
          rw [h1] at hc1;have H1:=Lib.hid hc1
          cases h3 : inB y 1 4
          case false =>
            rw [h3] at hme hc3
            have hr : R = false:=by rw [HR.out];exact HB.out hme
            subst hr;have H3:=Lib.hid hc3;clear hc1 hc3 hc4 hme h1 h3 gb HR;go_wp2_with fail;refine (H1.out _).mono ?_;rintro e w1 ⟨rfl,rfl⟩;go_wp2_with fail;refine (H3.out _).mono ?_;rintro e w1 ⟨rfl,rfl⟩;go_wp2_with fail;go_ret;exact ⟨rfl,HG.out _⟩
          case true =>
            rw [h3] at hme hc3;have H3:=Lib.hid hc3
            cases h4 : inB z 0 1099511627776
            case false =>
              rw [h4] at hme hc4
              have hr : R = false:=by rw [HR.out];exact HB.out hme
              subst hr;have H4:=Lib.hid hc4;clear hc1 hc3 hc4 hme h1 h3 h4 gb HR;go_wp2_with fail;refine (H1.out _).mono ?_;rintro e w1 ⟨rfl,rfl⟩;go_wp2_with fail;refine (H3.out _).mono ?_;rintro e w1 ⟨rfl,rfl⟩;go_wp2_with fail;refine (H4.out _).mono ?_;rintro e w1 ⟨rfl,rfl⟩;go_wp2_with fail;go_ret;exact ⟨rfl,HG.out _⟩
            case true =>
              rw [h4] at hme hc4;have H4:=Lib.hid hc4;have HM:=Lib.hid hme;clear hc1 hc3 hc4 hme h1 h3 h4 gb;go_wp2_with fail;refine (H1.out _).mono ?_;rintro e w1 ⟨rfl,rfl⟩;go_wp2_with fail;refine (H3.out _).mono ?_;rintro e w1 ⟨rfl,rfl⟩;go_wp2_with fail;refine (H4.out _).mono ?_;rintro e w1 ⟨rfl,rfl⟩;go_wp2_with fail
              go_roundw
              case rel=>exact ⟨k + 1,by omega,by go_num,by rw [HLS.out],fun j hj=>by
                by_cases e : j = k
                · rw [e];exact HM.out
                · exact HA.out j (by omega),HG.out _⟩
              case measure=>simp [intOf];omega
    · have hr : R = true:=by
        rw [HR.out,Ms.members_iff];intro i hi;exact HA.out i (by have:=HN.out;omega)
      subst hr;have hkd : decide ((k : Int) < (n : Int)) = false:=decide_eq_false (by omega);go_wp2_with fail;go_ret;exact ⟨rfl,gb⟩
theorem all_offE {xs : List EvV} {k : Nat} (h : k < xs.length) (hb : rightE (xs[k]).e = false) : (xs.map (·.e)).all rightE = false:=by
  rw [Bool.eq_false_iff];intro h2
  have:=List.all_eq_true.1 h2 (xs[k]).e (List.mem_map.2 ⟨_,List.getElem_mem h,rfl⟩)
  rw [hb] at this
  cases this
set_option maxHeartbeats 1000000 in
theorem askEv_any (s n q v : Bool) (x : MgV) (w : World) (hr : RowEv w w.heap.size x.A2 x.n2 x.xs) (hes : x.m.ev = x.xs.map (·.e)) (hn : x.n2≤10000000000000) :
    Calls Tryz.prog 47 #[pv s n q v,.agg x.cs] w fun e w'=>e = .returned (.bool (if v then x.m.ev.all rightE && decide (x.m.ev.length≤768) else decide (x.m.ev = [])))∧Below w.heap.size w w':=by
  obtain ⟨R,hR⟩ : ∃ R,R = (if v then x.m.ev.all rightE && decide (x.m.ev.length≤768) else decide (x.m.ev = [])):=⟨_,rfl⟩;rw [← hR]
  have HRK:=Lib.hid fun (w' : World) (h : Below w.heap.size w w')=>hr.below h
  have HN:=Lib.hid hr.1;have H14:=Lib.hid (mgv_at x).2.2.2.2.2.2.1;have SZ:=Lib.hid x.size
  have hl : x.m.ev.length = x.n2:=by rw [hes,List.length_map,hr.1]
  rw [hes] at hR hl;clear hr hes
  unfold pv
  generalize hC : x.cs = C at *
  clear hC
  cases v
  case false =>
    have hz : R = decide ((x.n2 : Int) = 0):=by
      rw [hR,if_neg (by decide)]
      congr 1
      rw [eq_iff_iff]
      constructor
      · intro e;rw [e] at hl;simp at hl;omega
      · intro e;exact List.eq_nil_of_length_eq_zero (by omega)
    have HZ:=Lib.hid hz;clear hz hR
    go_enter Tryz.func47,Tryz.ntmps47
    go_upto_region 1 with fail
    refine nameW ?_;intro W hW;obtain ⟨G,hG⟩ : ∃ G,G = w.heap.size:=⟨_,rfl⟩;rw [← hG]
    have kb : Blk W (G + 1) 30 C:=by
      have h:=Blk.new (w.alloc (.cells #[.bool s,.bool n,.bool q,.bool false] 56)) 30 C;rw [hW,hG]
      simpa using h
    have kp : W.cell? ⟨G,3,none⟩ = some (.bool false):=by rw [hW,hG];exact ((Blk.new w 56 #[.bool s,.bool n,.bool q,.bool false]).alloc _).cell 3
    have gb : Below w.heap.size w W:=by rw [hW];exact ((Below.refl _ _).alloc (Nat.le_refl _) _).alloc (by simp) _
    have k14 : W.cell? ⟨G + 1,14,none⟩ = some (.slice x.A2 x.n2 x.c2):=(kb.cell 14).trans H14.out;clear hW hG kb;go_wp2_with fail;go_ret;rw [HZ.out];exact ⟨rfl,gb⟩
  case true =>
    rw [if_pos rfl,hl] at hR;have HR:=Lib.hid hR;clear hR
    go_enter Tryz.func47,Tryz.ntmps47
    go_upto_region 1 with fail
    refine nameW ?_;intro W hW;obtain ⟨G,hG⟩ : ∃ G,G = w.heap.size:=⟨_,rfl⟩;rw [← hG]
    have kb : Blk W (G + 1) 30 C:=by
      have h:=Blk.new (w.alloc (.cells #[.bool s,.bool n,.bool q,.bool true] 56)) 30 C;rw [hW,hG]
      simpa using h
    have kp : W.cell? ⟨G,3,none⟩ = some (.bool true):=by rw [hW,hG];exact ((Blk.new w 56 #[.bool s,.bool n,.bool q,.bool true]).alloc _).cell 3
    have gb : Below w.heap.size w W:=by rw [hW];exact ((Below.refl _ _).alloc (Nat.le_refl _) _).alloc (by simp) _
    have k14 : W.cell? ⟨G + 1,14,none⟩ = some (.slice x.A2 x.n2 x.c2):=(kb.cell 14).trans H14.out;have hGW : G + 1 < W.heap.size:=kb.lt;clear hW hG kb;go_wp2_with fail
    go_loopw [17] (fun i wr=>∃ k : Nat,k≤x.n2∧i = .int .i64 k∧(∀ j (h : j < x.xs.length),j < k→rightE (x.xs[j]).e = true)∧Below w.heap.size w wr∧Below W.heap.size W wr) (fun i _=>x.n2 - (intOf i).toNat)
    case atStart=>exact ⟨0,by omega,rfl,fun j _ hj=>by omega,gb,Below.refl _ _⟩
    case round =>
      clear gb;obtain ⟨k,hk,rfl,hall,gb,gW⟩:=hrel;have HA:=Lib.hid hall;clear hall
      by_cases hlt : k < x.n2
      · have hkl : k < x.xs.length:=by rw [← HN.out];exact hlt
        obtain ⟨hok,ad,hA,hab,hcell⟩:=(HRK.out wr gb).2 k _ (List.getElem?_eq_getElem hkl)
        have HOFF:=Lib.hid fun h=>all_offE hkl h
        have HAK:=Lib.hid fun (h : rightE (x.xs[k]).e = true) (j : Nat) (hj : j < x.xs.length) (hjk : j < k + 1)=>(by
          by_cases e : j = k
          · subst e;exact h
          · exact HA.out j hj (by omega) : rightE (x.xs[j]).e = true)
        have hright:=fun (w' : World) (h : RdD w' w'.heap.size (x.xs[k]).A (x.xs[k]).m (x.xs[k]).e.l)=>eright_any (x.xs[k]).e hok.1 (x.xs[k]).A (x.xs[k]).m (x.xs[k]).c w' h
        generalize x.xs[k] = y at *
        rw [hA] at *;obtain ⟨cs,hcs⟩ : ∃ cs,cs = y.cs:=⟨_,rfl⟩;have hec : ec y.e (.slice y.A y.m y.c) = cs:=hcs.symm;rw [← hcs] at hcell;rw [hec] at hright;have HSZ:=Lib.hid (show cs.size = 14 by rw [hcs];rfl);have H1C:=Lib.hid (show cs.all (·.oneCell') = true by rw [hcs];exact y.one);have HC:=Lib.hid hcell;have HRT:=Lib.hid hright
        have HOK:=Lib.hid fun (w' : World) (h : Below wr.heap.size wr w')=>((hok.2.1.below (h.mono gb.size)).more (show w.heap.size≤w'.heap.size by have:=h.size;have:=gb.size;omega))
        have hk0 : (0 : Int)≤(k : Int):=by omega
        have hkm : (k : Int) < (x.n2 : Int):=by omega
        clear hcs hec hcell hok hright
        go_upto_region 5 with fail
        go_upto_region 6 with first
          | ((with_reducible refine wpList_lda rowE HC.out HSZ.out ?_ ?_);rotate_left;(rfl))
          | ((with_reducible refine wpList_st rowE (Blk.new _ _ _) HSZ.out ?_ H1C.out ?_ ?_ ?_);(rfl);rotate_left;(rfl);(rfl);intro w6 k6 g6 z6)
        have bA : Below wr.heap.size wr w6:=new_below g6;have gb6:=gb.trans (bA.mono gb.size);have gW6:=gW.trans (bA.mono gW.size);have rd6:=HOK.out w6 bA;obtain ⟨gr,hgr2⟩ : ∃ gr,gr = wr.heap.size:=⟨_,rfl⟩;rw [← hgr2] at k6 ⊢;clear hgr2 g6 z6 bA gb gW
        cases hx : rightE y.e
        case false =>
          have hr : R = false:=by rw [HR.out,HOFF.out hx];rfl
          subst hr;have hrt:=HRT.out w6 rd6;rw [hx] at hrt;have HRT2:=Lib.hid hrt;clear hx hrt HRT
          go_wp2_with ((with_reducible refine wpList_ld rowE k6 HSZ.out ?_ ?_);rotate_left;(rfl))
          refine HRT2.out.mono ?_;rintro e w7 ⟨rfl,b7⟩;have gb7:=gb6.trans (b7.mono gb6.size);go_wp2_with fail;go_ret;exact ⟨rfl,gb7⟩
        case true =>
          have hrt:=HRT.out w6 rd6;rw [hx] at hrt;have HRT2:=Lib.hid hrt;have HX:=Lib.hid hx;clear hx hrt HRT
          go_wp2_with ((with_reducible refine wpList_ld rowE k6 HSZ.out ?_ ?_);rotate_left;(rfl))
          refine HRT2.out.mono ?_;rintro e w7 ⟨rfl,b7⟩;have gb7:=gb6.trans (b7.mono gb6.size);have gW7:=gW6.trans (b7.mono gW6.size);go_wp2_with fail
          go_roundw
          case rel=>exact ⟨k + 1,by omega,by go_num,HAK.out HX.out,gb7,gW7⟩
          case measure=>simp [intOf];omega
      · have hkd : decide ((k : Int) < (x.n2 : Int)) = false:=decide_eq_false (by omega)
        have k14b : wr.cell? ⟨G + 1,14,none⟩ = some (.slice x.A2 x.n2 x.c2):=(gW.cell hGW).trans k14
        have hr : R = decide ((x.n2 : Int)≤768):=by
          rw [HR.out]
          have h1 : (x.xs.map (·.e)).all rightE = true:=by
            rw [List.all_eq_true];intro e he;obtain ⟨y,hy,rfl⟩:=List.mem_map.1 he;obtain ⟨i,hi,rfl⟩:=List.getElem_of_mem hy;exact HA.out i hi (by have:=HN.out;omega)
          rw [h1,Bool.true_and]
          congr 1
          rw [eq_iff_iff]
          omega
        have HRR:=Lib.hid hr;clear hr;go_wp2_with fail;go_ret;rw [HRR.out];exact ⟨rfl,gb⟩
end Go.Proofs.YtcgalmnllegnbaaGreat

namespace Go.Proofs.YtcgalmnllegnbaaGreat
set_option linter.unusedVariables false
set_option linter.unusedSimpArgs false
set_option maxRecDepth 100000
open Go.RowKit
open Dot Evt
open Ms (Mem)
def asksM (m : Ms.Msg) : Nat→Bool
  | 0=>inB m.seq 0 (Ms.mostS m.kind)
  | 1=>Ms.askNode m
  | 2=>Ms.askSeen m
  | _=>Ms.askEv m
theorem ask0_any (x : MgV) (w : World) : Calls Tryz.prog 44 #[hasV x.m.kind,.agg x.cs] w fun e w'=>e = .returned (.bool (asksM x.m 0))∧Below w.heap.size w w':=by
  have h:=askSeq_any (decide (x.m.kind ≠ 5)) (decide (x.m.kind = 2∨x.m.kind = 3)) (decide (x.m.kind = 4)) (decide (x.m.kind = 5)) x w
  have e : inB x.m.seq 0 (if decide (x.m.kind = 4) = true then 1 else if decide (x.m.kind ≠ 5) = true then 1099511627776 else 0) = asksM x.m 0:=by
    show _ = inB x.m.seq 0 (Ms.mostS x.m.kind)
    congr 1
    unfold Ms.mostS Ms.top
    by_cases h4 : x.m.kind = 4
    · rw [if_pos (decide_eq_true h4),if_neg (by omega),if_pos h4]
    · rw [if_neg (by rw [decide_eq_false h4];decide)]
      by_cases h5 : x.m.kind = 5
      · rw [if_neg (by rw [decide_eq_false (by omega)];decide),if_pos h5]
      · rw [if_pos (decide_eq_true h5),if_neg h5,if_neg h4]
  rw [e] at h;exact h
theorem ask1_any (x : MgV) (w : World) : Calls Tryz.prog 45 #[hasV x.m.kind,.agg x.cs] w fun e w'=>e = .returned (.bool (asksM x.m 1))∧Below w.heap.size w w':=by
  have h:=askNode_any (decide (x.m.kind ≠ 5)) (decide (x.m.kind = 2∨x.m.kind = 3)) (decide (x.m.kind = 4)) (decide (x.m.kind = 5)) x w
  have e : ((decide (x.m.kind = 2∨x.m.kind = 3) && Ms.nodeB x.m.node) || decide (x.m.node = 0)) = asksM x.m 1:=by
    show _ = Ms.askNode x.m
    unfold Ms.askNode
    by_cases h4 : x.m.kind = 2∨x.m.kind = 3
    · rw [if_pos h4,decide_eq_true h4,Bool.true_and]
      by_cases hz : x.m.node = 0
      · rw [decide_eq_true hz,Bool.or_true,eq_comm,Ms.nodeB_iff]
        omega
      · rw [decide_eq_false hz,Bool.or_false]
    · rw [if_neg h4,decide_eq_false h4,Bool.false_and,Bool.false_or]
  rw [e] at h;exact h
theorem ask2_any (x : MgV) (hu : x.m.u.length = 8) (wu : Wf x.m.u) (w : World) (hr : RdD w w.heap.size x.A1 x.n1 x.m.more) : Calls Tryz.prog 46 #[hasV x.m.kind,.agg x.cs] w fun e w'=>e = .returned (.bool (asksM x.m 2))∧Below w.heap.size w w':=by
  have h:=askSeen_any (decide (x.m.kind ≠ 5)) (decide (x.m.kind = 2∨x.m.kind = 3)) (decide (x.m.kind = 4)) (decide (x.m.kind = 5)) x hu wu w hr
  have e : (if decide (x.m.kind = 4) = true then rightB x.m.u x.m.more else Ms.noSeen x.m) = asksM x.m 2:=by
    show _ = Ms.askSeen x.m
    unfold Ms.askSeen
    by_cases h4 : x.m.kind = 4
    · rw [if_pos (decide_eq_true h4),if_pos h4]
    · rw [if_neg (by rw [decide_eq_false h4];decide),if_neg h4]
  rw [e] at h;exact h
theorem ask3_any (x : MgV) (w : World) (hr : RowEv w w.heap.size x.A2 x.n2 x.xs) (hes : x.m.ev = x.xs.map (·.e)) (hn : x.n2≤10000000000000) : Calls Tryz.prog 47 #[hasV x.m.kind,.agg x.cs] w fun e w'=>e = .returned (.bool (asksM x.m 3))∧Below w.heap.size w w':=by
  have h:=askEv_any (decide (x.m.kind ≠ 5)) (decide (x.m.kind = 2∨x.m.kind = 3)) (decide (x.m.kind = 4)) (decide (x.m.kind = 5)) x w hr hes hn
  have e : (if decide (x.m.kind = 5) = true then x.m.ev.all rightE && decide (x.m.ev.length≤768) else decide (x.m.ev = [])) = asksM x.m 3:=by
    show _ = Ms.askEv x.m
    unfold Ms.askEv
    by_cases h4 : x.m.kind = 5
    · rw [if_pos (decide_eq_true h4),if_pos h4]
    · rw [if_neg (by rw [decide_eq_false h4];decide),if_neg h4]
  rw [e] at h;exact h
theorem right_asks (m : Ms.Msg) : Ms.rightM m = (Ms.headB m && (asksM m 0 && asksM m 1 && asksM m 2 && asksM m 3)):=by
  unfold Ms.rightM
  show (Ms.headB m && asksM m 0 && asksM m 1 && asksM m 2 && asksM m 3) = _
  simp only [Bool.and_assoc]
theorem asks_off (m : Ms.Msg) {k : Nat} (hk : k < 4) (h : asksM m k = false) : Ms.rightM m = false:=by
  rw [right_asks]
  obtain rfl | rfl | rfl | rfl : k = 0∨k = 1∨k = 2∨k = 3:=by omega
  all_goals (rw [h];simp)
theorem head_off {m : Ms.Msg} (h : Ms.headB m = false) : Ms.rightM m = false:=by rw [right_asks,h];rfl
theorem run_ask0 (w : World) : (Instr.index 90 (.agg #[.func (.func 44) #[] #[],.func (.func 45) #[] #[],.func (.func 46) #[] #[],.func (.func 47) #[] #[]]) (.int .i64 0)).run Tryz.prog w = .ok (.func (.func 44) #[] #[]) w:=by kernel_rfl
theorem run_ask1 (w : World) : (Instr.index 90 (.agg #[.func (.func 44) #[] #[],.func (.func 45) #[] #[],.func (.func 46) #[] #[],.func (.func 47) #[] #[]]) (.int .i64 1)).run Tryz.prog w = .ok (.func (.func 45) #[] #[]) w:=by kernel_rfl
theorem run_ask2 (w : World) : (Instr.index 90 (.agg #[.func (.func 44) #[] #[],.func (.func 45) #[] #[],.func (.func 46) #[] #[],.func (.func 47) #[] #[]]) (.int .i64 2)).run Tryz.prog w = .ok (.func (.func 46) #[] #[]) w:=by kernel_rfl
theorem run_ask3 (w : World) : (Instr.index 90 (.agg #[.func (.func 44) #[] #[],.func (.func 45) #[] #[],.func (.func 46) #[] #[],.func (.func 47) #[] #[]]) (.int .i64 3)).run Tryz.prog w = .ok (.func (.func 47) #[] #[]) w:=by kernel_rfl
structure MgIn (w : World) (x : MgV) : Prop where
  ok : MgOk w w.heap.size x
  wu : Wf x.m.u
  b2 : x.n2≤10000000000000
  b3 : x.n3≤maxLen
theorem MgIn.below {w w' : World} {x : MgV} (h : MgIn w x) (hb : Below w.heap.size w w') : MgIn w' x:=⟨(h.ok.below hb).mono hb.size,h.wu,h.b2,h.b3⟩
set_option maxHeartbeats 2000000 in
theorem mright_any (x : MgV) (w : World) (h : MgIn w x) : Calls Tryz.prog 15 #[.agg x.cs] w fun e w'=>e = .returned (.bool (Ms.rightM x.m))∧Below w.heap.size w w':=by
  obtain ⟨R,hR⟩ : ∃ R,R = Ms.rightM x.m:=⟨_,rfl⟩;rw [← hR];have HR:=Lib.hid hR;have HIN:=Lib.hid h;have HAT:=Lib.hid (mgv_at x);have SZ:=Lib.hid x.size
  have h1:=fun w=>mwithin_any x.m.kind 1 5 w
  have h2:=fun w=>mnode_any x.m.frm w
  have h3:=fun w=>mnode_any x.m.to w
  have h5:=fun (w' : World) (hb : Below w.heap.size w w')=>members_any x.A3 x.n3 x.c3 x.m.mem w' (h.below hb).ok.mem h.b3
  have hh : Ms.headB x.m = (inB x.m.kind 1 5 && Ms.nodeB x.m.frm && Ms.nodeB x.m.to && !decide (x.m.frm = x.m.to) && Ms.membersB x.m.mem):=rfl
  have HH:=Lib.hid fun (hk : inB x.m.kind 1 5 = true) (w' : World)=>has17_any x.m.kind w' ((inB_iff _ _ _).1 hk)
  have HA0:=Lib.hid fun (w' : World)=>ask0_any x w'
  have HA1:=Lib.hid fun (w' : World)=>ask1_any x w'
  have HA2:=Lib.hid fun (w' : World) (hb : Below w.heap.size w w')=>ask2_any x h.ok.u h.wu w' (h.below hb).ok.more
  have HA3:=Lib.hid fun (w' : World) (hb : Below w.heap.size w w')=>ask3_any x w' (h.below hb).ok.ev h.ok.es h.b2
  clear h hR
  generalize hC : x.cs = C at *
  clear hC;have b1:=HAT.out
  go_enter Tryz.func15,Tryz.ntmps15
  go_upto_region 1 with fail
  refine nameW ?_;intro W hW;obtain ⟨g,hg⟩ : ∃ g,g = w.heap.size:=⟨_,rfl⟩;rw [← hg]
  have kb : Blk W g 30 C:=by rw [hW,hg];exact Blk.new w _ _
  have gb : Below w.heap.size w W:=by rw [hW];exact (Below.refl _ _).alloc (Nat.le_refl _) _
  have t0 : W.cell? ⟨g,0,none⟩ = some (.int .i64 x.m.kind):=(kb.cell 0).trans b1.1;have t1 : W.cell? ⟨g,1,none⟩ = some (.int .i64 x.m.frm):=(kb.cell 1).trans b1.2.1;have t2 : W.cell? ⟨g,2,none⟩ = some (.int .i64 x.m.to):=(kb.cell 2).trans b1.2.2.1;have t15 : W.cell? ⟨g,15,none⟩ = some (.slice x.A3 x.n3 x.c3):=(kb.cell 15).trans b1.2.2.2.2.2.2.2;have hgW : g < W.heap.size:=kb.lt;have H5:=Lib.hid (h5 W gb);clear hW hg b1 h5
  cases c1 : inB x.m.kind 1 5
  case false =>
    have hr : R = false:=by rw [HR.out];exact head_off (by rw [hh,c1];rfl)
    subst hr;rw [c1] at h1;have H1:=Lib.hid h1;clear h1 h2 h3 hh c1 kb HH;go_wp2_with fail;refine (H1.out _).mono ?_;rintro e w1 ⟨rfl,rfl⟩;go_wp2_with fail;go_ret;exact ⟨rfl,gb⟩
  rw [c1] at h1 hh;have H1:=Lib.hid h1;have HHK:=Lib.hid (HH.out c1);clear h1 c1 HH
  cases c2 : Ms.nodeB x.m.frm
  case false =>
    have hr : R = false:=by rw [HR.out];exact head_off (by rw [hh,c2];rfl)
    subst hr;rw [c2] at h2;have H2:=Lib.hid h2;clear h2 h3 hh c2 kb;go_wp2_with fail;refine (H1.out _).mono ?_;rintro e w1 ⟨rfl,rfl⟩;go_wp2_with fail;refine (H2.out _).mono ?_;rintro e w1 ⟨rfl,rfl⟩;go_wp2_with fail;go_ret;exact ⟨rfl,gb⟩
  rw [c2] at h2 hh;have H2:=Lib.hid h2;clear h2 c2
  cases c3 : Ms.nodeB x.m.to
  case false =>
    have hr : R = false:=by rw [HR.out];exact head_off (by rw [hh,c3];rfl)
    subst hr;rw [c3] at h3;have H3:=Lib.hid h3;clear h3 hh c3 kb;go_wp2_with fail;refine (H1.out _).mono ?_;rintro e w1 ⟨rfl,rfl⟩;go_wp2_with fail;refine (H2.out _).mono ?_;rintro e w1 ⟨rfl,rfl⟩;go_wp2_with fail;refine (H3.out _).mono ?_;rintro e w1 ⟨rfl,rfl⟩;go_wp2_with fail;go_ret;exact ⟨rfl,gb⟩
  rw [c3] at h3 hh;have H3:=Lib.hid h3;clear h3 c3
  by_cases c4 : x.m.frm = x.m.to
  · have hr : R = false:=by rw [HR.out];exact head_off (by rw [hh,decide_eq_true c4];rfl)
    subst hr
    have hq : ((x.m.frm : Int) == x.m.to) = true:=by rw [c4];simp
    clear hh c4 kb;go_wp2_with fail;refine (H1.out _).mono ?_;rintro e w1 ⟨rfl,rfl⟩;go_wp2_with fail;refine (H2.out _).mono ?_;rintro e w1 ⟨rfl,rfl⟩;go_wp2_with fail;refine (H3.out _).mono ?_;rintro e w1 ⟨rfl,rfl⟩;go_wp2_with fail;go_ret;exact ⟨rfl,gb⟩
  have hq : ((x.m.frm : Int) == x.m.to) = false:=by rw [beq_eq_false_iff_ne];exact c4
  rw [decide_eq_false c4] at hh;clear c4;have h5:=H5.out
  cases c5 : Ms.membersB x.m.mem
  case false =>
    have hr : R = false:=by rw [HR.out];exact head_off (by rw [hh,c5];rfl)
    subst hr;rw [c5] at h5;have H5b:=Lib.hid h5;clear h5 hh c5 kb H5;go_wp2_with fail;refine (H1.out _).mono ?_;rintro e w1 ⟨rfl,rfl⟩;go_wp2_with fail;refine (H2.out _).mono ?_;rintro e w1 ⟨rfl,rfl⟩;go_wp2_with fail;refine (H3.out _).mono ?_;rintro e w1 ⟨rfl,rfl⟩;go_wp2_with fail;refine H5b.out.mono ?_;rintro e w2 ⟨rfl,b2⟩;have gb:=gb.trans (b2.mono gb.size);go_wp2_with fail;go_ret;exact ⟨rfl,gb⟩
  rw [c5] at h5 hh;have H5b:=Lib.hid h5;have HHD:=Lib.hid (show Ms.headB x.m = true from hh);clear h5 hh c5 H5;go_wp2_with fail;refine (H1.out _).mono ?_;rintro e w1 ⟨rfl,rfl⟩;go_wp2_with fail;refine (H2.out _).mono ?_;rintro e w1 ⟨rfl,rfl⟩;go_wp2_with fail;refine (H3.out _).mono ?_;rintro e w1 ⟨rfl,rfl⟩;go_wp2_with fail;refine H5b.out.mono ?_;rintro e w2 ⟨rfl,b2⟩;have gb:=gb.trans (b2.mono gb.size);have kb:=kb.below b2 kb.lt;clear t0 t1 t2 t15 hgW b2 H1 H2 H3 H5b;go_wp2_with fail
  go_loopw [35] (fun i wr=>∃ k : Nat,k≤4∧i = .int .i64 k∧(∀ j,j < k→asksM x.m j = true)∧Below w.heap.size w wr∧Blk wr g 30 C) (fun i _=>4 - (intOf i).toNat)
  case atStart=>exact ⟨0,by omega,rfl,fun j hj=>by omega,gb,kb⟩
  case round =>
    clear gb kb;obtain ⟨k,hk,rfl,hall,gb,kb⟩:=hrel;have HA:=Lib.hid hall;clear hall;have t0 : wr.cell? ⟨g,0,none⟩ = some (.int .i64 x.m.kind):=(kb.cell 0).trans HAT.out.1;have hgW : g < wr.heap.size:=kb.lt
    by_cases hlt : k < 4
    · obtain rfl | rfl | rfl | rfl : k = 0∨k = 1∨k = 2∨k = 3:=by omega
      · have HOFF:=Lib.hid fun (h : asksM x.m 0 = false)=>asks_off x.m (k:=0) (by omega) h
        go_upto_region 6 with ((with_reducible refine wpList_ix (run_ask0 _) ?_ ?_ ?_);rotate_left;(rfl);(rfl))
        refine wp_region_tailF 6 5 (fun L v w=>v 1 = .pointer (some ⟨g,0,none⟩)∧v 4 = .func (.func 44) #[] #[]∧Below wr.heap.size wr w∧(L 0 = true→v 38 = .func (.func 44) #[] #[])∧(L 1 = true→v 39 = .pointer (some ⟨g,0,none⟩))∧(L 2 = true→v 40 = .int .i64 x.m.kind)∧(L 3 = true→v 41 = hasV x.m.kind)∧(L 4 = true→v 42 = .agg C)) [38,39,40,41,42] (by kernel_rfl) (by kernel_rfl) (by kernel_rfl) (by kernel_rfl) (by kernel_rfl) (by kernel_rfl) ?h0 ?hst ?hend
        case h0 =>
          intro L h0;have h0 : ∀ i,i < 5→L i = false:=h0;exact ⟨rfl,rfl,(Below.refl _ _).drew,offF h0 (i:=0) (by decide),offF h0 (i:=1) (by decide),offF h0 (i:=2) (by decide),offF h0 (i:=3) (by decide),offF h0 (i:=4) (by decide)⟩
        case hst =>
          show FactSteps _ _ _ _ [0,1,2,3,4]
          refine @FactSteps.cons _ _ _ _ 0 _ [] _ rfl (by kernel_rfl) ?s0 ?_;rotate_left;refine @FactSteps.cons _ _ _ _ 1 _ [] _ rfl (by kernel_rfl) ?s1 ?_;rotate_left;refine @FactSteps.cons _ _ _ _ 2 _ [1] _ rfl (by kernel_rfl) ?s2 ?_;rotate_left;refine @FactSteps.cons _ _ _ _ 3 _ [2] _ rfl (by kernel_rfl) ?s3 ?_;rotate_left;refine @FactSteps.cons _ _ _ _ 4 _ [] _ rfl (by kernel_rfl) ?s4 ?_;rotate_left;exact FactSteps.nil
          case s0 =>
            rintro L a v w hv hg hL hd hcl ⟨e1,e4,hb,f0,f1,f2,f3,f4⟩ K hK;refine step_do rfl ?_;clear hv;go_simp;exact hK.out _ _ ⟨e1,e4,hb,fun _=>rfl,f1,f2,f3,f4⟩
          case s1 =>
            rintro L a v w hv hg hL hd hcl ⟨e1,e4,hb,f0,f1,f2,f3,f4⟩ K hK;refine step_do rfl ?_;clear hv;go_simp;exact hK.out _ _ ⟨e1,e4,hb,f0,fun _=>rfl,f2,f3,f4⟩
          case s2 =>
            rintro L a v w hv hg hL hd hcl ⟨e1,e4,hb,f0,f1,f2,f3,f4⟩ K hK;have g1:=f1 (hd 1 (by decide));have hc:=(hb.cell (p:=⟨g,0,none⟩) hgW).trans t0;refine step_do rfl ?_;clear hv;go_simp;exact hK.out _ _ ⟨e1,e4,hb,f0,f1,fun _=>rfl,f3,f4⟩
          case s3 =>
            rintro L a v w hv hg hL hd hcl ⟨e1,e4,hb,f0,f1,f2,f3,f4⟩ K hK;have h2:=f2 (hd 2 (by decide));refine step_do rfl ?_;clear hv;go_simp;refine (HHK.out w).mono ?_;rintro e wy ⟨rfl,bb⟩;exact hK.out _ _ ⟨e1,e4,(hb.trans (bb.mono hb.size)),f0,f1,f2,fun _=>rfl,f4⟩
          case s4 =>
            rintro L a v w hv hg hL hd hcl ⟨e1,e4,hb,f0,f1,f2,f3,f4⟩ K hK;refine step_do rfl ?_;refine wp_ld rowMg (.tmp 1) rfl ((hv 1).trans e1) (kb.below hb kb.lt) SZ.out ?_;exact hK.out _ _ ⟨e1,e4,hb,f0,f1,f2,f3,fun _=>rfl⟩
        case hend =>
        rintro L v wx hall ⟨e1,e4,hb,f0,f1,f2,f3,f4⟩;have hL : ∀ i,i < 5→L i = true:=hall;have f0:=f0 (hL 0 (by decide));have f1:=f1 (hL 1 (by decide));have f2:=f2 (hL 2 (by decide));have f3:=f3 (hL 3 (by decide));have f4:=f4 (hL 4 (by decide))
        simp only [finA,List.foldl_cons,List.foldl_nil,Act.put,List.setIfInBounds_toArray,List.set_cons_succ,List.set_cons_zero,f0,f1,f2,f4,f3]
        have HC:=Lib.hid (HA0.out wx);have gbx:=gb.trans (hb.mono gb.size);have kbx:=kb.below hb kb.lt;clear e1 e4 f0 f1 f2 f3 f4 hL hall;clear kb gb t0 hgW
        show wpList _ _ _ [_,_] _ _
        have hcv:=HC.out
        cases ca : asksM x.m 0
        case false =>
          have hr : R = false:=by rw [HR.out];exact HOFF.out ca
          subst hr;rw [ca] at hcv;have HCV:=Lib.hid hcv;clear hcv ca HC;go_wp2_with fail;refine HCV.out.mono ?_;rintro e w3 ⟨rfl,b3⟩;have gb:=gbx.trans (b3.mono gbx.size);go_wp2_with fail;go_ret;exact ⟨rfl,gb⟩
        case true =>
          rw [ca] at hcv;have HCV:=Lib.hid hcv;have HCA:=Lib.hid ca;clear hcv ca HC;go_wp2_with fail;refine HCV.out.mono ?_;rintro e w3 ⟨rfl,b3⟩;have gb:=gbx.trans (b3.mono gbx.size);have kb:=kbx.below b3 kbx.lt;go_wp2_with fail
          go_roundw
          case rel=>exact ⟨1,by omega,by go_num,fun j hj=>by
            by_cases e : j = 0
            · rw [e];exact HCA.out
            · exact HA.out j (by omega),gb,kb⟩
          case measure=>simp [intOf]
      · have HOFF:=Lib.hid fun (h : asksM x.m 1 = false)=>asks_off x.m (k:=1) (by omega) h
        go_upto_region 6 with ((with_reducible refine wpList_ix (run_ask1 _) ?_ ?_ ?_);rotate_left;(rfl);(rfl))
        refine wp_region_tailF 6 5 (fun L v w=>v 1 = .pointer (some ⟨g,0,none⟩)∧v 4 = .func (.func 45) #[] #[]∧Below wr.heap.size wr w∧(L 0 = true→v 38 = .func (.func 45) #[] #[])∧(L 1 = true→v 39 = .pointer (some ⟨g,0,none⟩))∧(L 2 = true→v 40 = .int .i64 x.m.kind)∧(L 3 = true→v 41 = hasV x.m.kind)∧(L 4 = true→v 42 = .agg C)) [38,39,40,41,42] (by kernel_rfl) (by kernel_rfl) (by kernel_rfl) (by kernel_rfl) (by kernel_rfl) (by kernel_rfl) ?h0 ?hst ?hend
        case h0 =>
          intro L h0;have h0 : ∀ i,i < 5→L i = false:=h0;exact ⟨rfl,rfl,(Below.refl _ _).drew,offF h0 (i:=0) (by decide),offF h0 (i:=1) (by decide),offF h0 (i:=2) (by decide),offF h0 (i:=3) (by decide),offF h0 (i:=4) (by decide)⟩
        case hst =>
          show FactSteps _ _ _ _ [0,1,2,3,4]
          refine @FactSteps.cons _ _ _ _ 0 _ [] _ rfl (by kernel_rfl) ?s0 ?_;rotate_left;refine @FactSteps.cons _ _ _ _ 1 _ [] _ rfl (by kernel_rfl) ?s1 ?_;rotate_left;refine @FactSteps.cons _ _ _ _ 2 _ [1] _ rfl (by kernel_rfl) ?s2 ?_;rotate_left;refine @FactSteps.cons _ _ _ _ 3 _ [2] _ rfl (by kernel_rfl) ?s3 ?_;rotate_left;refine @FactSteps.cons _ _ _ _ 4 _ [] _ rfl (by kernel_rfl) ?s4 ?_;rotate_left;exact FactSteps.nil
          case s0 =>
            rintro L a v w hv hg hL hd hcl ⟨e1,e4,hb,f0,f1,f2,f3,f4⟩ K hK;refine step_do rfl ?_;clear hv;go_simp;exact hK.out _ _ ⟨e1,e4,hb,fun _=>rfl,f1,f2,f3,f4⟩
          case s1 =>
            rintro L a v w hv hg hL hd hcl ⟨e1,e4,hb,f0,f1,f2,f3,f4⟩ K hK;refine step_do rfl ?_;clear hv;go_simp;exact hK.out _ _ ⟨e1,e4,hb,f0,fun _=>rfl,f2,f3,f4⟩
          case s2 =>
            rintro L a v w hv hg hL hd hcl ⟨e1,e4,hb,f0,f1,f2,f3,f4⟩ K hK;have g1:=f1 (hd 1 (by decide));have hc:=(hb.cell (p:=⟨g,0,none⟩) hgW).trans t0;refine step_do rfl ?_;clear hv;go_simp;exact hK.out _ _ ⟨e1,e4,hb,f0,f1,fun _=>rfl,f3,f4⟩
          case s3 =>
            rintro L a v w hv hg hL hd hcl ⟨e1,e4,hb,f0,f1,f2,f3,f4⟩ K hK;have h2:=f2 (hd 2 (by decide));refine step_do rfl ?_;clear hv;go_simp;refine (HHK.out w).mono ?_;rintro e wy ⟨rfl,bb⟩;exact hK.out _ _ ⟨e1,e4,(hb.trans (bb.mono hb.size)),f0,f1,f2,fun _=>rfl,f4⟩
          case s4 =>
            rintro L a v w hv hg hL hd hcl ⟨e1,e4,hb,f0,f1,f2,f3,f4⟩ K hK;refine step_do rfl ?_;refine wp_ld rowMg (.tmp 1) rfl ((hv 1).trans e1) (kb.below hb kb.lt) SZ.out ?_;exact hK.out _ _ ⟨e1,e4,hb,f0,f1,f2,f3,fun _=>rfl⟩
        case hend =>
        rintro L v wx hall ⟨e1,e4,hb,f0,f1,f2,f3,f4⟩;have hL : ∀ i,i < 5→L i = true:=hall;have f0:=f0 (hL 0 (by decide));have f1:=f1 (hL 1 (by decide));have f2:=f2 (hL 2 (by decide));have f3:=f3 (hL 3 (by decide));have f4:=f4 (hL 4 (by decide))
        simp only [finA,List.foldl_cons,List.foldl_nil,Act.put,List.setIfInBounds_toArray,List.set_cons_succ,List.set_cons_zero,f0,f1,f2,f4,f3]
        have HC:=Lib.hid (HA1.out wx);have gbx:=gb.trans (hb.mono gb.size);have kbx:=kb.below hb kb.lt;clear e1 e4 f0 f1 f2 f3 f4 hL hall;clear kb gb t0 hgW
        show wpList _ _ _ [_,_] _ _
        have hcv:=HC.out
        cases ca : asksM x.m 1
        case false =>
          have hr : R = false:=by rw [HR.out];exact HOFF.out ca
          subst hr;rw [ca] at hcv;have HCV:=Lib.hid hcv;clear hcv ca HC;go_wp2_with fail;refine HCV.out.mono ?_;rintro e w3 ⟨rfl,b3⟩;have gb:=gbx.trans (b3.mono gbx.size);go_wp2_with fail;go_ret;exact ⟨rfl,gb⟩
        case true =>
          rw [ca] at hcv;have HCV:=Lib.hid hcv;have HCA:=Lib.hid ca;clear hcv ca HC;go_wp2_with fail;refine HCV.out.mono ?_;rintro e w3 ⟨rfl,b3⟩;have gb:=gbx.trans (b3.mono gbx.size);have kb:=kbx.below b3 kbx.lt;go_wp2_with fail
          go_roundw
          case rel=>exact ⟨2,by omega,by go_num,fun j hj=>by
            by_cases e : j = 1
            · rw [e];exact HCA.out
            · exact HA.out j (by omega),gb,kb⟩
          case measure=>simp [intOf]
      · have HOFF:=Lib.hid fun (h : asksM x.m 2 = false)=>asks_off x.m (k:=2) (by omega) h
        go_upto_region 6 with ((with_reducible refine wpList_ix (run_ask2 _) ?_ ?_ ?_);rotate_left;(rfl);(rfl))
        refine wp_region_tailF 6 5 (fun L v w=>v 1 = .pointer (some ⟨g,0,none⟩)∧v 4 = .func (.func 46) #[] #[]∧Below wr.heap.size wr w∧(L 0 = true→v 38 = .func (.func 46) #[] #[])∧(L 1 = true→v 39 = .pointer (some ⟨g,0,none⟩))∧(L 2 = true→v 40 = .int .i64 x.m.kind)∧(L 3 = true→v 41 = hasV x.m.kind)∧(L 4 = true→v 42 = .agg C)) [38,39,40,41,42] (by kernel_rfl) (by kernel_rfl) (by kernel_rfl) (by kernel_rfl) (by kernel_rfl) (by kernel_rfl) ?h0 ?hst ?hend
        case h0 =>
          intro L h0;have h0 : ∀ i,i < 5→L i = false:=h0;exact ⟨rfl,rfl,(Below.refl _ _).drew,offF h0 (i:=0) (by decide),offF h0 (i:=1) (by decide),offF h0 (i:=2) (by decide),offF h0 (i:=3) (by decide),offF h0 (i:=4) (by decide)⟩
        case hst =>
          show FactSteps _ _ _ _ [0,1,2,3,4]
          refine @FactSteps.cons _ _ _ _ 0 _ [] _ rfl (by kernel_rfl) ?s0 ?_;rotate_left;refine @FactSteps.cons _ _ _ _ 1 _ [] _ rfl (by kernel_rfl) ?s1 ?_;rotate_left;refine @FactSteps.cons _ _ _ _ 2 _ [1] _ rfl (by kernel_rfl) ?s2 ?_;rotate_left;refine @FactSteps.cons _ _ _ _ 3 _ [2] _ rfl (by kernel_rfl) ?s3 ?_;rotate_left;refine @FactSteps.cons _ _ _ _ 4 _ [] _ rfl (by kernel_rfl) ?s4 ?_;rotate_left;exact FactSteps.nil
          case s0 =>
            rintro L a v w hv hg hL hd hcl ⟨e1,e4,hb,f0,f1,f2,f3,f4⟩ K hK;refine step_do rfl ?_;clear hv;go_simp;exact hK.out _ _ ⟨e1,e4,hb,fun _=>rfl,f1,f2,f3,f4⟩
          case s1 =>
            rintro L a v w hv hg hL hd hcl ⟨e1,e4,hb,f0,f1,f2,f3,f4⟩ K hK;refine step_do rfl ?_;clear hv;go_simp;exact hK.out _ _ ⟨e1,e4,hb,f0,fun _=>rfl,f2,f3,f4⟩
          case s2 =>
            rintro L a v w hv hg hL hd hcl ⟨e1,e4,hb,f0,f1,f2,f3,f4⟩ K hK;have g1:=f1 (hd 1 (by decide));have hc:=(hb.cell (p:=⟨g,0,none⟩) hgW).trans t0;refine step_do rfl ?_;clear hv;go_simp;exact hK.out _ _ ⟨e1,e4,hb,f0,f1,fun _=>rfl,f3,f4⟩
          case s3 =>
            rintro L a v w hv hg hL hd hcl ⟨e1,e4,hb,f0,f1,f2,f3,f4⟩ K hK;have h2:=f2 (hd 2 (by decide));refine step_do rfl ?_;clear hv;go_simp;refine (HHK.out w).mono ?_;rintro e wy ⟨rfl,bb⟩;exact hK.out _ _ ⟨e1,e4,(hb.trans (bb.mono hb.size)),f0,f1,f2,fun _=>rfl,f4⟩
          case s4 =>
            rintro L a v w hv hg hL hd hcl ⟨e1,e4,hb,f0,f1,f2,f3,f4⟩ K hK;refine step_do rfl ?_;refine wp_ld rowMg (.tmp 1) rfl ((hv 1).trans e1) (kb.below hb kb.lt) SZ.out ?_;exact hK.out _ _ ⟨e1,e4,hb,f0,f1,f2,f3,fun _=>rfl⟩
        case hend =>
        rintro L v wx hall ⟨e1,e4,hb,f0,f1,f2,f3,f4⟩;have hL : ∀ i,i < 5→L i = true:=hall;have f0:=f0 (hL 0 (by decide));have f1:=f1 (hL 1 (by decide));have f2:=f2 (hL 2 (by decide));have f3:=f3 (hL 3 (by decide));have f4:=f4 (hL 4 (by decide))
        simp only [finA,List.foldl_cons,List.foldl_nil,Act.put,List.setIfInBounds_toArray,List.set_cons_succ,List.set_cons_zero,f0,f1,f2,f4,f3]
        have HC:=Lib.hid (HA2.out wx (gb.trans (hb.mono gb.size)));have gbx:=gb.trans (hb.mono gb.size);have kbx:=kb.below hb kb.lt;clear e1 e4 f0 f1 f2 f3 f4 hL hall;clear kb gb t0 hgW
        show wpList _ _ _ [_,_] _ _
        have hcv:=HC.out
        cases ca : asksM x.m 2
        case false =>
          have hr : R = false:=by rw [HR.out];exact HOFF.out ca
          subst hr;rw [ca] at hcv;have HCV:=Lib.hid hcv;clear hcv ca HC;go_wp2_with fail;refine HCV.out.mono ?_;rintro e w3 ⟨rfl,b3⟩;have gb:=gbx.trans (b3.mono gbx.size);go_wp2_with fail;go_ret;exact ⟨rfl,gb⟩
        case true =>
          rw [ca] at hcv;have HCV:=Lib.hid hcv;have HCA:=Lib.hid ca;clear hcv ca HC;go_wp2_with fail;refine HCV.out.mono ?_;rintro e w3 ⟨rfl,b3⟩;have gb:=gbx.trans (b3.mono gbx.size);have kb:=kbx.below b3 kbx.lt;go_wp2_with fail
          go_roundw
          case rel=>exact ⟨3,by omega,by go_num,fun j hj=>by
            by_cases e : j = 2
            · rw [e];exact HCA.out
            · exact HA.out j (by omega),gb,kb⟩
          case measure=>simp [intOf]
      · have HOFF:=Lib.hid fun (h : asksM x.m 3 = false)=>asks_off x.m (k:=3) (by omega) h
        go_upto_region 6 with ((with_reducible refine wpList_ix (run_ask3 _) ?_ ?_ ?_);rotate_left;(rfl);(rfl))
        refine wp_region_tailF 6 5 (fun L v w=>v 1 = .pointer (some ⟨g,0,none⟩)∧v 4 = .func (.func 47) #[] #[]∧Below wr.heap.size wr w∧(L 0 = true→v 38 = .func (.func 47) #[] #[])∧(L 1 = true→v 39 = .pointer (some ⟨g,0,none⟩))∧(L 2 = true→v 40 = .int .i64 x.m.kind)∧(L 3 = true→v 41 = hasV x.m.kind)∧(L 4 = true→v 42 = .agg C)) [38,39,40,41,42] (by kernel_rfl) (by kernel_rfl) (by kernel_rfl) (by kernel_rfl) (by kernel_rfl) (by kernel_rfl) ?h0 ?hst ?hend
        case h0 =>
          intro L h0;have h0 : ∀ i,i < 5→L i = false:=h0;exact ⟨rfl,rfl,(Below.refl _ _).drew,offF h0 (i:=0) (by decide),offF h0 (i:=1) (by decide),offF h0 (i:=2) (by decide),offF h0 (i:=3) (by decide),offF h0 (i:=4) (by decide)⟩
        case hst =>
          show FactSteps _ _ _ _ [0,1,2,3,4]
          refine @FactSteps.cons _ _ _ _ 0 _ [] _ rfl (by kernel_rfl) ?s0 ?_;rotate_left;refine @FactSteps.cons _ _ _ _ 1 _ [] _ rfl (by kernel_rfl) ?s1 ?_;rotate_left;refine @FactSteps.cons _ _ _ _ 2 _ [1] _ rfl (by kernel_rfl) ?s2 ?_;rotate_left;refine @FactSteps.cons _ _ _ _ 3 _ [2] _ rfl (by kernel_rfl) ?s3 ?_;rotate_left;refine @FactSteps.cons _ _ _ _ 4 _ [] _ rfl (by kernel_rfl) ?s4 ?_;rotate_left;exact FactSteps.nil
          case s0 =>
            rintro L a v w hv hg hL hd hcl ⟨e1,e4,hb,f0,f1,f2,f3,f4⟩ K hK;refine step_do rfl ?_;clear hv;go_simp;exact hK.out _ _ ⟨e1,e4,hb,fun _=>rfl,f1,f2,f3,f4⟩
          case s1 =>
            rintro L a v w hv hg hL hd hcl ⟨e1,e4,hb,f0,f1,f2,f3,f4⟩ K hK;refine step_do rfl ?_;clear hv;go_simp;exact hK.out _ _ ⟨e1,e4,hb,f0,fun _=>rfl,f2,f3,f4⟩
          case s2 =>
            rintro L a v w hv hg hL hd hcl ⟨e1,e4,hb,f0,f1,f2,f3,f4⟩ K hK;have g1:=f1 (hd 1 (by decide));have hc:=(hb.cell (p:=⟨g,0,none⟩) hgW).trans t0;refine step_do rfl ?_;clear hv;go_simp;exact hK.out _ _ ⟨e1,e4,hb,f0,f1,fun _=>rfl,f3,f4⟩
          case s3 =>
            rintro L a v w hv hg hL hd hcl ⟨e1,e4,hb,f0,f1,f2,f3,f4⟩ K hK;have h2:=f2 (hd 2 (by decide));refine step_do rfl ?_;clear hv;go_simp;refine (HHK.out w).mono ?_;rintro e wy ⟨rfl,bb⟩;exact hK.out _ _ ⟨e1,e4,(hb.trans (bb.mono hb.size)),f0,f1,f2,fun _=>rfl,f4⟩
          case s4 =>
            rintro L a v w hv hg hL hd hcl ⟨e1,e4,hb,f0,f1,f2,f3,f4⟩ K hK;refine step_do rfl ?_;refine wp_ld rowMg (.tmp 1) rfl ((hv 1).trans e1) (kb.below hb kb.lt) SZ.out ?_;exact hK.out _ _ ⟨e1,e4,hb,f0,f1,f2,f3,fun _=>rfl⟩
        case hend =>
        rintro L v wx hall ⟨e1,e4,hb,f0,f1,f2,f3,f4⟩;have hL : ∀ i,i < 5→L i = true:=hall;have f0:=f0 (hL 0 (by decide));have f1:=f1 (hL 1 (by decide));have f2:=f2 (hL 2 (by decide));have f3:=f3 (hL 3 (by decide));have f4:=f4 (hL 4 (by decide))
        simp only [finA,List.foldl_cons,List.foldl_nil,Act.put,List.setIfInBounds_toArray,List.set_cons_succ,List.set_cons_zero,f0,f1,f2,f4,f3]
        have HC:=Lib.hid (HA3.out wx (gb.trans (hb.mono gb.size)));have gbx:=gb.trans (hb.mono gb.size);have kbx:=kb.below hb kb.lt;clear e1 e4 f0 f1 f2 f3 f4 hL hall;clear kb gb t0 hgW
        show wpList _ _ _ [_,_] _ _
        have hcv:=HC.out
        cases ca : asksM x.m 3
        case false =>
          have hr : R = false:=by rw [HR.out];exact HOFF.out ca
          subst hr;rw [ca] at hcv;have HCV:=Lib.hid hcv;clear hcv ca HC;go_wp2_with fail;refine HCV.out.mono ?_;rintro e w3 ⟨rfl,b3⟩;have gb:=gbx.trans (b3.mono gbx.size);go_wp2_with fail;go_ret;exact ⟨rfl,gb⟩
        case true =>
          rw [ca] at hcv;have HCV:=Lib.hid hcv;have HCA:=Lib.hid ca;clear hcv ca HC;go_wp2_with fail;refine HCV.out.mono ?_;rintro e w3 ⟨rfl,b3⟩;have gb:=gbx.trans (b3.mono gbx.size);have kb:=kbx.below b3 kbx.lt;go_wp2_with fail
          go_roundw
          case rel=>exact ⟨4,by omega,by go_num,fun j hj=>by
            by_cases e : j = 3
            · rw [e];exact HCA.out
            · exact HA.out j (by omega),gb,kb⟩
          case measure=>simp [intOf]
    · obtain rfl : k = 4:=by omega
      have hr : R = true:=by rw [HR.out,right_asks,HHD.out,HA.out 0 (by omega),HA.out 1 (by omega),HA.out 2 (by omega),HA.out 3 (by omega)];rfl
      subst hr;go_wp2_with fail;go_ret;exact ⟨rfl,gb⟩
end Go.Proofs.YtcgalmnllegnbaaGreat

namespace Go.Proofs.YtcgalmnllegnbaaGreat
set_option linter.unusedVariables false
set_option linter.unusedSimpArgs false
set_option maxRecDepth 100000
open Go.RowKit
open Dot Evt
open Ms (Mem)
theorem th_sizeM (a b c : Int) : (#[Value.int .i64 a,.int .i64 b,.int .i64 c]).size = 3:=rfl
theorem th_oneM (a b c : Int) : (#[Value.int .i64 a,.int .i64 b,.int .i64 c]).all (·.oneCell') = true:=by simp [Value.oneCell']
def ptc (k : Int) : Array Value:=#[.bool (decide (k ≠ 5)),.bool (decide (k = 2∨k = 3)),.bool (decide (k = 4)),.bool (decide (k = 5))]
theorem ptc_one (k : Int) : (ptc k).all (·.oneCell') = true:=pt_one _ _ _ _
theorem tail_len {x : MgV} {w : World} {B : Nat} (h : RowEv w B x.A2 x.n2 x.xs) (hes : x.m.ev = x.xs.map (·.e)) (hu : x.m.u.length = 8) (hR : Ms.rightM x.m = true) : (Ms.tailM x.m).length≤10000000:=by
  have ha:=((Ms.right_iff x.m).1 hR).2.2.2
  unfold Ms.tailM
  by_cases h4 : x.m.kind = 4
  · rw [if_pos h4]
    have h1 : Ms.askSeen x.m = rightB x.m.u x.m.more:=by unfold Ms.askSeen;rw [if_pos h4]
    have h2:=((right_iff x.m.u x.m.more).1 (by rw [← h1];exact ha.1)).2.1;have h3:=encs_len (putL x.m.u x.m.more)
    unfold putL at h3
    simp only [List.length_append,List.length_cons,List.length_nil,nums_len,hu] at h3
    unfold putL
    omega
  · rw [if_neg h4]
    by_cases h5 : x.m.kind = 5
    · rw [if_pos h5]
      have h1 : Ms.askEv x.m = (x.m.ev.all rightE && decide (x.m.ev.length≤768)):=by unfold Ms.askEv;rw [if_pos h5]
      have h2:=ha.2;rw [h1,Bool.and_eq_true] at h2;have h3:=of_decide_eq_true h2.2
      have h4:=encAll_len x.xs (fun y hy=>by
        obtain ⟨i,hi,rfl⟩:=List.getElem_of_mem hy;refine ⟨(h.2 i _ (List.getElem?_eq_getElem hi)).1.1,?_⟩;refine List.all_eq_true.1 h2.1 _ ?_;rw [hes]
        exact List.mem_map.2 ⟨_,List.getElem_mem hi,rfl⟩)
      have h5:=Vint.enc_length x.m.ev.length;rw [List.length_append,hes,List.flatMap_map] at *;rw [List.length_map] at h3;rw [List.length_map] at h5;rw [List.length_map]
      omega
    · rw [if_neg h5];simp
structure PutS (w0 : World) (g P : Nat) (C PA : Array Value) (w : World) : Prop where
  kb : Blk w g 30 C
  ke : Blk w (g + 1) 31 #[.int .i64 0]
  kp : Blk w P 56 PA
  gb : Below w0.heap.size w0 w
  lt : g + 1 < P
  ge : w0.heap.size≤g
theorem PutS.below {w0 w w' : World} {g P : Nat} {C PA : Array Value} (h : PutS w0 g P C PA w) (hb : Below w.heap.size w w') : PutS w0 g P C PA w':=⟨h.kb.below hb h.kb.lt,h.ke.below hb h.ke.lt,h.kp.below hb h.kp.lt,h.gb.trans (hb.mono h.gb.size),h.lt,h.ge⟩
theorem PutS.low {w0 w w' : World} {g P D : Nat} {C PA : Array Value} (h : PutS w0 g P C PA w) (hb : Below D w w') (hP : P < D) : PutS w0 g P C PA w':=⟨h.kb.below hb (by have:=h.lt;omega),h.ke.below hb (by have:=h.lt;omega),h.kp.below hb hP,h.gb.trans (hb.mono (by have:=h.lt;have:=h.ge;omega)),h.lt,h.ge⟩
theorem PutS.err {w0 w : World} {g P : Nat} {C PA : Array Value} (h : PutS w0 g P C PA w) : PutS w0 g P C PA (w.setCell ⟨g + 1,0,none⟩ (.int .i64 0)) :=
  ⟨h.kb.far (by show g ≠ g + 1;omega) _,h.ke.set_ 0 _,h.kp.far (by show P ≠ g + 1;have:=h.lt;omega) _,h.gb.setCell (by show w0.heap.size≤g + 1;have:=h.ge;omega) _,h.lt,h.ge⟩
set_option maxHeartbeats 4000000 in
theorem mput_any (x : MgV) (w : World) (h : MgIn w x) : Calls Tryz.prog 12 #[.agg x.cs] w (GiveBE w (Ms.putM x.m).1 (Ms.putM x.m).2):=by
  have HIN:=Lib.hid h;have HAT:=Lib.hid (mgv_at x);have SZ:=Lib.hid x.size
  have HRT:=Lib.hid fun (w' : World) (hb : Below w.heap.size w w')=>mright_any x w' (h.below hb)
  have HH:=Lib.hid fun (hk : 1≤x.m.kind∧x.m.kind≤5) (w' : World)=>(has17_any x.m.kind w' hk : Calls Tryz.prog _ _ w' fun e w''=>e = .returned (.agg (ptc x.m.kind))∧Below w'.heap.size w' w'')
  have HSN:=Lib.hid fun (w' : World)=>seen_any x h.ok.u w'
  have HDP:=Lib.hid fun (w' : World) (hb : Below w.heap.size w w')=>dput_any ⟨x.m.u,x.A1,x.n1,x.c1,x.m.more⟩ w' h.ok.u (h.below hb).ok.more
  have HEP:=Lib.hid fun (w' : World) (hb : Below w.heap.size w w')=>eputAll_any x.A2 x.n2 x.c2 x.xs w' h.b2 (h.below hb).ok.ev
  have HMB:=Lib.hid fun (w' : World) (hb : Below w.heap.size w w')=>(h.below hb).ok.mem
  have HN3:=Lib.hid (h.ok.mem.1)
  have HTL:=Lib.hid fun hr=>tail_len h.ok.ev h.ok.es h.ok.u hr
  clear h
  generalize hC : x.cs = C at *
  clear hC;obtain ⟨R,hR⟩ : ∃ R,R = Ms.rightM x.m:=⟨_,rfl⟩;have HR:=Lib.hid hR;clear hR
  go_enter_defers Tryz.func12,Tryz.ntmps12
  go_upto_region 2 with fail
  refine nameW ?_;intro W hW;obtain ⟨g,hg⟩ : ∃ g,g = w.heap.size:=⟨_,rfl⟩;rw [← hg]
  have kb : Blk W g 30 C:=by rw [hW,hg];exact (Blk.new w _ _).alloc _
  have ke : Blk W (g + 1) 31 #[.int .i64 0]:=by
    have h:=Blk.new (w.alloc (.cells C 30)) 31 #[.int .i64 0];rw [hW,hg]
    simpa using h
  have gb : Below w.heap.size w W:=by rw [hW];exact ((Below.refl _ _).alloc (Nat.le_refl _) _).alloc (by simp) _
  have hge : w.heap.size≤g:=by omega
  clear hW hg
  go_wp2_with ((with_reducible refine wpList_ld rowMg kb SZ.out ?_ ?_);rotate_left;(rfl))
  refine (HRT.out W gb).mono ?_;rintro e w1 ⟨rfl,b1⟩;have kb:=kb.below b1 kb.lt;have ke:=ke.below b1 ke.lt;have gb:=gb.trans (b1.mono gb.size);rw [← HR.out];clear b1
  cases R
  case false =>
    have hp : Ms.putM x.m = ([],2):=by unfold Ms.putM;rw [← HR.out,if_neg (by decide)]
    have HP:=Lib.hid hp;clear hp;go_wp2_with fail;refine (mmust_bad _ _).mono ?_;rintro e w2 ⟨rfl,rfl⟩;go_wp2_with fail;refine leaves_cons (f:=16) (args:=#[.pointer (some ⟨g + 1,0,none⟩)]) (by simp) (by simp [go_sem]) ?_;refine (mcaught_panic _ _ _ _ _ (ke.cell 0) (ke.free 0)).mono ?_;rintro e u' w3 ⟨rfl,rfl,rfl⟩;have k3:=(ke.alloc (.cells #[.int .i64 2] 92)).set_ 0 (.int .i64 2);have c3 : World.cell? _ _ = some (.int .i64 2):=k3.cell 0;have g3:=(gb.alloc gb.size (.cells #[.int .i64 2] 92)).setCell (p:=⟨g + 1,0,none⟩) (by show w.heap.size≤g + 1;omega) (.int .i64 2);refine ⟨.tuple #[.slice none 0 0,.int .i64 2],by simp [results,Tryz.results12,go_sem,c3],none,0,0,by rw [HP.out];rfl,by rw [HP.out];exact OwnB.nil _ _,g3⟩
  case true =>
    have hR:=HR.out.symm;have hrh:=Ms.right_head hR;have hml:=Ms.members_len hrh.2.2.2.1;have HHK:=Lib.hid (HH.out hrh.1);have HBD:=Lib.hid (Ms.headN_bd hR);have HHL:=Lib.hid (Ms.headN_len hR);have HRR:=Lib.hid hR;have HTN:=Lib.hid (HTL.out hR)
    have hn38 : x.n3≤8:=by rw [HN3.out];exact hml
    have HN8:=Lib.hid hn38;clear hR hrh hml hn38 HH HR;go_wp2_with fail;refine (mmust_ok _ _).mono ?_;rintro e w2 ⟨rfl,rfl⟩;have t0 : w1.cell? ⟨g,0,none⟩ = some (.int .i64 x.m.kind):=(kb.cell 0).trans HAT.out.1;go_wp2_with fail;refine (HHK.out _).mono ?_;rintro e w2 ⟨he,b2⟩;obtain rfl : e = .returned (.agg (ptc x.m.kind)):=he;have kb:=kb.below b2 kb.lt;have ke:=ke.below b2 ke.lt;have gb:=gb.trans (b2.mono gb.size);have hg2 : g + 1 < w2.heap.size:=ke.lt;obtain ⟨PA,hPA⟩ : ∃ PA,PA = ptc x.m.kind:=⟨_,rfl⟩;rw [← hPA];have HPA:=Lib.hid hPA;have SZ4:=Lib.hid (show PA.size = 4 by rw [hPA];rfl);have ONE4:=Lib.hid (show PA.all (·.oneCell') = true by rw [hPA];exact ptc_one _);clear hPA t0 b2
    go_upto_region 4 with ((with_reducible refine wpList_st (cs:=PA) rowPt (Blk.new _ _ _) SZ4.out ?_ ONE4.out ?_ ?_ ?_);(rfl);rotate_left;(rfl);(rfl);intro w3 kp g3 z3)
    have bn : Below w2.heap.size w2 w3:=new_below g3;obtain ⟨P,hP⟩ : ∃ P,P = w2.heap.size:=⟨_,rfl⟩;rw [← hP] at kp ⊢;have S0 : PutS w g P C PA w3:=⟨kb.below bn kb.lt,ke.below bn ke.lt,kp,gb.trans (bn.mono gb.size),by omega,hge⟩;have S1:=Lib.hid S0;have t0 : w3.cell? ⟨g,0,none⟩ = some (.int .i64 x.m.kind):=(S0.kb.cell 0).trans HAT.out.1;have t1 : w3.cell? ⟨g,1,none⟩ = some (.int .i64 x.m.frm):=(S0.kb.cell 1).trans HAT.out.2.1;have t2 : w3.cell? ⟨g,2,none⟩ = some (.int .i64 x.m.to):=(S0.kb.cell 2).trans HAT.out.2.2.1;have t15 : w3.cell? ⟨g,15,none⟩ = some (.slice x.A3 x.n3 x.c3):=(S0.kb.cell 15).trans HAT.out.2.2.2.2.2.2.2;clear hP S0 kb ke gb kp g3 z3 bn hg2
    go_upto_region 5 with fail
    have o0:=OwnI.made w3 w3.heap.size [x.m.kind,x.m.frm,x.m.to,(x.n3 : Int)] #[.int .i64 x.m.kind,.int .i64 x.m.frm,.int .i64 x.m.to,.int .i64 x.n3] 4 rfl rfl (Nat.le_refl _) (by unfold maxLen;omega);have bn : Below w3.heap.size w3 (w3.alloc (.cells #[.int .i64 x.m.kind,.int .i64 x.m.frm,.int .i64 x.m.to,.int .i64 x.n3] 3)):=(Below.refl _ _).alloc (Nat.le_refl _) _;have S2:=S1.out.below bn;obtain ⟨D,hD⟩ : ∃ D,D = w3.heap.size:=⟨_,rfl⟩;rw [← hD] at o0 ⊢
    have hPD : P < D:=by rw [hD];exact S1.out.kp.lt
    have hDs : D≤(w3.alloc (.cells #[.int .i64 x.m.kind,.int .i64 x.m.frm,.int .i64 x.m.to,.int .i64 x.n3] 3)).heap.size:=by rw [hD];exact bn.size
    generalize w3.alloc (.cells #[.int .i64 x.m.kind,.int .i64 x.m.frm,.int .i64 x.m.to,.int .i64 x.n3] 3) = w4 at *
    have t15 : w4.cell? ⟨g,15,none⟩ = some (.slice x.A3 x.n3 x.c3):=(S2.kb.cell 15).trans HAT.out.2.2.2.2.2.2.2;have HS2:=Lib.hid S2;have HO0:=Lib.hid o0
    have hwD : w.heap.size≤D:=by have:=S2.lt;have:=S2.ge;omega
    clear bn hD o0 S2 S1 t0 t1 t2;go_wp2_with fail
    go_loopw [5,31] (fun s i wr=>∃ (k : Nat) (A : Option Addr) (nc cc : Nat),k≤x.n3∧i = .int .i64 (k : Nat)∧s = .slice A nc cc∧OwnI wr D A nc cc ([x.m.kind,x.m.frm,x.m.to,(x.n3 : Int)] ++ (x.m.mem.take k).flatMap fun v=>[v.1,v.2.1,v.2.2])∧Below D w4 wr) (fun _ i _=>x.n3 - (intOf i).toNat)
    case atStart=>exact ⟨0,_,4,4,by omega,rfl,rfl,by simpa using HO0.out,Below.refl _ _⟩
    case round =>
      obtain ⟨k,A5,n5,c5,hk,rfl,rfl,ho,bk⟩:=hrel;have hm8:=HN8.out
      have hn5 : n5≤28:=by
        rw [ho.1,List.length_append,Ms.trip_len,List.length_take]
        simp only [List.length_cons,List.length_nil]
        omega
      by_cases hlt : k < x.n3
      · have hkl : k < x.m.mem.length:=by rw [← HN3.out];exact hlt
        obtain ⟨ad,hA,q5,q0,q1,q2⟩:=(HMB.out wr (HS2.out.gb.trans (bk.mono hwD))).2 k _ (List.getElem?_eq_getElem hkl);have hst:=Ms.trip_snoc x.m.mem hkl
        have hk0 : (0 : Int)≤(k : Int):=by omega
        have hkn : (k : Int) < (x.n3 : Int):=by omega
        have HO5:=Lib.hid ho
        generalize x.m.mem[k] = d at *
        obtain ⟨a1,a2,a3⟩:=d
        simp only at q0 q1 q2 hst
        have HST:=Lib.hid hst;clear hst ho;rw [hA]
        go_upto_region 8 with ((with_reducible refine wpList_st (cs:=#[.int .i64 a1,.int .i64 a2,.int .i64 a3]) rowMb (Blk.new _ _ _) (th_sizeM _ _ _) ?_ (th_oneM _ _ _) ?_ ?_ ?_);(rfl);rotate_left;(rfl);(rfl);intro w7 kq g7 z7)
        have bq : Below wr.heap.size wr w7:=new_below g7;have HO6:=Lib.hid (HO5.out.below bq (Nat.le_refl _));have hDr : D≤wr.heap.size:=Nat.le_trans hDs bk.size;have b7:=bk.trans (bq.mono hDr);have hD7 : D≤w7.heap.size:=Nat.le_trans hDr bq.size;have d0:=kq.cell 0;have d1:=kq.cell 1;have d2:=kq.cell 2;clear g7 z7 bq bk HO5 q5 q0 q1 q2
        go_wp2_with (at_builtin;refine stop ?_)
        unfold Stop
        have ba:=b7.alloc hD7 (.cells #[.int .i64 a1,.int .i64 a2,.int .i64 a3] 3);refine wpList_appI rfl (.tmp 35) (.tmp 42) rfl (by rfl) (HO6.out.alloc _) (by rfl) (RdI.made w7 [a1,a2,a3] _ _ _ rfl) (by simp;omega) (Nat.le_trans hD7 (by simp)) ?_;intro A8 c8 w8 ho8 _ _ b8;have HO8:=Lib.hid ho8;have b9:=ba.trans b8;clear ho8 b8 ba b7;go_wp2_with fail
        go_roundw
        case rel=>exact ⟨k + 1,A8,_,c8,by omega,by go_num,rfl,by rw [HST.out,← List.append_assoc];exact HO8.out,b9⟩
        case measure=>simp [intOf];omega
      · obtain rfl : k = x.n3:=by omega
        have hfull : x.m.mem.take x.n3 = x.m.mem:=List.take_of_length_le (by rw [← HN3.out];omega);rw [hfull] at ho;have hkd : decide ((x.n3 : Int) < (x.n3 : Int)) = false:=decide_eq_false (by omega);have S5:=HS2.out.low bk hPD;have hDr : D≤wr.heap.size:=Nat.le_trans hDs bk.size
        obtain ⟨L1,hL1⟩ : ∃ L1,L1 = [x.m.kind,x.m.frm,x.m.to,(x.n3 : Int)] ++ x.m.mem.flatMap fun v : Mem=>[v.1,v.2.1,v.2.2]:=⟨_,rfl⟩
        rw [← hL1] at ho
        have hHN : Ms.headN x.m = L1 ++ (if x.m.kind ≠ 5 then [x.m.seq] else []) ++ (if x.m.kind = 2∨x.m.kind = 3 then [x.m.node] else []):=by rw [Ms.headN_eq,hL1,HN3.out]
        have HHN:=Lib.hid hHN;have hpa:=HPA.out;have p0 : wr.cell? ⟨P,0,none⟩ = some (.bool (decide (x.m.kind ≠ 5))):=(S5.kp.cell 0).trans (by rw [hpa];rfl);have s3 : wr.cell? ⟨g,3,none⟩ = some (.int .i64 x.m.seq):=(S5.kb.cell 3).trans HAT.out.2.2.2.1;obtain ⟨bq,hbq⟩ : ∃ bq,bq = decide (x.m.kind ≠ 5):=⟨_,rfl⟩;rw [← hbq] at p0;have HBQ:=Lib.hid hbq;clear hbq;have HS5:=Lib.hid S5;have HO:=Lib.hid ho;clear hfull hL1 hHN hpa S5 ho bk hlt hk HS2 HO0 HMB t15
        go_upto_if 46 with fail
        go_cut [5] from 47 to 51 (fun s wx=>∃ (A : Option Addr) (nc cc : Nat),s = .slice A nc cc∧nc≤29∧OwnI wx D A nc cc (L1 ++ (if x.m.kind ≠ 5 then [x.m.seq] else []))∧Below D wr wx)
        case first =>
          cases bq
          · have h5:=of_decide_eq_false HBQ.out.symm
            have HX5:=Lib.hid h5;clear h5;go_wp2_with fail;go_meet;exact ⟨_,_,_,rfl,by omega,by rw [if_neg HX5.out,List.append_nil];exact HO.out,Below.refl _ _⟩
          · have h5:=of_decide_eq_true HBQ.out.symm
            have HX5:=Lib.hid h5;clear h5
            go_wp2_with (at_builtin;refine stop ?_)
            unfold Stop
            have ba:=(Below.refl D wr).alloc hDr (.cells #[.int .i64 x.m.seq] 3);refine wpList_appI rfl (.tmp 47) (.tmp 50) rfl (by rfl) (HO.out.alloc _) (by rfl) (RdI.made wr [x.m.seq] _ _ _ rfl) (by simp;omega) (Nat.le_trans hDr (by simp)) ?_;intro A8 c8 w8 ho8 _ _ b8;go_wp2_with fail;go_meet;exact ⟨_,_,_,rfl,by simp;omega,by rw [if_pos HX5.out];exact ho8,ba.trans b8⟩
        case rest =>
          obtain ⟨A6,n6,c6,rfl,hn6,o6,b6⟩:=hcut;obtain ⟨w5,rfl⟩ : ∃ w5,w5 = wc:=⟨_,rfl⟩;have S6:=HS5.out.low b6 hPD;have hD6 : D≤w5.heap.size:=Nat.le_trans hDr b6.size;have hpa:=HPA.out;have p1 : w5.cell? ⟨P,1,none⟩ = some (.bool (decide (x.m.kind = 2∨x.m.kind = 3))):=(S6.kp.cell 1).trans (by rw [hpa];rfl);have s4 : w5.cell? ⟨g,4,none⟩ = some (.int .i64 x.m.node):=(S6.kb.cell 4).trans HAT.out.2.2.2.2.1;obtain ⟨br,hbr⟩ : ∃ br,br = decide (x.m.kind = 2∨x.m.kind = 3):=⟨_,rfl⟩;rw [← hbr] at p1;have HBR:=Lib.hid hbr;clear hbr;have HS6:=Lib.hid S6;have HO6:=Lib.hid o6;clear hpa S6 o6 b6 p0 s3 HS5 HO
          go_upto_if 53 with fail
          go_cut [5] from 54 to 58 (fun s wx=>∃ (A : Option Addr) (nc cc : Nat),s = .slice A nc cc∧nc≤30∧OwnI wx D A nc cc (Ms.headN x.m)∧Below D w5 wx)
          case first =>
            cases br
            rotate_left
            · have h5:=of_decide_eq_true HBR.out.symm
              have HX5:=Lib.hid h5;clear h5
              go_wp2_with (at_builtin;refine stop ?_)
              unfold Stop
              have ba:=(Below.refl D w5).alloc hD6 (.cells #[.int .i64 x.m.node] 3);refine wpList_appI rfl (.tmp 54) (.tmp 57) rfl (by rfl) (HO6.out.alloc _) (by rfl) (RdI.made w5 [x.m.node] _ _ _ rfl) (by simp;omega) (Nat.le_trans hD6 (by simp)) ?_;intro A8 c8 w8 ho8 _ _ b8;go_wp2_with fail;go_meet;exact ⟨_,_,_,rfl,by simp;omega,by rw [HHN.out,if_pos HX5.out];exact ho8,ba.trans b8⟩
            · have h5:=of_decide_eq_false HBR.out.symm
              have HX5:=Lib.hid h5;clear h5;go_wp2_with fail;go_meet;exact ⟨_,_,_,rfl,by omega,by rw [HHN.out,if_neg HX5.out,List.append_nil];exact HO6.out,Below.refl _ _⟩
          case rest =>
            obtain ⟨A7,n7,c7,rfl,hn7,o7,b7⟩:=hcut;obtain ⟨w6,rfl⟩ : ∃ w6,w6 = wc:=⟨_,rfl⟩;have S7:=HS6.out.low b7 hPD;obtain ⟨ms,hms⟩ : ∃ ms,ms = Ms.headN x.m:=⟨_,rfl⟩;rw [← hms] at o7;have HMS:=Lib.hid hms;have HBD2:=Lib.hid (show ∀ z ∈ ms,0≤z∧z≤1099511627776 by rw [hms];exact HBD.out);have hP6 : P < w6.heap.size:=S7.kp.lt
            have hDp : g + 1 < D:=by have:=S7.lt;omega
            have hg6 : g + 1 < w6.heap.size:=S7.ke.lt;clear hms p1 s4 HS6 HO6 b7 HBD HHN;go_wp2_with fail
            go_loopw [8,61] (fun s i wq=>∃ (j : Nat) (A' : Option Addr) (nc cc : Nat),j≤n7∧i = .int .i64 (j : Nat)∧s = .slice A' nc cc∧OwnB wq w6.heap.size A' nc cc (encs (ms.take j))∧OwnI wq D A7 n7 c7 ms∧PutS w g P C PA wq∧w6.heap.size≤wq.heap.size) (fun _ i _=>n7 - (intOf i).toNat)
            case atStart=>exact ⟨0,none,0,0,by omega,rfl,rfl,OwnB.nil _ _,o7,S7,Nat.le_refl _⟩
            case round =>
              obtain ⟨j,A',nc,cc,hj,rfl,rfl,ob,oI,S,hz⟩:=hrel
              by_cases hjm : j < n7
              · have hjl : j < ms.length:=by rw [← oI.1];exact hjm
                obtain ⟨ad,hA7,_,c1⟩:=oI.rd.at_ hjl;have hxb:=HBD2.out _ (List.getElem_mem hjl);have hes:=encs_snoc ms hjl;have HES:=Lib.hid hes;have hel:=encs_len (ms.take j)
                have hnb : nc≤600:=by
                  have h1:=ob.1;have h2 : (ms.take j).length≤j:=List.length_take_le _ _
                  omega
                clear hes hel
                generalize ms[j] = z at *
                obtain ⟨z,rfl⟩:=Int.eq_ofNat_of_zero_le hxb.1;rw [Int.toNat_natCast] at HES
                have hj0 : (0 : Int)≤(j : Int):=by omega
                have hj1 : (j : Int) < (n7 : Int):=by omega
                have HS:=Lib.hid S;have HOI:=Lib.hid oI;have HOB:=Lib.hid ob;clear S oI ob o7 S7;subst hA7;go_wp2_with fail;refine (put_ok A' nc cc _ z _ _ HOB.out.rd (Nat.le_refl _) (by omega) (by omega)).mono ?_;rintro e w7 ⟨A8,n8,c8,rfl,o8,b8⟩;have S8:=HS.out.below b8;have e1 : w7.cell? ⟨g + 1,0,none⟩ = some (.int .i64 0):=S8.ke.cell 0;have f1:=S8.ke.free 0;have S9:=S8.err;have e2 : World.cell? _ ⟨g + 1,0,none⟩ = some (.int .i64 0):=S9.ke.cell 0;have oI9:=(HOI.out.below b8 (Nat.le_refl _)).setFar (p:=⟨g + 1,0,none⟩) (by intro hq;have h9 : D≤g + 1:=(HOI.out.lt _ hq).1;omega) (.int .i64 0);have o9 : OwnB _ w6.heap.size A8 n8 c8 (encs (ms.take (j + 1))):=((show OwnB w7 wr.heap.size A8 n8 c8 (encs (ms.take (j + 1))) by rw [HES.out];exact o8).mono hz).setFar (p:=⟨g + 1,0,none⟩) (by intro hq;have h9 : wr.heap.size≤g + 1:=(o8.lt _ hq).1;omega) (.int .i64 0)
                have hz9 : w6.heap.size≤(w7.setCell ⟨g + 1,0,none⟩ (.int .i64 0)).heap.size:=by have:=b8.size;simp [World.setCell];omega
                have H9:=Lib.hid (And.intro o9 (And.intro oI9 (And.intro S9 hz9)));clear S8 S9 oI9 o9 hz9 o8 b8 HS HOI HOB;go_wp2_with fail;refine (mmust_ok _ _).mono ?_;rintro e wz ⟨rfl,rfl⟩;go_wp2_with fail
                go_roundw
                case rel=>exact ⟨j + 1,A8,n8,c8,by omega,by go_num,rfl,H9.out⟩
                case measure=>simp [intOf];omega
              · have hfull : ms.take j = ms:=List.take_of_length_le (by rw [← oI.1];omega)
                rw [hfull,HMS.out] at ob
                have hnb : nc≤180:=by
                  have h1:=ob.1;have h2:=encs_len (Ms.headN x.m);have h3:=HHL.out
                  omega
                have hkd : decide ((j : Int) < (n7 : Int)) = false:=decide_eq_false (by omega);obtain ⟨w7,rfl⟩ : ∃ w7,w7 = wr:=⟨_,rfl⟩;have hpa:=HPA.out;have p2 : w7.cell? ⟨P,2,none⟩ = some (.bool (decide (x.m.kind = 4))):=(S.kp.cell 2).trans (by rw [hpa];rfl);have p3 : w7.cell? ⟨P,3,none⟩ = some (.bool (decide (x.m.kind = 5))):=(S.kp.cell 3).trans (by rw [hpa];rfl);have s14 : w7.cell? ⟨g,14,none⟩ = some (.slice x.A2 x.n2 x.c2):=(S.kb.cell 14).trans HAT.out.2.2.2.2.2.2.1;have hasks:=((Ms.right_iff x.m).1 HRR.out).2.2.2;clear hpa oI o7 S7 hfull
                by_cases h4 : x.m.kind = 4
                · have hrb : rightB x.m.u x.m.more = true:=by have:=hasks.1;unfold Ms.askSeen at this;rwa [if_pos h4] at this
                  have htm : Ms.tailM x.m = encs (putL x.m.u x.m.more):=by unfold Ms.tailM;rw [if_pos h4]
                  have hdp:=HDP.out
                  simp only [hrb,if_true] at hdp
                  rw [← htm] at hdp;have HD2:=Lib.hid hdp;have HS:=Lib.hid S;have HOB:=Lib.hid ob;have kb:=S.kb;have hd4 : decide (x.m.kind = 4) = true:=decide_eq_true h4;rw [hd4] at p2;clear hrb htm hdp S ob hasks
                  go_wp2_with ((with_reducible refine wpList_ld rowMg kb SZ.out ?_ ?_);rotate_left;(rfl))
                  refine (HSN.out _).mono ?_;rintro e w8 ⟨rfl,b8⟩;have S8:=HS.out.below b8;have ob8:=HOB.out.below b8 (Nat.le_refl _);have HS8:=Lib.hid S8;go_wp2_with fail;refine (HD2.out w8 S8.gb).mono ?_;rintro e wg ⟨At,nt,ct,rfl,ot,bt⟩;have S9:=S8.below bt;have ob9:=ob8.below bt (Nat.le_refl _);have e0 : wg.cell? ⟨g + 1,0,none⟩ = some (.int .i64 0):=S9.ke.cell 0;have f0:=S9.ke.free 0;have S9:=S9.err;have hg8 : g + 1 < w8.heap.size:=S8.ke.lt;have ob9:=ob9.setFar (p:=⟨g + 1,0,none⟩) (by intro hq;have h9 : w6.heap.size≤g + 1:=(ob9.lt _ hq).1;omega) (.int .i64 0);have ot9:=ot.setFar (p:=⟨g + 1,0,none⟩) (by intro hq;have h9 : w8.heap.size≤g + 1:=(ot.lt _ hq).1;omega) (.int .i64 0)
                  have hb9 : w6.heap.size≤(wg.setCell ⟨g + 1,0,none⟩ (.int .i64 0)).heap.size:=by have:=b8.size;have:=bt.size;simp [World.setCell];omega
                  obtain ⟨w9,hw9⟩ : ∃ w9,w9 = wg.setCell ⟨g + 1,0,none⟩ (.int .i64 0):=⟨_,rfl⟩;rw [← hw9] at S9 ob9 ot9 hb9;clear S8 ob8 b8 bt ot kb HS HOB;have HW9:=Lib.hid hw9
                  go_upto_region 26 with fail
                  rw [← HW9.out];clear hw9;have SZ9:=S9.gb.size;have e1 : w9.cell? ⟨g + 1,0,none⟩ = some (.int .i64 0):=S9.ke.cell 0;have HS9:=Lib.hid S9;have HOb:=Lib.hid ob9;have HOt:=Lib.hid ot9;have hnb9 : nc≤180:=hnb
                  have htl : nt≤10000000:=by rw [ot9.1];exact HTN.out
                  clear S9 ob9 ot9;go_wp2_with fail;refine (mmust_ok _ _).mono ?_;rintro e wz ⟨rfl,rfl⟩
                  go_wp2_with (at_builtin;refine stop ?_)
                  unfold Stop
                  refine wpList_appB rfl (.tmp 98) (.tmp 99) rfl (by rfl) HOb.out (by rfl) HOt.out.rd (by omega) hb9 ?_;intro Ac cc' wa oa _ _ ba;have Sa:=HS9.out.low (ba.mono (show P + 1≤_ by have:=hP6;omega)) (Nat.lt_succ_self P);have hbody : encs (Ms.headN x.m) ++ Ms.tailM x.m = Ms.bodyM x.m:=rfl;rw [hbody] at oa;have HSa:=Lib.hid Sa;have hla : nc + nt = (Ms.bodyM x.m).length:=oa.1;rw [hla] at oa ⊢;have HOa:=Lib.hid oa;clear Sa oa ba hla
                  by_cases hlong : (Ms.bodyM x.m).length≤4096
                  · have hp : Ms.putM x.m = (Frame.frm (Ms.bodyM x.m),0):=by unfold Ms.putM;rw [if_pos HRR.out,if_pos (by omega)]
                    have HP:=Lib.hid hp;clear hp;go_wp2_with fail;refine (Frame.put_ok _ _ _ (Ms.bodyM x.m) wa.heap.size wa HOa.out.rd (Nat.le_refl _) hlong).mono ?_;rintro e wf ⟨Af,nf,cf,rfl,of,bf⟩;have Sf:=HSa.out.below bf;have e2 : wf.cell? ⟨g + 1,0,none⟩ = some (.int .i64 0):=Sf.ke.cell 0;have f2:=Sf.ke.free 0;have Se:=Sf.err;have e3 : World.cell? _ ⟨g + 1,0,none⟩ = some (.int .i64 0):=Se.ke.cell 0;have HSe:=Lib.hid (And.intro Se of);have hga : g + 1 < wa.heap.size:=HSa.out.ke.lt;clear Sf Se of bf;go_wp2_with fail;refine leaves_cons (f:=16) (args:=#[.pointer (some ⟨g + 1,0,none⟩)]) (by simp) (by simp [go_sem]) ?_;refine (mcaught_none _ _).mono ?_;rintro e u' w'' ⟨rfl,rfl,rfl⟩;refine ⟨.tuple #[.slice Af nf cf,.int .i64 0],by simp [results,Tryz.results12,go_sem,e3],Af,nf,cf,by rw [HP.out];rfl,?_,HSe.out.1.gb⟩;rw [HP.out]
                    exact (HSe.out.2.setFar (p:=⟨g + 1,0,none⟩) (by
                      intro hq;have h9 : wa.heap.size≤g + 1:=(HSe.out.2.lt _ hq).1
                      omega) _).mono (by have:=HSa.out.gb.size;omega)
                  · have hp : Ms.putM x.m = ([],6):=by unfold Ms.putM;rw [if_pos HRR.out,if_neg (by omega)]
                    have HP:=Lib.hid hp;clear hp;go_wp2_with fail;refine (Frame.put_long _ _ _ wa (by omega)).mono ?_;rintro e wf ⟨rfl,rfl⟩;have e2 : wa.cell? ⟨g + 1,0,none⟩ = some (.int .i64 0):=HSa.out.ke.cell 0;have f2:=HSa.out.ke.free 0;have k3:=HSa.out.ke.set_ 0 (.int .i64 6);have e3 : World.cell? _ ⟨g + 1,0,none⟩ = some (.int .i64 6):=k3.cell 0;have g3:=HSa.out.gb.setCell (p:=⟨g + 1,0,none⟩) (by show w.heap.size≤g + 1;omega) (.int .i64 6);have HG3:=Lib.hid g3;clear k3 g3;go_wp2_with fail;refine leaves_cons (f:=16) (args:=#[.pointer (some ⟨g + 1,0,none⟩)]) (by simp) (by simp [go_sem]) ?_;refine (mcaught_none _ _).mono ?_;rintro e u' w'' ⟨rfl,rfl,rfl⟩;refine ⟨.tuple #[.slice none 0 0,.int .i64 6],by simp [results,Tryz.results12,go_sem,e3],none,0,0,by rw [HP.out];rfl,by rw [HP.out];exact OwnB.nil _ _,HG3.out⟩
                have hd4 : decide (x.m.kind = 4) = false:=decide_eq_false h4;rw [hd4] at p2
                by_cases h5 : x.m.kind = 5
                · have hrb : putAllE x.xs = (Ms.tailM x.m,0):=by
                    have h:=hasks.2
                    unfold Ms.askEv at h
                    rw [if_pos h5,HIN.out.ok.es,Bool.and_eq_true] at h;have h2:=of_decide_eq_true h.2;rw [List.length_map] at h2
                    unfold putAllE Ms.tailM
                    rw [if_neg (by omega),if_pos,if_neg h4,if_pos h5,HIN.out.ok.es,List.length_map,List.flatMap_map];rw [List.all_eq_true];intro y hy;exact List.all_eq_true.1 h.1 _ (List.mem_map.2 ⟨y,hy,rfl⟩)
                  have hdp:=HEP.out
                  simp only [hrb] at hdp
                  have HD2:=Lib.hid hdp;have HS:=Lib.hid S;have HOB:=Lib.hid ob;have hg8 : g + 1 < w7.heap.size:=S.ke.lt;have hd5 : decide (x.m.kind = 5) = true:=decide_eq_true h5;rw [hd5] at p3;clear hrb hdp S ob hasks;go_wp2_with fail;refine (HD2.out w7 HS.out.gb).mono ?_;rintro e wg ⟨At,nt,ct,rfl,ot,bt⟩;have S9:=HS.out.below bt;have ob9:=HOB.out.below bt (Nat.le_refl _);have e0 : wg.cell? ⟨g + 1,0,none⟩ = some (.int .i64 0):=S9.ke.cell 0;have f0:=S9.ke.free 0;have S9:=S9.err;have ob9:=ob9.setFar (p:=⟨g + 1,0,none⟩) (by intro hq;have h9 : w6.heap.size≤g + 1:=(ob9.lt _ hq).1;omega) (.int .i64 0);have ot9:=ot.setFar (p:=⟨g + 1,0,none⟩) (by intro hq;have h9 : w7.heap.size≤g + 1:=(ot.lt _ hq).1;omega) (.int .i64 0)
                  have hb9 : w6.heap.size≤(wg.setCell ⟨g + 1,0,none⟩ (.int .i64 0)).heap.size:=by have:=bt.size;simp [World.setCell];omega
                  obtain ⟨w9,hw9⟩ : ∃ w9,w9 = wg.setCell ⟨g + 1,0,none⟩ (.int .i64 0):=⟨_,rfl⟩;rw [← hw9] at S9 ob9 ot9 hb9;clear bt ot HS HOB;have HW9:=Lib.hid hw9
                  go_upto_region 26 with fail
                  rw [← HW9.out];clear hw9;have SZ9:=S9.gb.size;have e1 : w9.cell? ⟨g + 1,0,none⟩ = some (.int .i64 0):=S9.ke.cell 0;have HS9:=Lib.hid S9;have HOb:=Lib.hid ob9;have HOt:=Lib.hid ot9;have hnb9 : nc≤180:=hnb
                  have htl : nt≤10000000:=by rw [ot9.1];exact HTN.out
                  clear S9 ob9 ot9;go_wp2_with fail;refine (mmust_ok _ _).mono ?_;rintro e wz ⟨rfl,rfl⟩
                  go_wp2_with (at_builtin;refine stop ?_)
                  unfold Stop
                  refine wpList_appB rfl (.tmp 98) (.tmp 99) rfl (by rfl) HOb.out (by rfl) HOt.out.rd (by omega) hb9 ?_;intro Ac cc' wa oa _ _ ba;have Sa:=HS9.out.low (ba.mono (show P + 1≤_ by have:=hP6;omega)) (Nat.lt_succ_self P);have hbody : encs (Ms.headN x.m) ++ Ms.tailM x.m = Ms.bodyM x.m:=rfl;rw [hbody] at oa;have HSa:=Lib.hid Sa;have hla : nc + nt = (Ms.bodyM x.m).length:=oa.1;rw [hla] at oa ⊢;have HOa:=Lib.hid oa;clear Sa oa ba hla
                  by_cases hlong : (Ms.bodyM x.m).length≤4096
                  · have hp : Ms.putM x.m = (Frame.frm (Ms.bodyM x.m),0):=by unfold Ms.putM;rw [if_pos HRR.out,if_pos (by omega)]
                    have HP:=Lib.hid hp;clear hp;go_wp2_with fail;refine (Frame.put_ok _ _ _ (Ms.bodyM x.m) wa.heap.size wa HOa.out.rd (Nat.le_refl _) hlong).mono ?_;rintro e wf ⟨Af,nf,cf,rfl,of,bf⟩;have Sf:=HSa.out.below bf;have e2 : wf.cell? ⟨g + 1,0,none⟩ = some (.int .i64 0):=Sf.ke.cell 0;have f2:=Sf.ke.free 0;have Se:=Sf.err;have e3 : World.cell? _ ⟨g + 1,0,none⟩ = some (.int .i64 0):=Se.ke.cell 0;have HSe:=Lib.hid (And.intro Se of);have hga : g + 1 < wa.heap.size:=HSa.out.ke.lt;clear Sf Se of bf;go_wp2_with fail;refine leaves_cons (f:=16) (args:=#[.pointer (some ⟨g + 1,0,none⟩)]) (by simp) (by simp [go_sem]) ?_;refine (mcaught_none _ _).mono ?_;rintro e u' w'' ⟨rfl,rfl,rfl⟩;refine ⟨.tuple #[.slice Af nf cf,.int .i64 0],by simp [results,Tryz.results12,go_sem,e3],Af,nf,cf,by rw [HP.out];rfl,?_,HSe.out.1.gb⟩;rw [HP.out]
                    exact (HSe.out.2.setFar (p:=⟨g + 1,0,none⟩) (by
                      intro hq;have h9 : wa.heap.size≤g + 1:=(HSe.out.2.lt _ hq).1
                      omega) _).mono (by have:=HSa.out.gb.size;omega)
                  · have hp : Ms.putM x.m = ([],6):=by unfold Ms.putM;rw [if_pos HRR.out,if_neg (by omega)]
                    have HP:=Lib.hid hp;clear hp;go_wp2_with fail;refine (Frame.put_long _ _ _ wa (by omega)).mono ?_;rintro e wf ⟨rfl,rfl⟩;have e2 : wa.cell? ⟨g + 1,0,none⟩ = some (.int .i64 0):=HSa.out.ke.cell 0;have f2:=HSa.out.ke.free 0;have k3:=HSa.out.ke.set_ 0 (.int .i64 6);have e3 : World.cell? _ ⟨g + 1,0,none⟩ = some (.int .i64 6):=k3.cell 0;have g3:=HSa.out.gb.setCell (p:=⟨g + 1,0,none⟩) (by show w.heap.size≤g + 1;omega) (.int .i64 6);have HG3:=Lib.hid g3;clear k3 g3;go_wp2_with fail;refine leaves_cons (f:=16) (args:=#[.pointer (some ⟨g + 1,0,none⟩)]) (by simp) (by simp [go_sem]) ?_;refine (mcaught_none _ _).mono ?_;rintro e u' w'' ⟨rfl,rfl,rfl⟩;refine ⟨.tuple #[.slice none 0 0,.int .i64 6],by simp [results,Tryz.results12,go_sem,e3],none,0,0,by rw [HP.out];rfl,by rw [HP.out];exact OwnB.nil _ _,HG3.out⟩
                · have htm : Ms.tailM x.m = []:=by unfold Ms.tailM;rw [if_neg h4,if_neg h5]
                  have hd5 : decide (x.m.kind = 5) = false:=decide_eq_false h5;rw [hd5] at p3;have S9:=S;have ob9:=ob;obtain ⟨w9,rfl⟩ : ∃ w9,w9 = w7:=⟨_,rfl⟩
                  have ot9 : OwnB w9 w9.heap.size none 0 0 (Ms.tailM x.m):=by rw [htm];exact OwnB.nil _ _
                  have hb9:=hz;obtain ⟨nt,hnt⟩ : ∃ nt,nt = 0:=⟨_,rfl⟩;clear S ob hasks htm
                  go_upto_region 26 with fail
                  subst hnt;have SZ9:=S9.gb.size;have e1 : w9.cell? ⟨g + 1,0,none⟩ = some (.int .i64 0):=S9.ke.cell 0;have HS9:=Lib.hid S9;have HOb:=Lib.hid ob9;have HOt:=Lib.hid ot9;have hnb9 : nc≤180:=hnb
                  have htl : 0≤10000000:=by rw [ot9.1];exact HTN.out
                  clear S9 ob9 ot9;go_wp2_with fail;refine (mmust_ok _ _).mono ?_;rintro e wz ⟨rfl,rfl⟩
                  go_wp2_with (at_builtin;refine stop ?_)
                  unfold Stop
                  refine wpList_appB rfl (.tmp 98) (.tmp 99) rfl (by rfl) HOb.out (by rfl) HOt.out.rd (by omega) hb9 ?_;intro Ac cc' wa oa _ _ ba;have Sa:=HS9.out.low (ba.mono (show P + 1≤_ by have:=hP6;omega)) (Nat.lt_succ_self P);have hbody : encs (Ms.headN x.m) ++ Ms.tailM x.m = Ms.bodyM x.m:=rfl;rw [hbody] at oa;have HSa:=Lib.hid Sa;have hla : nc + 0 = (Ms.bodyM x.m).length:=oa.1;rw [hla] at oa ⊢;have HOa:=Lib.hid oa;clear Sa oa ba hla
                  by_cases hlong : (Ms.bodyM x.m).length≤4096
                  · have hp : Ms.putM x.m = (Frame.frm (Ms.bodyM x.m),0):=by unfold Ms.putM;rw [if_pos HRR.out,if_pos (by omega)]
                    have HP:=Lib.hid hp;clear hp;go_wp2_with fail;refine (Frame.put_ok _ _ _ (Ms.bodyM x.m) wa.heap.size wa HOa.out.rd (Nat.le_refl _) hlong).mono ?_;rintro e wf ⟨Af,nf,cf,rfl,of,bf⟩;have Sf:=HSa.out.below bf;have e2 : wf.cell? ⟨g + 1,0,none⟩ = some (.int .i64 0):=Sf.ke.cell 0;have f2:=Sf.ke.free 0;have Se:=Sf.err;have e3 : World.cell? _ ⟨g + 1,0,none⟩ = some (.int .i64 0):=Se.ke.cell 0;have HSe:=Lib.hid (And.intro Se of);have hga : g + 1 < wa.heap.size:=HSa.out.ke.lt;clear Sf Se of bf;go_wp2_with fail;refine leaves_cons (f:=16) (args:=#[.pointer (some ⟨g + 1,0,none⟩)]) (by simp) (by simp [go_sem]) ?_;refine (mcaught_none _ _).mono ?_;rintro e u' w'' ⟨rfl,rfl,rfl⟩;refine ⟨.tuple #[.slice Af nf cf,.int .i64 0],by simp [results,Tryz.results12,go_sem,e3],Af,nf,cf,by rw [HP.out];rfl,?_,HSe.out.1.gb⟩;rw [HP.out]
                    exact (HSe.out.2.setFar (p:=⟨g + 1,0,none⟩) (by
                      intro hq;have h9 : wa.heap.size≤g + 1:=(HSe.out.2.lt _ hq).1
                      omega) _).mono (by have:=HSa.out.gb.size;omega)
                  · have hp : Ms.putM x.m = ([],6):=by unfold Ms.putM;rw [if_pos HRR.out,if_neg (by omega)]
                    have HP:=Lib.hid hp;clear hp;go_wp2_with fail;refine (Frame.put_long _ _ _ wa (by omega)).mono ?_;rintro e wf ⟨rfl,rfl⟩;have e2 : wa.cell? ⟨g + 1,0,none⟩ = some (.int .i64 0):=HSa.out.ke.cell 0;have f2:=HSa.out.ke.free 0;have k3:=HSa.out.ke.set_ 0 (.int .i64 6);have e3 : World.cell? _ ⟨g + 1,0,none⟩ = some (.int .i64 6):=k3.cell 0;have g3:=HSa.out.gb.setCell (p:=⟨g + 1,0,none⟩) (by show w.heap.size≤g + 1;omega) (.int .i64 6);have HG3:=Lib.hid g3;clear k3 g3;go_wp2_with fail;refine leaves_cons (f:=16) (args:=#[.pointer (some ⟨g + 1,0,none⟩)]) (by simp) (by simp [go_sem]) ?_;refine (mcaught_none _ _).mono ?_;rintro e u' w'' ⟨rfl,rfl,rfl⟩;refine ⟨.tuple #[.slice none 0 0,.int .i64 6],by simp [results,Tryz.results12,go_sem,e3],none,0,0,by rw [HP.out];rfl,by rw [HP.out];exact OwnB.nil _ _,HG3.out⟩
end Go.Proofs.YtcgalmnllegnbaaGreat

namespace Go.Proofs.YtcgalmnllegnbaaGreat
set_option linter.unusedVariables false
set_option linter.unusedSimpArgs false
set_option maxRecDepth 100000
open Go.RowKit
def QD (D : List Deferred) (Q : Exit→Act→World→Prop) : Exit→Act→World→Prop
  | .panic c,b,w=>b.defers = D→Q (.panic c) b w
  | e,b,w=>Q e b w
theorem wpD {P : Program} {o : Oper} {b : Act} {w : World} {K : Act→World→Prop} {Q : Exit→Act→World→Prop} {D : List Deferred} {c : Prop} [Decidable c] {E : Prop} (hb : b.defers = D)
    (h : if c then Oper.wp P o b w K (QD D Q) else E) : if c then Oper.wp P o b w K Q else E:=by
  split
  · rename_i hc
    rw [if_pos hc] at h
    unfold Oper.wp at *
    generalize (execOp b.eval o).run P w = r at *
    cases r with
    | ok n w' =>
      cases n <;> simp only [Oper.upon] at h ⊢ <;>
        first
          | exact h
          | exact Calls.mono h (fun e w'' he=>by cases e <;> first | exact he | exact he hb)
    | halt x w'=>cases x <;> simp only [Oper.upon] at h ⊢ <;> first | exact h | exact h hb
  · rename_i hc
    rw [if_neg hc] at h;exact h
theorem wp_region_tailD {P : Program} {ops : Array Oper} {Q : Exit→Act→World→Prop} (F n0 : Nat) (J : (Nat→Bool)→(Nat→Value)→World→Prop) (ds : List Nat) {id : Nat} {a : Act} {w : World} (hm : P.follows .mixedOrders = true)
    (htop : ((List.range ops.size).all fun i=>((ops[i]?).map fun o=>(waits .any o).all fun d=>decide (d < i)).getD true) = true)
    (hds : ((ops.toList.take n0).filterMap (fun o : Oper=>o.dst)) = ds) (hin : (ds.all fun d=>decide (d < a.tmps.size)) = true)
    (hn : decide (n0 < ops.size) = true) (hr : ((List.range ops.size).all fun t=>decide (t < n0) || (List.range t).all fun d=>(reach ops F t).contains d) = true)
    (h0 : ∀ L : Nat→Bool,(∀ i,i < n0→L i = false)→J L (fun s=>a.eval (.tmp s)) w.drew) (hst : FactSteps P ops (QD a.defers Q) J (List.range n0))
    (hend : ∀ (L : Nat→Bool) (v : Nat→Value) w',(∀ i,i < n0→L i = true)→J L v w'→wpList P ops Q (ops.toList.drop n0) (finA a v ds) w') : (Code.region id ops true).wp P Q a w:=by
  have hn : n0 < ops.size:=of_decide_eq_true hn
  have hdst : ∀ (i : Nat) (o : Oper) (k : Nat),i < n0→ops[i]? = some o→o.dst = some k→k ∈ ds:=fun i o k hi ho hk=>by
    rw [← hds,List.mem_filterMap];refine ⟨o,?_,hk⟩;rw [← Array.getElem?_toList] at ho
    have : (ops.toList.take n0)[i]? = some o:=by rw [List.getElem?_take,if_pos hi];exact ho
    exact List.mem_of_getElem? this
  have hlt : ∀ k,k ∈ ds→k < a.tmps.size:=fun k hk=>of_decide_eq_true (List.all_eq_true.1 hin k hk)
  have hbef : ∀ t,n0≤t→t < ops.size→∀ d,d < t→d ∈ reach ops F t:=fun t h1 h2 d hd=>by
    have h3:=List.all_eq_true.1 hr t (List.mem_range.2 h2);rw [Bool.or_eq_true] at h3
    rcases h3 with h3 | h3
    · have:=of_decide_eq_true h3;omega
    · have h4:=List.all_eq_true.1 h3 d (List.mem_range.2 hd)
      simpa using h4
  refine wp_region_inv (I:=fun L b w'=>(∀ i o,ops[i]? = some o→L i = true→∀ d ∈ waits .any o,L d = true)∧((∀ t,n0≤t→t < ops.size→L t = false)→Frm ops a b L∧J L (fun s=>b.eval (.tmp s)) w') ∧
    (∀ j,n0≤j→j < ops.size→L j = true→(∀ t,j < t→t < ops.size→L t = false)→wpList P ops Q (ops.toList.drop (j + 1)) b w')) hm htop ?_ ?_ ?_
  · intro L hL
    refine ⟨fun i o ho h=>?_,fun _=>⟨⟨rfl,rfl,fun _ _=>rfl,fun i o ho h=>?_⟩,h0 L fun i hi=>hL i (by omega)⟩,fun j h1 h2 h3=>?_⟩
    · rw [hL i (Array.getElem?_eq_some_iff.1 ho).1] at h;cases h
    · rw [hL i (Array.getElem?_eq_some_iff.1 ho).1] at h;cases h
    · rw [hL j h2] at h3;cases h3
  · refine ⟨fun i hi o L b w' ho hL hdep ⟨hcl,hF,hT⟩=>?_⟩
    have hin':=List.mem_range.1 hi
    have hcl' : ∀ i' o',ops[i']? = some o'→upd L i i' = true→∀ d ∈ waits .any o',upd L i d = true:=by
      intro i' o' ho' hl d hdw
      unfold upd at hl ⊢
      by_cases e : i' = i
      · subst e
        rw [ho] at ho'
        injection ho' with ho'
        subst ho';rw [hdep d hdw]
        split <;> rfl
      · rw [if_neg e] at hl
        rw [hcl i' o' ho' hl d hdw]
        split <;> rfl
    have hoff : ∀ t,n0≤t→i < t→t < ops.size→L t = false:=fun t h1 h2 h3=>by
      cases h : L t with
      | false=>rfl
      | true =>
        have:=reach_on hcl F t i (hbef t h1 h3 i h2) h
        rw [hL] at this
        cases this
    by_cases hc : i < n0
    · have hall : ∀ t,n0≤t→t < ops.size→L t = false:=fun t h1 h2=>hoff t h1 (by omega) h2
      obtain ⟨hF,hJ⟩:=hF hall
      refine wpOp_step ho fun K hK=>?_
      refine wpD hF.defers (hst.out i (List.mem_range.2 hc) o L b (fun s=>b.eval (.tmp s)) w' ho (fun _=>rfl) hL hdep hcl hJ K fun x w'' h=>hK _ _ ⟨hcl',fun _=>⟨⟨?_,?_,?_,hcl'⟩,?_⟩,fun j h1 h2 h3=>?_⟩)
      · rw [put_defers];exact hF.defers
      · rw [put_size];exact hF.size
      · intro s hs
        have hs' : ∀ i' o',ops[i']? = some o'→o'.dst = some s→L i' = false:=fun i' o' h1 h2=>by
          have:=hs i' o' h1 h2
          unfold upd at this
          split at this
          · cases this
          · exact this
        have hne : o.dst ≠ some s:=fun e=>by
          have:=hs i o ho e
          unfold upd at this
          rw [if_pos rfl] at this
          cases this
        cases hd : o.dst with
        | none=>exact hF.old s hs'
        | some k =>
          rw [put_slot,if_neg (fun e=>hne (by rw [hd,e.1])),hF.old s hs']
      · have he:=put_eval b o.dst x (fun k hk=>by rw [hF.size];exact hlt k (hdst i o k hc ho hk)) _ (fun _=>rfl)
        have : (fun s=>(b.put o.dst x).eval (.tmp s)) = upv (fun s=>b.eval (.tmp s)) o.dst x:=funext he;rw [this];exact h
      · unfold upd at h3
        rw [if_neg (by omega),hall j h1 h2] at h3
        cases h3
    · -- the tail
      have hbl : ∀ d,d < i→L d = true:=fun d hd=>by
        have hm:=hbef i (by omega) hin' d hd;have hup:=reach_on (L:=upd L i) hcl' F i d hm (by unfold upd;rw [if_pos rfl])
        unfold upd at hup
        rwa [if_neg (by omega)] at hup
      have hlist : wpList P ops Q (ops.toList.drop i) b w':=by
        by_cases e : i = n0
        · subst e
          obtain ⟨hF,hJ⟩:=hF fun t h1 h2=>by
            rcases Nat.lt_or_ge i t with h | h
            · exact hoff t h1 h h2
            · obtain rfl : t = i:=by omega
              exact hL
          have hb : b = finA a (fun s=>b.eval (.tmp s)) ds:=by
            have h1 : b.tmps = (finA a (fun s=>b.eval (.tmp s)) ds).tmps:=by
              apply Array.ext_getElem?
              intro s;rw [finA_get]
              by_cases hs : s ∈ ds
              · have hsl:=hlt s hs
                rw [if_pos ⟨hs,hsl⟩]
                show b.tmps[s]? = some (b.tmps.getD s undef)
                rw [Array.getD_eq_getD_getElem?,Array.getElem?_eq_getElem (by rw [hF.size];exact hsl)]
                rfl
              · rw [if_neg (fun h=>hs h.1)]
                refine hF.old s fun i' o' ho' hd=>?_
                rcases Nat.lt_or_ge i' i with h | h
                · exact absurd (hdst i' o' s h ho' hd) hs
                · rcases Nat.lt_or_ge i i' with h' | h'
                  · exact hoff i' (by omega) h' (Array.getElem?_eq_some_iff.1 ho').1
                  · obtain rfl : i' = i:=by omega
                    exact hL
            have h2 : b.defers = (finA a (fun s=>b.eval (.tmp s)) ds).defers:=by rw [finA_defers];exact hF.defers
            cases b
            generalize finA a _ ds = c at *
            cases c
            simp only at h1 h2
            rw [h1,h2]
          rw [hb];exact hend L _ w' (fun d hd=>hbl d hd) hJ
        · have:=hT (i - 1) (by omega) (by omega) (hbl _ (by omega)) fun t h1 h2=>by
            rcases Nat.lt_or_ge i t with h | h
            · exact hoff t (by omega) h h2
            · obtain rfl : t = i:=by omega
              exact hL
          rwa [show i - 1 + 1 = i by omega] at this
      have hdr : ops.toList.drop i = o :: ops.toList.drop (i + 1):=by
        rw [← Array.getElem?_toList] at ho;obtain ⟨h1,h2⟩:=List.getElem?_eq_some_iff.1 ho;rw [List.drop_eq_getElem_cons h1,h2]
      rw [hdr] at hlist
      have hwp : wpOp P ops Q i (wpList P ops Q (ops.toList.drop (i + 1))) b w':=by
        unfold wpOp
        rw [ho];exact hlist
      refine wpOp_mono (fun b' w'' h=>⟨hcl',fun hall=>?_,fun j h1 h2 h3 h4=>?_⟩) hwp
      · have:=hall i (by omega) hin'
        unfold upd at this
        rw [if_pos rfl] at this
        cases this
      · obtain rfl : j = i:=by
          rcases Nat.lt_trichotomy j i with h | h | h
          · have:=h4 i h hin'
            unfold upd at this
            rw [if_pos rfl] at this
            cases this
          · exact h
          · unfold upd at h3
            rw [if_neg (by omega),hoff j h1 h h2] at h3
            cases h3
        exact h
  · rintro L b w' hall ⟨_,_,hT⟩
    have:=hT (ops.size - 1) (by omega) (by omega) (hall _ (by omega)) fun t h1 h2=>by omega
    rw [show ops.size - 1 + 1 = ops.toList.length by simp;omega,List.drop_length] at this;exact this
theorem step_skipU {P : Program} {ops : Array Oper} {Q : Exit→Act→World→Prop} {o : Oper} {a : Act} {w : World} {K : Act→World→Prop} {j s : Nat} {b' : Bool} (hg : o.guard = some (j,b')) (hj : ((ops[j]?).bind fun o : Oper=>o.dst) = some s) (hv : a.eval (.tmp s) = undef) (h : K (a.put o.dst undef) w) :
    if Region.wanted o (yielded ops a.tmps) = true then Oper.wp P o a w K Q else K (a.put o.dst undef) w:=by
  have hy : yielded ops a.tmps j = none:=by
    have h1 : a.tmps.getD s undef = undef:=hv
    unfold yielded
    rw [hj,Option.bind_some];rw [Array.getD_eq_getD_getElem?] at h1
    cases h2 : a.tmps[s]? with
    | none=>rfl
    | some x =>
      rw [h2] at h1
      simp only [Option.getD_some] at h1
      subst h1
      rfl
  have hw : Region.wanted o (yielded ops a.tmps) = false:=by
    unfold Region.wanted
    rw [hg]
    simp only [hy]
    rfl
  rw [hw];exact h
end Go.Proofs.YtcgalmnllegnbaaGreat
