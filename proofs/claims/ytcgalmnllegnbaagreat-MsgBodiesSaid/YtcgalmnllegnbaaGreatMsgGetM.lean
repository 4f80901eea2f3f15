import Derived.Test.YtcgalmnllegnbaaGreatMsgMath
import Derived.Test.YtcgalmnllegnbaaGreatVintMath
namespace Go.Proofs.YtcgalmnllegnbaaGreat.Ms
set_option linter.unusedVariables false
set_option linter.unusedSimpArgs false
set_option maxRecDepth 100000
open Dot
open Evt (Ev inB inB_iff)
def nb (ns : List Int) : List UInt8:=ns.flatMap fun z=>Vint.enc z.toNat
theorem nb_cons (z : Int) (l : List Int) : nb (z :: l) = Vint.enc z.toNat ++ nb l:=rfl
theorem nb_app (a b : List Int) : nb (a ++ b) = nb a ++ nb b:=by unfold nb;rw [List.flatMap_append]
theorem intM_ne {l : List UInt8} {e : Nat} (h : e ≠ 0) : Vint.intM l e = (0,l,e):=by unfold Vint.intM;rw [if_neg h]
theorem intM_bad {l : List UInt8} {x : Nat} (h : Vint.dec l = .error x) : Vint.intM l 0 = (0,l,x):=by simp [Vint.intM,h]
theorem intRel {α : Type} {G : Except Nat α} {F : Nat→List UInt8→Except Nat α} {r rz : List UInt8} {e z ez : Nat}
    (h : (e = 0∧G = (match Vint.dec r with | .error y=>.error y | .ok (z,r')=>F z r'))∨(e ≠ 0∧G = .error e)) (hI : Vint.intM r e = (z,rz,ez)) :
    (ez = 0∧G = F z rz)∨(ez ≠ 0∧G = .error ez):=by
  by_cases he : e = 0
  · subst he
    have hG:=(h.resolve_right (fun x=>x.1 rfl)).2
    cases hd : Vint.dec r with
    | error y =>
      rw [intM_bad hd] at hI
      injection hI with i1 i2
      injection i2 with i2 i3
      subst i1 i2 i3
      have:=Vint.dec_err hd
      exact .inr ⟨by omega,by rw [hG,hd]⟩
    | ok q =>
      obtain ⟨z',r'⟩:=q;rw [Vint.intM_ok hd] at hI
      injection hI with i1 i2
      injection i2 with i2 i3
      subst i1 i2 i3;exact .inl ⟨rfl,by rw [hG,hd]⟩
  · rw [intM_ne he] at hI
    injection hI with i1 i2
    injection i2 with i2 i3
    subst i1 i2 i3;exact .inr (h.resolve_left (fun x=>he x.1))
def tripE (bs : List UInt8) : Except Nat (Mem × List UInt8) :=
  match Vint.dec bs with
  | .error y=>.error y
  | .ok (a,r)=>match Vint.dec r with
    | .error y=>.error y
    | .ok (c,r')=>match Vint.dec r' with
      | .error y=>.error y
      | .ok (d,r'')=>.ok (((a : Nat),(c : Nat),(d : Nat)),r'')
def tripsE : Nat→List Mem→List UInt8→Except Nat (List Mem × List UInt8)
  | 0,l,bs=>.ok (l,bs)
  | k + 1,l,bs=>match tripE bs with
    | .error y=>.error y
    | .ok (v,r)=>tripsE k (l ++ [v]) r
def nodeE (m : Msg) (r : List UInt8) : Except Nat (Msg × List UInt8) :=
  if m.kind = 2∨m.kind = 3 then (match Vint.dec r with | .error y=>.error y | .ok (z,r')=>.ok ({ m with node:=(z : Nat) },r')) else .ok (m,r)
def seqE (m : Msg) (r : List UInt8) : Except Nat (Msg × List UInt8) :=
  if m.kind ≠ 5 then (match Vint.dec r with | .error y=>.error y | .ok (z,r')=>nodeE { m with seq:=(z : Nat) } r') else nodeE m r
def memE (m : Msg) (j : Nat) (r : List UInt8) : Except Nat (Msg × List UInt8) :=
  match tripsE j m.mem r with
  | .error y=>.error y
  | .ok (l,r')=>seqE { m with mem:=l } r'
def cntE (m : Msg) (r : List UInt8) : Except Nat (Msg × List UInt8) :=
  match Vint.dec r with
  | .error y=>.error y
  | .ok (n,r')=>if n≤8 then memE m n r' else .error 6
def toE (m : Msg) (r : List UInt8) : Except Nat (Msg × List UInt8) :=
  match Vint.dec r with
  | .error y=>.error y
  | .ok (z,r')=>cntE { m with «to»:=(z : Nat) } r'
def frmE (m : Msg) (r : List UInt8) : Except Nat (Msg × List UInt8) :=
  match Vint.dec r with
  | .error y=>.error y
  | .ok (z,r')=>toE { m with frm:=(z : Nat) } r'
def zero : Msg:=⟨0,0,0,0,0,[0,0,0,0,0,0,0,0],[],[],[]⟩
def headE (r : List UInt8) : Except Nat (Msg × List UInt8) :=
  match Vint.dec r with
  | .error y=>.error y
  | .ok (k,r')=>if 1≤k∧k≤5 then frmE { zero with kind:=(k : Nat) } r' else .error 4
def Small3 (l : List Mem) : Prop:=∀ v ∈ l,(0≤v.1∧v.1≤top)∧(0≤v.2.1∧v.2.1≤top)∧0≤v.2.2∧v.2.2≤top
theorem members_small {l : List Mem} (h : membersB l = true) : Small3 l:=fun v hv=>by
  obtain ⟨i,hi,rfl⟩:=List.getElem_of_mem hv;have h1:=(memAt_iff l i).1 ((members_iff l).1 h i hi);rw [List.getD_eq_getElem?_getD,List.getElem?_eq_getElem hi,Option.getD_some] at h1
  unfold top at *
  omega
theorem right_head {m : Msg} (h : rightM m = true) : (1≤m.kind∧m.kind≤5)∧(0≤m.frm∧m.frm≤7)∧(0≤m.to∧m.to≤7)∧membersB m.mem = true∧(0≤m.seq∧m.seq≤top)∧(0≤m.node∧m.node≤7)∧(m.kind = 5→m.seq = 0)∧(¬ (m.kind = 2∨m.kind = 3)→m.node = 0):=by
  obtain ⟨h1,h2,h3,_,_⟩:=(right_iff m).1 h
  unfold headB at h1
  simp only [Bool.and_eq_true,inB_iff,nodeB_iff] at h1
  obtain ⟨⟨⟨⟨a,b⟩,c⟩,_⟩,d⟩:=h1
  have hseq : m.seq≤top∧(m.kind = 5→m.seq = 0):=by
    unfold mostS at h2
    split at h2
    · exact ⟨by unfold top;omega,fun _=>by omega⟩
    · rename_i hk
      split at h2
      · exact ⟨by unfold top;omega,fun hk2=>absurd hk2 hk⟩
      · exact ⟨h2.2,fun hk2=>absurd hk2 hk⟩
  have hnode : (0≤m.node∧m.node≤7)∧(¬ (m.kind = 2∨m.kind = 3)→m.node = 0):=by
    unfold askNode at h3
    split at h3
    · rename_i hk
      exact ⟨(nodeB_iff _).1 h3,fun hk2=>absurd hk hk2⟩
    · have:=of_decide_eq_true h3
      exact ⟨by omega,fun _=>this⟩
  exact ⟨a,b,c,d,⟨h2.1,hseq.1⟩,hnode.1,hseq.2,hnode.2⟩
theorem intM_ne0 {l : List UInt8} {x : Nat} (h : Vint.dec l = .error x) : x ≠ 0:=by have:=Vint.dec_err h;omega
theorem tripE_int (r : List UInt8) : tripE r =
    (let x:=Vint.intM r 0
     let y:=Vint.intM x.2.1 x.2.2
     let z:=Vint.intM y.2.1 y.2.2
     if z.2.2 ≠ 0 then .error z.2.2 else .ok (((x.1 : Nat),(y.1 : Nat),(z.1 : Nat)),z.2.1)):=by
  unfold tripE
  cases hd : Vint.dec r with
  | error e=>simp [intM_bad hd,intM_ne (intM_ne0 hd),intM_ne0 hd]
  | ok q =>
    obtain ⟨a,r1⟩:=q
    simp only [Vint.intM_ok hd]
    cases hd2 : Vint.dec r1 with
    | error e=>simp [intM_bad hd2,intM_ne (intM_ne0 hd2),intM_ne0 hd2]
    | ok q2 =>
      obtain ⟨c,r2⟩:=q2
      simp only [Vint.intM_ok hd2]
      cases hd3 : Vint.dec r2 with
      | error e=>simp [intM_bad hd3,intM_ne0 hd3]
      | ok q3 =>
        obtain ⟨d,r3⟩:=q3
        simp [Vint.intM_ok hd3]
theorem memE_err {m : Msg} {j : Nat} {r : List UInt8} {y : Nat} (h : tripE r = .error y) : memE m (j + 1) r = .error y:=by
  unfold memE tripsE
  rw [h]
theorem memE_on {m : Msg} {j : Nat} {r r' : List UInt8} {v : Mem} (h : tripE r = .ok (v,r')) : memE m (j + 1) r = memE { m with mem:=m.mem ++ [v] } j r':=by
  unfold memE
  conv=>lhs;unfold tripsE
  rw [h]
section
variable {G : Except Nat (Msg × List UInt8)} {m : Msg} {r ra rd rf : List UInt8} {a d f ea ed ef j : Nat}
theorem memRel (hC : G = memE m (j + 1) r) (h1 : Vint.intM r 0 = (a,ra,ea)) (h2 : Vint.intM ra ea = (d,rd,ed)) (h3 : Vint.intM rd ed = (f,rf,ef)) :
    (ef = 0∧G = memE { m with mem:=m.mem ++ [(((a : Int),(d : Int),(f : Int)) : Mem)] } j rf)∨(ef ≠ 0∧G = .error ef):=by
  have hs:=tripE_int r
  simp only [h1,h2,h3] at hs
  by_cases he : ef = 0
  · subst he
    simp only [ne_eq,not_true_eq_false,if_false] at hs
    exact .inl ⟨rfl,by rw [hC,memE_on hs]⟩
  · rw [if_pos he] at hs
    exact .inr ⟨he,by rw [hC,memE_err hs]⟩
theorem cntRel {e z ez : Nat} {rz : List UInt8} (h : (e = 0∧G = cntE m r)∨(e ≠ 0∧G = .error e)) (hI : Vint.intM r e = (z,rz,ez)) :
    (ez = 0∧G = (if z≤8 then memE m z rz else .error 6))∨(ez ≠ 0∧G = .error ez):=intRel (F:=fun n r'=>if n≤8 then memE m n r' else .error 6) h hI
theorem frmRel {e z ez : Nat} {rz : List UInt8} (h : (e = 0∧G = frmE m r)∨(e ≠ 0∧G = .error e)) (hI : Vint.intM r e = (z,rz,ez)) :
    (ez = 0∧G = toE { m with frm:=(z : Nat) } rz)∨(ez ≠ 0∧G = .error ez):=intRel (F:=fun z r'=>toE { m with frm:=(z : Nat) } r') h hI
theorem toRel {e z ez : Nat} {rz : List UInt8} (h : (e = 0∧G = toE m r)∨(e ≠ 0∧G = .error e)) (hI : Vint.intM r e = (z,rz,ez)) :
    (ez = 0∧G = cntE { m with «to»:=(z : Nat) } rz)∨(ez ≠ 0∧G = .error ez):=intRel (F:=fun z r'=>cntE { m with «to»:=(z : Nat) } r') h hI
theorem seqRel {e z ez : Nat} {rz : List UInt8} (hk : m.kind ≠ 5) (h : (e = 0∧G = seqE m r)∨(e ≠ 0∧G = .error e)) (hI : Vint.intM r e = (z,rz,ez)) :
    (ez = 0∧G = nodeE { m with seq:=(z : Nat) } rz)∨(ez ≠ 0∧G = .error ez):=by
  refine intRel (F:=fun z r'=>nodeE { m with seq:=(z : Nat) } r') ?_ hI
  rcases h with ⟨h1,h2⟩ | h
  · exact .inl ⟨h1,by rw [h2];unfold seqE;rw [if_pos hk]⟩
  · exact .inr h
theorem nodeRel {e z ez : Nat} {rz : List UInt8} (hk : m.kind = 2∨m.kind = 3) (h : (e = 0∧G = nodeE m r)∨(e ≠ 0∧G = .error e)) (hI : Vint.intM r e = (z,rz,ez)) :
    (ez = 0∧G = .ok ({ m with node:=(z : Nat) },rz))∨(ez ≠ 0∧G = .error ez):=by
  refine intRel (F:=fun z r'=>.ok ({ m with node:=(z : Nat) },r')) ?_ hI
  rcases h with ⟨h1,h2⟩ | h
  · exact .inl ⟨h1,by rw [h2];unfold nodeE;rw [if_pos hk]⟩
  · exact .inr h
theorem node_skip (hk : ¬ (m.kind = 2∨m.kind = 3)) : nodeE m r = .ok (m,r):=by unfold nodeE;rw [if_neg hk]
theorem kindRel {z ez : Nat} {rz : List UInt8} (hI : Vint.intM r 0 = (z,rz,ez)) :
    (ez = 0∧headE r = (if 1≤z∧z≤5 then frmE { zero with kind:=(z : Nat) } rz else .error 4))∨(ez ≠ 0∧headE r = .error ez) :=
  intRel (G:=headE r) (F:=fun k r'=>if 1≤k∧k≤5 then frmE { zero with kind:=(k : Nat) } r' else .error 4) (.inl ⟨rfl,rfl⟩) hI
end
end Go.Proofs.YtcgalmnllegnbaaGreat.Ms
