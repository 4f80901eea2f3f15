import Derived.Test.YtcgalmnllegnbaaMsgMath
import Derived.Test.YtcgalmnllegnbaaVintMath
namespace Go.Proofs.Ytcgalmnllegnbaa.Ms
set_option linter.unusedVariables false
set_option linter.unusedSimpArgs false
set_option maxRecDepth 100000
open Dot
open Evt (Ev inB inB_iff)
def nb (ns : List Int) : List UInt8:=ns.flatMap fun z=>Vint.enc z.toNat
theorem nb_cons (z : Int) (l : List Int) : nb (z :: l) = Vint.enc z.toNat ++ nb l:=rfl
theorem nb_app (a b : List Int) : nb (a ++ b) = nb a ++ nb b:=by unfold nb;rw [List.flatMap_append]
def zero : Msg:=⟨0,0,0,0,0,[0,0,0,0,0,0,0,0],[],[],[]⟩
def Small3 (l : List Mem) : Prop:=∀ v ∈ l,(0≤v.1∧v.1≤top)∧(0≤v.2.1∧v.2.1≤top)∧0≤v.2.2∧v.2.2≤top
theorem members_small {l : List Mem} (h : membersB l = true) : Small3 l:=fun v hv=>by
  obtain ⟨i,hi,rfl⟩:=List.getElem_of_mem hv;have h1:=(memAt_iff l i).1 ((members_iff l).1 h i hi);rw [List.getD_eq_getElem?_getD,List.getElem?_eq_getElem hi,Option.getD_some] at h1
  unfold top at *
  omega
theorem right_head {m : Msg} (h : rightM m = true) : (1≤m.kind∧m.kind≤5)∧(0≤m.frm∧m.frm≤7)∧(0≤m.to∧m.to≤7)∧membersB m.mem = true∧(0≤m.seq∧m.seq≤top)∧(0≤m.node∧m.node≤7)∧(m.kind = 5→m.seq = 0)∧(¬ (m.kind = 2∨m.kind = 3)→m.node = 0):=by
  obtain ⟨h1,h2,h3,_,_⟩:=(right_iff m).1 h
  unfold headB at h1
  simp only [Bool.and_eq_true,inB_iff,nodeB_iff] at h1
  obtain ⟨⟨⟨⟨a,b⟩,c⟩,_⟩,d⟩:=h1
  have hseq : m.seq≤top∧(m.kind = 5→m.seq = 0):=by
    unfold mostS at h2
    split at h2
    · exact ⟨by unfold top;omega,fun _=>by omega⟩
    · rename_i hk
      split at h2
      · exact ⟨by unfold top;omega,fun hk2=>absurd hk2 hk⟩
      · exact ⟨h2.2,fun hk2=>absurd hk2 hk⟩
  have hnode : (0≤m.node∧m.node≤7)∧(¬ (m.kind = 2∨m.kind = 3)→m.node = 0):=by
    unfold askNode at h3
    split at h3
    · rename_i hk
      exact ⟨(nodeB_iff _).1 h3,fun hk2=>absurd hk hk2⟩
    · have:=of_decide_eq_true h3
      exact ⟨by omega,fun _=>this⟩
  exact ⟨a,b,c,d,⟨h2.1,hseq.1⟩,hnode.1,hseq.2,hnode.2⟩
section
variable {G : Except Nat (Msg × List UInt8)} {m : Msg} {r ra rd rf : List UInt8} {a d f ea ed ef j : Nat}
end
end Go.Proofs.Ytcgalmnllegnbaa.Ms
