import Derived.Test.YtfpenfgmpbdakaaGreatMem
import Derived.RegionTactic
import Derived.Deep.RegionHeld
namespace Go.Proofs.YtfpenfgmpbdakaaGreat
set_option linter.unusedVariables false
set_option linter.unusedSimpArgs false
set_option maxRecDepth 100000
open Go.RowKit
def leftL (l : List Bool) : Nat:=(l.filter fun b=>!b).length
theorem leftL_set : ∀ (l : List Bool) (i : Nat),l[i]? = some false→leftL (l.set i true) + 1 = leftL l
  | [],i,h=>by simp at h
  | b :: l,0,h=>by
    simp at h
    subst h
    simp [leftL]
  | b :: l,i + 1,h=>by
    have ih:=leftL_set l i (by simpa using h)
    cases b
    · simp [leftL] at ih ⊢
      omega
    · simp [leftL] at ih ⊢
      omega
theorem leftL_zero : ∀ (l : List Bool),leftL l = 0→∀ (i : Nat) b,l[i]? = some b→b = true
  | [],_,i,b,h=>by simp at h
  | c :: l,h0,0,b,h=>by
    simp at h
    subst h
    cases c
    · simp [leftL] at h0
    · rfl
  | c :: l,h0,i + 1,b,h=>by
    refine leftL_zero l ?_ i b (by simpa using h)
    cases c
    · simp [leftL] at h0
    · simpa [leftL] using h0
def upd (L : Nat→Bool) (i : Nat) : Nat→Bool:=fun j=>if j = i then true else L j
section
variable {P : Program} {ops : Array Oper} {Q : Exit→Act→World→Prop} {md : Region.Mode} {I : (Nat→Bool)→Act→World→Prop}
theorem wpAny_inv (hstep : ∀ i o (L : Nat→Bool) a w,ops[i]? = some o→L i = false→(∀ e ∈ o.after,Region.binds md e = true→L e.on = true)→I L a w→wpOp P ops Q i (I (upd L i)) a w)
    (hend : ∀ (L : Nat→Bool) a w,(∀ i,i < ops.size→L i = true)→I L a w→Q .normal a w)
    (htop : ∀ i o,ops[i]? = some o→∀ e ∈ o.after,Region.binds md e = true→e.on < i) :
    ∀ (fuel : Nat) (listed : Array Bool) (a : Act) (w : World),listed.size = ops.size→leftL listed.toList≤fuel→I (fun i=>listed.getD i true) a w→wpAny P md ops Q fuel listed a w:=by
  have hall : ∀ (listed : Array Bool),listed.size = ops.size→Region.ready md ops listed = []→∀ i,i < ops.size→listed.getD i true = true:=by
    intro listed hs h0 i
    induction i using Nat.strongRecOn with
    | ind i ih =>
      intro hi
      false_or_by_contra
      rename_i hne
      have hf : listed.getD i true = false:=by simpa using hne
      have ho : ops[i]? = some ops[i]:=Array.getElem?_eq_getElem hi
      have hm : i ∈ Region.ready md ops listed:=mem_ready.2 ⟨hf,ops[i],ho,fun e he hb=>by
        have h1:=htop i _ ho e he hb;have h2:=ih e.on h1 (by omega);rw [Array.getD_eq_getD_getElem?,Array.getElem?_eq_getElem (by omega)] at h2 ⊢
        exact h2⟩
      rw [h0] at hm
      cases hm
  intro fuel
  induction fuel with
  | zero =>
    intro listed a w hs hl hI
    have ht : ∀ i,i < ops.size→listed.getD i true = true:=fun i hi=>by
      have h1 : listed.toList[i]? = some listed[i]:=by rw [Array.getElem?_toList,Array.getElem?_eq_getElem (by omega)]
      have h2:=leftL_zero _ (by omega) i _ h1;rw [Array.getD_eq_getD_getElem?,Array.getElem?_eq_getElem (by omega)];exact h2
    refine ⟨?_,hend _ a w ht hI⟩;rw [List.eq_nil_iff_forall_not_mem];intro j hj;obtain ⟨h1,o,ho,_⟩:=mem_ready.1 hj;rw [ht j (Array.getElem?_eq_some_iff.1 ho).1] at h1
    cases h1
  | succ fuel ih =>
    intro listed a w hs hl hI;refine ⟨fun h0=>hend _ a w (hall listed hs h0) hI,fun i hi=>?_⟩;obtain ⟨h1,o,ho,hd⟩:=mem_ready.1 hi
    have hlt : i < listed.size:=by have:=(Array.getElem?_eq_some_iff.1 ho).1;omega
    have hst:=hstep i o (fun i=>listed.getD i true) a w ho h1 (fun e he hb=>by
      have h2:=hd e he hb
      show listed.getD e.on true = true
      rcases Nat.lt_or_ge e.on listed.size with h | h
      · rw [Array.getD_eq_getD_getElem?,Array.getElem?_eq_getElem h] at h2 ⊢
        exact h2
      · rw [Array.getD_eq_getD_getElem?,Array.getElem?_eq_none h]
        rfl) hI
    refine wpOp_mono (fun a' w' h=>ih _ a' w' (by simpa using hs) ?_ ?_) hst
    · have h3 : listed.toList[i]? = some false:=by
        rw [Array.getElem?_toList,Array.getElem?_eq_getElem hlt];rw [Array.getD_eq_getD_getElem?,Array.getElem?_eq_getElem hlt] at h1;exact congrArg some h1
      have h4:=leftL_set _ i h3;rw [Array.toList_setIfInBounds]
      omega
    · have e : (fun j=>(listed.setIfInBounds i true).getD j true) = upd (fun j=>listed.getD j true) i:=by
        funext j
        unfold upd
        by_cases hj : j = i
        · subst hj
          rw [if_pos rfl,Array.getD_eq_getD_getElem?]
          simp [hlt]
        · rw [if_neg hj]
          show (listed.setIfInBounds i true).getD j true = listed.getD j true
          rw [Array.getD_eq_getD_getElem?,Array.getD_eq_getD_getElem?,Array.getElem?_setIfInBounds_ne (fun e=>hj e.symm)]
      rw [e];exact h
def waits (md : Region.Mode) (o : Oper) : List Nat:=(o.after.toList.filter fun e=>Region.binds md e).map (·.on)
structure InvSteps (P : Program) (md : Region.Mode) (ops : Array Oper) (Q : Exit→Act→World→Prop) (I : (Nat→Bool)→Act→World→Prop) (rs : List Nat) : Prop where
  out : ∀ i ∈ rs,∀ o (L : Nat→Bool) a w,ops[i]? = some o→L i = false→(∀ d ∈ waits md o,L d = true)→I L a w→wpOp P ops Q i (I (upd L i)) a w
theorem InvSteps.nil : InvSteps P md ops Q I []:=⟨fun _ h=>by cases h⟩
theorem InvSteps.cons {i : Nat} {o : Oper} {ds : List Nat} {rs : List Nat} (ho : ops[i]? = some o) (hd : waits md o = ds)
    (h : ∀ (L : Nat→Bool) (a : Act) (w : World),L i = false→(∀ d ∈ ds,L d = true)→I L a w→∀ K : Act→World→Prop,Shut (∀ a w,I (upd L i) a w→K a w)→if Region.wanted o (yielded ops a.tmps) = true then Oper.wp P o a w K Q else K (a.put o.dst undef) w)
    (hs : InvSteps P md ops Q I rs) : InvSteps P md ops Q I (i :: rs):=⟨fun j hj=>by
  rcases List.mem_cons.1 hj with rfl | hj
  · intro o' L a w ho' hL hdep hI
    rw [ho] at ho'
    injection ho' with ho'
    subst ho';rw [hd] at hdep;exact wpOp_step ho (fun K hK=>h L a w hL hdep hI K hK)
  · exact hs.out j hj⟩
theorem wp_region_inv (I : (Nat→Bool)→Act→World→Prop) {id : Nat} {a : Act} {w : World} (hm : P.follows .mixedOrders = true)
    (htop : ((List.range ops.size).all fun i=>((ops[i]?).map fun o=>(waits .any o).all fun d=>decide (d < i)).getD true) = true)
    (h0 : ∀ L : Nat→Bool,(∀ i,i < ops.size→L i = false)→I L a w.drew) (hst : InvSteps P .any ops Q I (List.range ops.size))
    (hend : ∀ (L : Nat→Bool) a w,(∀ i,i < ops.size→L i = true)→I L a w→Q .normal a w) : (Code.region id ops true).wp P Q a w:=by
  refine wp_region_any hm (wpAny_inv (I:=I) ?_ hend ?_ ops.size _ a _ (by simp) ?_ ?_)
  · intro i o L a w ho hL hdep hI
    refine hst.out i (List.mem_range.2 (Array.getElem?_eq_some_iff.1 ho).1) o L a w ho hL (fun d hd=>?_) hI
    unfold waits at hd
    obtain ⟨e,he,rfl⟩:=List.mem_map.1 hd;obtain ⟨h1,h2⟩:=List.mem_filter.1 he;exact hdep e (by simpa using h1) h2
  · intro i o ho e he hb
    have h1:=List.all_eq_true.1 htop i (List.mem_range.2 (Array.getElem?_eq_some_iff.1 ho).1);rw [ho] at h1
    simp only [Option.map_some,Option.getD_some] at h1
    have h2:=List.all_eq_true.1 h1 e.on (by
      unfold waits
      exact List.mem_map.2 ⟨e,List.mem_filter.2 ⟨by simpa using he,hb⟩,rfl⟩)
    exact of_decide_eq_true h2
  · rw [Array.toList_replicate]
    unfold leftL
    exact Nat.le_trans (List.length_filter_le _ _) (by simp)
  · have e : (fun i=>(Array.replicate ops.size false).getD i true) = fun i=>decide (ops.size≤i):=by
      funext i
      rw [Array.getD_eq_getD_getElem?,Array.getElem?_replicate]
      by_cases h : i < ops.size
      · rw [if_pos h]
        simp
        omega
      · rw [if_neg h]
        simp
        omega
    rw [e]
    exact h0 _ fun i hi=>decide_eq_false (by omega)
end
end Go.Proofs.YtfpenfgmpbdakaaGreat
