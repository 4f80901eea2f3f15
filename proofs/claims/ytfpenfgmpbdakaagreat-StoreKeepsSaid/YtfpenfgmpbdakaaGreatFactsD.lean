import Derived.Test.YtfpenfgmpbdakaaGreatFacts
namespace Go.Proofs.YtfpenfgmpbdakaaGreat
set_option linter.unusedVariables false
set_option linter.unusedSimpArgs false
set_option maxRecDepth 100000
open Go.RowKit
def QD (D : List Deferred) (Q : Exit→Act→World→Prop) : Exit→Act→World→Prop
  | .panic c,b,w=>b.defers = D→Q (.panic c) b w
  | e,b,w=>Q e b w
theorem wpD {P : Program} {o : Oper} {b : Act} {w : World} {K : Act→World→Prop} {Q : Exit→Act→World→Prop} {D : List Deferred} {c : Prop} [Decidable c] {E : Prop} (hb : b.defers = D)
    (h : if c then Oper.wp P o b w K (QD D Q) else E) : if c then Oper.wp P o b w K Q else E:=by
  split
  · rename_i hc
    rw [if_pos hc] at h
    unfold Oper.wp at *
    generalize (execOp b.eval o).run P w = r at *
    cases r with
    | ok n w' =>
      cases n <;> simp only [Oper.upon] at h ⊢ <;>
        first
          | exact h
          | exact Calls.mono h (fun e w'' he=>by cases e <;> first | exact he | exact he hb)
    | halt x w'=>cases x <;> simp only [Oper.upon] at h ⊢ <;> first | exact h | exact h hb
  · rename_i hc
    rw [if_neg hc] at h;exact h
theorem wp_region_tailD {P : Program} {ops : Array Oper} {Q : Exit→Act→World→Prop} (F n0 : Nat) (J : (Nat→Bool)→(Nat→Value)→World→Prop) (ds : List Nat) {id : Nat} {a : Act} {w : World} (hm : P.follows .mixedOrders = true)
    (htop : ((List.range ops.size).all fun i=>((ops[i]?).map fun o=>(waits .any o).all fun d=>decide (d < i)).getD true) = true)
    (hds : ((ops.toList.take n0).filterMap (fun o : Oper=>o.dst)) = ds) (hin : (ds.all fun d=>decide (d < a.tmps.size)) = true)
    (hn : decide (n0 < ops.size) = true) (hr : ((List.range ops.size).all fun t=>decide (t < n0) || (List.range t).all fun d=>(reach ops F t).contains d) = true)
    (h0 : ∀ L : Nat→Bool,(∀ i,i < n0→L i = false)→J L (fun s=>a.eval (.tmp s)) w.drew) (hst : FactSteps P ops (QD a.defers Q) J (List.range n0))
    (hend : ∀ (L : Nat→Bool) (v : Nat→Value) w',(∀ i,i < n0→L i = true)→J L v w'→wpList P ops Q (ops.toList.drop n0) (finA a v ds) w') : (Code.region id ops true).wp P Q a w:=by
  have hn : n0 < ops.size:=of_decide_eq_true hn
  have hdst : ∀ (i : Nat) (o : Oper) (k : Nat),i < n0→ops[i]? = some o→o.dst = some k→k ∈ ds:=fun i o k hi ho hk=>by
    rw [← hds,List.mem_filterMap];refine ⟨o,?_,hk⟩;rw [← Array.getElem?_toList] at ho
    have : (ops.toList.take n0)[i]? = some o:=by rw [List.getElem?_take,if_pos hi];exact ho
    exact List.mem_of_getElem? this
  have hlt : ∀ k,k ∈ ds→k < a.tmps.size:=fun k hk=>of_decide_eq_true (List.all_eq_true.1 hin k hk)
  have hbef : ∀ t,n0≤t→t < ops.size→∀ d,d < t→d ∈ reach ops F t:=fun t h1 h2 d hd=>by
    have h3:=List.all_eq_true.1 hr t (List.mem_range.2 h2);rw [Bool.or_eq_true] at h3
    rcases h3 with h3 | h3
    · have:=of_decide_eq_true h3;omega
    · have h4:=List.all_eq_true.1 h3 d (List.mem_range.2 hd)
      simpa using h4
  refine wp_region_inv (I:=fun L b w'=>(∀ i o,ops[i]? = some o→L i = true→∀ d ∈ waits .any o,L d = true)∧((∀ t,n0≤t→t < ops.size→L t = false)→Frm ops a b L∧J L (fun s=>b.eval (.tmp s)) w') ∧
    (∀ j,n0≤j→j < ops.size→L j = true→(∀ t,j < t→t < ops.size→L t = false)→wpList P ops Q (ops.toList.drop (j + 1)) b w')) hm htop ?_ ?_ ?_
  · intro L hL
    refine ⟨fun i o ho h=>?_,fun _=>⟨⟨rfl,rfl,fun _ _=>rfl,fun i o ho h=>?_⟩,h0 L fun i hi=>hL i (by omega)⟩,fun j h1 h2 h3=>?_⟩
    · rw [hL i (Array.getElem?_eq_some_iff.1 ho).1] at h;cases h
    · rw [hL i (Array.getElem?_eq_some_iff.1 ho).1] at h;cases h
    · rw [hL j h2] at h3;cases h3
  · refine ⟨fun i hi o L b w' ho hL hdep ⟨hcl,hF,hT⟩=>?_⟩
    have hin':=List.mem_range.1 hi
    have hcl' : ∀ i' o',ops[i']? = some o'→upd L i i' = true→∀ d ∈ waits .any o',upd L i d = true:=by
      intro i' o' ho' hl d hdw
      unfold upd at hl ⊢
      by_cases e : i' = i
      · subst e
        rw [ho] at ho'
        injection ho' with ho'
        subst ho';rw [hdep d hdw]
        split <;> rfl
      · rw [if_neg e] at hl
        rw [hcl i' o' ho' hl d hdw]
        split <;> rfl
    have hoff : ∀ t,n0≤t→i < t→t < ops.size→L t = false:=fun t h1 h2 h3=>by
      cases h : L t with
      | false=>rfl
      | true =>
        have:=reach_on hcl F t i (hbef t h1 h3 i h2) h
        rw [hL] at this
        cases this
    by_cases hc : i < n0
    · have hall : ∀ t,n0≤t→t < ops.size→L t = false:=fun t h1 h2=>hoff t h1 (by omega) h2
      obtain ⟨hF,hJ⟩:=hF hall
      refine wpOp_step ho fun K hK=>?_
      refine wpD hF.defers (hst.out i (List.mem_range.2 hc) o L b (fun s=>b.eval (.tmp s)) w' ho (fun _=>rfl) hL hdep hcl hJ K fun x w'' h=>hK _ _ ⟨hcl',fun _=>⟨⟨?_,?_,?_,hcl'⟩,?_⟩,fun j h1 h2 h3=>?_⟩)
      · rw [put_defers];exact hF.defers
      · rw [put_size];exact hF.size
      · intro s hs
        have hs' : ∀ i' o',ops[i']? = some o'→o'.dst = some s→L i' = false:=fun i' o' h1 h2=>by
          have:=hs i' o' h1 h2
          unfold upd at this
          split at this
          · cases this
          · exact this
        have hne : o.dst ≠ some s:=fun e=>by
          have:=hs i o ho e
          unfold upd at this
          rw [if_pos rfl] at this
          cases this
        cases hd : o.dst with
        | none=>exact hF.old s hs'
        | some k =>
          rw [put_slot,if_neg (fun e=>hne (by rw [hd,e.1])),hF.old s hs']
      · have he:=put_eval b o.dst x (fun k hk=>by rw [hF.size];exact hlt k (hdst i o k hc ho hk)) _ (fun _=>rfl)
        have : (fun s=>(b.put o.dst x).eval (.tmp s)) = upv (fun s=>b.eval (.tmp s)) o.dst x:=funext he;rw [this];exact h
      · unfold upd at h3
        rw [if_neg (by omega),hall j h1 h2] at h3
        cases h3
    · -- the tail
      have hbl : ∀ d,d < i→L d = true:=fun d hd=>by
        have hm:=hbef i (by omega) hin' d hd;have hup:=reach_on (L:=upd L i) hcl' F i d hm (by unfold upd;rw [if_pos rfl])
        unfold upd at hup
        rwa [if_neg (by omega)] at hup
      have hlist : wpList P ops Q (ops.toList.drop i) b w':=by
        by_cases e : i = n0
        · subst e
          obtain ⟨hF,hJ⟩:=hF fun t h1 h2=>by
            rcases Nat.lt_or_ge i t with h | h
            · exact hoff t h1 h h2
            · obtain rfl : t = i:=by omega
              exact hL
          have hb : b = finA a (fun s=>b.eval (.tmp s)) ds:=by
            have h1 : b.tmps = (finA a (fun s=>b.eval (.tmp s)) ds).tmps:=by
              apply Array.ext_getElem?
              intro s;rw [finA_get]
              by_cases hs : s ∈ ds
              · have hsl:=hlt s hs
                rw [if_pos ⟨hs,hsl⟩]
                show b.tmps[s]? = some (b.tmps.getD s undef)
                rw [Array.getD_eq_getD_getElem?,Array.getElem?_eq_getElem (by rw [hF.size];exact hsl)]
                rfl
              · rw [if_neg (fun h=>hs h.1)]
                refine hF.old s fun i' o' ho' hd=>?_
                rcases Nat.lt_or_ge i' i with h | h
                · exact absurd (hdst i' o' s h ho' hd) hs
                · rcases Nat.lt_or_ge i i' with h' | h'
                  · exact hoff i' (by omega) h' (Array.getElem?_eq_some_iff.1 ho').1
                  · obtain rfl : i' = i:=by omega
                    exact hL
            have h2 : b.defers = (finA a (fun s=>b.eval (.tmp s)) ds).defers:=by rw [finA_defers];exact hF.defers
            cases b
            generalize finA a _ ds = c at *
            cases c
            simp only at h1 h2
            rw [h1,h2]
          rw [hb];exact hend L _ w' (fun d hd=>hbl d hd) hJ
        · have:=hT (i - 1) (by omega) (by omega) (hbl _ (by omega)) fun t h1 h2=>by
            rcases Nat.lt_or_ge i t with h | h
            · exact hoff t (by omega) h h2
            · obtain rfl : t = i:=by omega
              exact hL
          rwa [show i - 1 + 1 = i by omega] at this
      have hdr : ops.toList.drop i = o :: ops.toList.drop (i + 1):=by
        rw [← Array.getElem?_toList] at ho;obtain ⟨h1,h2⟩:=List.getElem?_eq_some_iff.1 ho;rw [List.drop_eq_getElem_cons h1,h2]
      rw [hdr] at hlist
      have hwp : wpOp P ops Q i (wpList P ops Q (ops.toList.drop (i + 1))) b w':=by
        unfold wpOp
        rw [ho];exact hlist
      refine wpOp_mono (fun b' w'' h=>⟨hcl',fun hall=>?_,fun j h1 h2 h3 h4=>?_⟩) hwp
      · have:=hall i (by omega) hin'
        unfold upd at this
        rw [if_pos rfl] at this
        cases this
      · obtain rfl : j = i:=by
          rcases Nat.lt_trichotomy j i with h | h | h
          · have:=h4 i h hin'
            unfold upd at this
            rw [if_pos rfl] at this
            cases this
          · exact h
          · unfold upd at h3
            rw [if_neg (by omega),hoff j h1 h h2] at h3
            cases h3
        exact h
  · rintro L b w' hall ⟨_,_,hT⟩
    have:=hT (ops.size - 1) (by omega) (by omega) (hall _ (by omega)) fun t h1 h2=>by omega
    rw [show ops.size - 1 + 1 = ops.toList.length by simp;omega,List.drop_length] at this;exact this
end Go.Proofs.YtfpenfgmpbdakaaGreat
