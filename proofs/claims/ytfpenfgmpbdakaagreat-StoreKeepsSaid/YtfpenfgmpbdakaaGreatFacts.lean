import Derived.Test.YtfpenfgmpbdakaaGreatInv
import Derived.Test.YtfpenfgmpbdakaaGreatQuiet
namespace Go.Proofs.YtfpenfgmpbdakaaGreat
set_option linter.unusedVariables false
set_option linter.unusedSimpArgs false
set_option maxRecDepth 100000
open Go.RowKit
def upv (v : Nat→Value) (d : Option Nat) (x : Value) : Nat→Value:=match d with
  | some d=>fun s=>if s = d then x else v s
  | none=>v
def finA (a : Act) (v : Nat→Value) (ds : List Nat) : Act:=ds.foldl (fun b d=>b.put (some d) (v d)) a
structure Frm (ops : Array Oper) (a0 a : Act) (L : Nat→Bool) : Prop where
  defers : a.defers = a0.defers
  size : a.tmps.size = a0.tmps.size
  old : ∀ s,(∀ i o,ops[i]? = some o→o.dst = some s→L i = false)→a.tmps[s]? = a0.tmps[s]?
  closed : ∀ i o,ops[i]? = some o→L i = true→∀ d ∈ waits .any o,L d = true
theorem put_size (a : Act) (d : Option Nat) (x : Value) : (a.put d x).tmps.size = a.tmps.size:=by
  unfold Act.put
  cases d <;> simp
theorem put_defers (a : Act) (d : Option Nat) (x : Value) : (a.put d x).defers = a.defers:=by
  unfold Act.put
  cases d <;> rfl
theorem put_slot (a : Act) (d : Nat) (x : Value) (s : Nat) : (a.put (some d) x).tmps[s]? = if s = d∧d < a.tmps.size then some x else a.tmps[s]?:=by
  unfold Act.put
  simp only [Array.getElem?_setIfInBounds]
  by_cases e : d = s
  · subst e
    by_cases h : d < a.tmps.size
    · simp [h]
    · simp [h]
  · rw [if_neg e,if_neg (fun h=>e h.1.symm)]
theorem put_eval (a : Act) (d : Option Nat) (x : Value) (hd : ∀ k,d = some k→k < a.tmps.size) (v : Nat→Value) (hv : ∀ s,a.eval (.tmp s) = v s) : ∀ s,(a.put d x).eval (.tmp s) = upv v d x s:=by
  intro s
  cases d with
  | none=>exact hv s
  | some k =>
    have hk:=hd k rfl
    show (a.put (some k) x).tmps.getD s undef = if s = k then x else v s
    rw [Array.getD_eq_getD_getElem?,put_slot]
    by_cases e : s = k
    · rw [if_pos ⟨e,hk⟩,if_pos e];rfl
    · rw [if_neg (fun h=>e h.1),if_neg e,← hv s]
      show _ = a.tmps.getD s undef
      rw [Array.getD_eq_getD_getElem?]
theorem finA_get (v : Nat→Value) (s : Nat) : ∀ (ds : List Nat) (a : Act),(finA a v ds).tmps[s]? = if s ∈ ds∧s < a.tmps.size then some (v s) else a.tmps[s]?:=by
  intro ds
  induction ds with
  | nil=>intro a;simp [finA]
  | cons d ds ih =>
    intro a
    show (finA (a.put (some d) (v d)) v ds).tmps[s]? = _
    rw [ih,put_size,put_slot]
    by_cases e : s = d
    · subst e
      by_cases h : s < a.tmps.size
      · rw [if_pos (⟨List.mem_cons_self ..,h⟩ : s ∈ s :: ds∧_)]
        by_cases hm : s ∈ ds
        · rw [if_pos ⟨hm,h⟩]
        · rw [if_neg (fun x=>hm x.1),if_pos ⟨rfl,h⟩]
      · rw [if_neg (fun x=>h x.2),if_neg (fun x=>h x.2),if_neg (fun x=>h x.2)]
    · rw [if_neg (fun x : s = d∧_=>e x.1)]
      by_cases hm : s ∈ ds∧s < a.tmps.size
      · rw [if_pos hm,if_pos ⟨List.mem_cons_of_mem _ hm.1,hm.2⟩]
      · rw [if_neg hm,if_neg (fun x=>hm ⟨(List.mem_cons.1 x.1).resolve_left e,x.2⟩)]
theorem finA_defers (v : Nat→Value) : ∀ (ds : List Nat) (a : Act),(finA a v ds).defers = a.defers:=by
  intro ds
  induction ds with
  | nil=>intro a;rfl
  | cons d ds ih=>intro a;exact (ih _).trans (put_defers ..)
section
variable {P : Program} {ops : Array Oper} {Q : Exit→Act→World→Prop} {J : (Nat→Bool)→(Nat→Value)→World→Prop}
structure FactSteps (P : Program) (ops : Array Oper) (Q : Exit→Act→World→Prop) (J : (Nat→Bool)→(Nat→Value)→World→Prop) (rs : List Nat) : Prop where
  out : ∀ i ∈ rs,∀ o (L : Nat→Bool) (a : Act) (v : Nat→Value) w,ops[i]? = some o→(∀ s,a.eval (.tmp s) = v s)→L i = false→(∀ d ∈ waits .any o,L d = true)→(∀ i o,ops[i]? = some o→L i = true→∀ d ∈ waits .any o,L d = true)→J L v w →
    ∀ K : Act→World→Prop,Shut (∀ x w',J (upd L i) (upv v o.dst x) w'→K (a.put o.dst x) w')→if Region.wanted o (yielded ops a.tmps) = true then Oper.wp P o a w K Q else K (a.put o.dst undef) w
theorem FactSteps.nil : FactSteps P ops Q J []:=⟨fun _ h=>by cases h⟩
theorem FactSteps.cons {i : Nat} {o : Oper} {ds : List Nat} {rs : List Nat} (ho' : ops.toList[i]? = some o) (hd : waits .any o = ds)
    (h : ∀ (L : Nat→Bool) (a : Act) (v : Nat→Value) (w : World),(∀ s : Nat,a.eval (.tmp s) = v s)→(∀ s : Nat,(a.tmps[s]?).getD undef = v s)→L i = false→(∀ d ∈ ds,L d = true)→(∀ i o,ops[i]? = some o→L i = true→∀ d ∈ waits .any o,L d = true)→J L v w →
      ∀ K : Act→World→Prop,Shut (∀ x w',J (upd L i) (upv v o.dst x) w'→K (a.put o.dst x) w')→if Region.wanted o (yielded ops a.tmps) = true then Oper.wp P o a w K Q else K (a.put o.dst undef) w)
    (hs : FactSteps P ops Q J rs) : FactSteps P ops Q J (i :: rs):=⟨fun j hj=>by
  rcases List.mem_cons.1 hj with rfl | hj
  · intro o' L a v w ho hv hL hdep hcl hJ K hK
    rw [← Array.getElem?_toList,ho'] at ho
    injection ho with ho
    subst ho;rw [hd] at hdep;refine h L a v w hv (fun s=>?_) hL hdep hcl hJ K hK;rw [← hv s]
    show _ = a.tmps.getD s undef
    rw [Array.getD_eq_getD_getElem?]
  · exact hs.out j hj⟩
theorem wp_region_facts (J : (Nat→Bool)→(Nat→Value)→World→Prop) (ds : List Nat) {id : Nat} {a : Act} {w : World} (hm : P.follows .mixedOrders = true)
    (htop : ((List.range ops.size).all fun i=>((ops[i]?).map fun o=>(waits .any o).all fun d=>decide (d < i)).getD true) = true)
    (hds : (ops.toList.filterMap (fun o : Oper=>o.dst)) = ds) (hin : (ds.all fun d=>decide (d < a.tmps.size)) = true)
    (h0 : ∀ L : Nat→Bool,(∀ i,i < ops.size→L i = false)→J L (fun s=>a.eval (.tmp s)) w.drew) (hst : FactSteps P ops Q J (List.range ops.size))
    (hend : ∀ (L : Nat→Bool) (v : Nat→Value) w',(∀ i,i < ops.size→L i = true)→J L v w'→Q .normal (finA a v ds) w') : (Code.region id ops true).wp P Q a w:=by
  have hdst : ∀ (i : Nat) (o : Oper) (k : Nat),ops[i]? = some o→o.dst = some k→k ∈ ds:=fun i o k ho hk=>by
    rw [← hds,List.mem_filterMap];exact ⟨o,by rw [← Array.getElem?_toList] at ho;exact List.mem_of_getElem? ho,hk⟩
  have hlt : ∀ k,k ∈ ds→k < a.tmps.size:=fun k hk=>of_decide_eq_true (List.all_eq_true.1 hin k hk)
  refine wp_region_inv (I:=fun L b w'=>Frm ops a b L∧J L (fun s=>b.eval (.tmp s)) w') hm htop ?_ ?_ ?_
  · intro L hL
    refine ⟨⟨rfl,rfl,fun _ _=>rfl,fun i o ho h=>?_⟩,h0 L hL⟩;rw [hL i (Array.getElem?_eq_some_iff.1 ho).1] at h
    cases h
  · refine ⟨fun i hi o L b w' ho hL hdep ⟨hF,hJ⟩=>wpOp_step ho fun K hK=>?_⟩
    refine hst.out i hi o L b (fun s=>b.eval (.tmp s)) w' ho (fun _=>rfl) hL hdep hF.closed hJ K fun x w'' h=>hK _ _ ⟨⟨?_,?_,?_,?_⟩,?_⟩
    · rw [put_defers];exact hF.defers
    · rw [put_size];exact hF.size
    · intro s hs
      have hs' : ∀ i' o',ops[i']? = some o'→o'.dst = some s→L i' = false:=fun i' o' h1 h2=>by
        have:=hs i' o' h1 h2
        unfold upd at this
        split at this
        · cases this
        · exact this
      have hne : o.dst ≠ some s:=fun e=>by
        have:=hs i o ho e
        unfold upd at this
        rw [if_pos rfl] at this
        cases this
      cases hd : o.dst with
      | none=>exact hF.old s hs'
      | some k =>
        rw [put_slot,if_neg (fun e=>hne (by rw [hd,e.1])),hF.old s hs']
    · intro i' o' ho' hl d hdw
      unfold upd at hl ⊢
      by_cases e : i' = i
      · subst e
        rw [ho] at ho'
        injection ho' with ho'
        subst ho';rw [hdep d hdw]
        split <;> rfl
      · rw [if_neg e] at hl
        rw [hF.closed i' o' ho' hl d hdw]
        split <;> rfl
    · have he:=put_eval b o.dst x (fun k hk=>by rw [hF.size];exact hlt k (hdst i o k ho hk)) _ (fun _=>rfl)
      have : (fun s=>(b.put o.dst x).eval (.tmp s)) = upv (fun s=>b.eval (.tmp s)) o.dst x:=funext he;rw [this];exact h
  · rintro L b w' hall ⟨hF,hJ⟩
    have hb : b = finA a (fun s=>b.eval (.tmp s)) ds:=by
      have h1 : b.tmps = (finA a (fun s=>b.eval (.tmp s)) ds).tmps:=by
        apply Array.ext_getElem?
        intro s;rw [finA_get]
        by_cases hs : s ∈ ds
        · have hsl:=hlt s hs
          rw [if_pos ⟨hs,hsl⟩]
          show b.tmps[s]? = some (b.tmps.getD s undef)
          rw [Array.getD_eq_getD_getElem?,Array.getElem?_eq_getElem (by rw [hF.size];exact hsl)]
          rfl
        · rw [if_neg (fun h=>hs h.1)]
          exact hF.old s fun i o ho hd=>absurd (hdst i o s ho hd) hs
      have h2 : b.defers = (finA a (fun s=>b.eval (.tmp s)) ds).defers:=by rw [finA_defers];exact hF.defers
      cases b
      generalize finA a _ ds = c at *
      cases c
      simp only at h1 h2
      rw [h1,h2]
    rw [hb];exact hend L _ w' hall hJ
theorem wanted_none {o : Oper} {f : Nat→Option Bool} (h : o.guard = none) : Region.wanted o f = true:=by simp [Region.wanted,h]
theorem step_do {o : Oper} {a : Act} {w : World} {K : Act→World→Prop} {E : Prop} (hg : o.guard = none) (h : Oper.wp P o a w K Q) :
    if Region.wanted o (yielded ops a.tmps) = true then Oper.wp P o a w K Q else E:=by
  rw [if_pos (wanted_none hg)];exact h
theorem wp_ld {o : Oper} {a : Act} {w : World} {K : Act→World→Prop} {T t : TypeId} {n g : Nat} {cs : Array Value} (hR : RowT P T n) (x : Operand) (ho : o.op = .load T x) (hx : a.eval x = .pointer (some ⟨g,0,none⟩)) (hB : Blk w g t cs) (hn : cs.size = n)
    (h : K (a.put o.dst (.agg cs)) w) : Oper.wp P o a w K Q:=by
  obtain ⟨e,hu,hd,hi⟩:=hR;rw [← hn,← Array.length_toList] at hi;exact wp_load_mid T x ho g 0 hx cs.toList e hB.range hu hd hi (by simpa using h)
theorem wp_ldm {o : Oper} {a : Act} {w : World} {K : Act→World→Prop} {T : TypeId} {n g k : Nat} {cs : List Value} (hR : RowT P T n) (x : Operand) (ho : o.op = .load T x) (hx : a.eval x = .pointer (some ⟨g,k,none⟩)) (hB : w.rangeAt g k cs) (hn : cs.length = n)
    (h : K (a.put o.dst (.agg cs.toArray)) w) : Oper.wp P o a w K Q:=by
  obtain ⟨e,hu,hd,hi⟩:=hR;rw [← hn] at hi;exact wp_load_mid T x ho g k hx cs e hB hu hd hi h
theorem wp_ldr {o : Oper} {a : Act} {w : World} {K : Act→World→Prop} {T : TypeId} {n g k : Nat} {cs : Array Value} (hR : RowT P T n) (x : Operand) (ho : o.op = .load T x) (hx : a.eval x = .pointer (some ⟨g,k,none⟩)) (hB : w.rangeAt g k cs.toList) (hn : cs.size = n)
    (h : K (a.put o.dst (.agg cs)) w) : Oper.wp P o a w K Q:=wp_ldm hR x ho hx hB hn (by simpa using h)
end
theorem new_below {w w' : World} {o : Obj} (h : (w.alloc o).grownBy w' (some w.heap.size)) : Below w.heap.size w w' :=
  ((Below.refl _ _).alloc (Nat.le_refl _) o).grown h (by simp) (fun q hq=>by injection hq with hq;omega)
theorem wpList_ldr {P : Program} {ops : Array Oper} {rest : List Oper} {a : Act} {w : World} {Q : Exit→Act→World→Prop} {d : Option Tmp} {ty T : TypeId} {pos : String} {aft : Array Edge} {x : Operand} {b o n : Nat} {cs : Array Value} (hR : RowT P T n) (hc : w.rangeAt b o cs.toList) (hn : cs.size = n)
    (h : wpList P ops Q rest (a.put d (.agg cs)) w) (hx : a.eval x = .pointer (some ⟨b,o,none⟩)) : wpList P ops Q (⟨d,.load T x,ty,pos,aft,none⟩ :: rest) a w:=by
  obtain ⟨e,hu,hd,hi⟩:=hR;rw [← hn,← Array.length_toList] at hi;exact wpList_load_mid rfl T x rfl b o hx cs.toList e hc hu hd hi (by simpa using h)
def waitsAt (ops : Array Oper) (i : Nat) : List Nat:=((ops[i]?).map fun o=>waits .any o).getD []
theorem off_of {ops : Array Oper} {L : Nat→Bool} (hcl : ∀ i o,ops[i]? = some o→L i = true→∀ d ∈ waits .any o,L d = true) {j : Nat} {ds : List Nat} (hw : waitsAt ops j = ds) {d : Nat} (hm : d ∈ ds) (hL : L d = false) : L j = false:=by
  cases h : L j with
  | false=>rfl
  | true =>
    unfold waitsAt at hw
    cases ho : ops[j]? with
    | none =>
      rw [ho] at hw
      simp only [Option.map_none,Option.getD_none] at hw
      rw [← hw] at hm
      cases hm
    | some o =>
      rw [ho] at hw
      simp only [Option.map_some,Option.getD_some] at hw
      have:=hcl j o ho h d (by rw [hw];exact hm)
      rw [hL] at this
      cases this
def reach (ops : Array Oper) : Nat→Nat→List Nat
  | 0,_=>[]
  | f + 1,t=>waitsAt ops t ++ (waitsAt ops t).flatMap (reach ops f)
theorem reach_on {ops : Array Oper} {L : Nat→Bool} (hcl : ∀ i o,ops[i]? = some o→L i = true→∀ d ∈ waits .any o,L d = true) : ∀ (f t d : Nat),d ∈ reach ops f t→L t = true→L d = true:=by
  have hw : ∀ t d,d ∈ waitsAt ops t→L t = true→L d = true:=fun t d hd hL=>by
    cases h : L d with
    | true=>rfl
    | false=>rw [off_of hcl (j:=t) rfl hd h] at hL;cases hL
  intro f
  induction f with
  | zero=>intro t d h _;cases h
  | succ f ih =>
    intro t d h hL
    unfold reach at h
    rcases List.mem_append.1 h with h | h
    · exact hw t d h hL
    · obtain ⟨e,he,hde⟩:=List.mem_flatMap.1 h
      exact ih e d hde (hw t e he hL)
theorem wp_region_tailF {P : Program} {ops : Array Oper} {Q : Exit→Act→World→Prop} (F n0 : Nat) (J : (Nat→Bool)→(Nat→Value)→World→Prop) (ds : List Nat) {id : Nat} {a : Act} {w : World} (hm : P.follows .mixedOrders = true)
    (htop : ((List.range ops.size).all fun i=>((ops[i]?).map fun o=>(waits .any o).all fun d=>decide (d < i)).getD true) = true)
    (hds : ((ops.toList.take n0).filterMap (fun o : Oper=>o.dst)) = ds) (hin : (ds.all fun d=>decide (d < a.tmps.size)) = true)
    (hn : decide (n0 < ops.size) = true) (hr : ((List.range ops.size).all fun t=>decide (t < n0) || (List.range t).all fun d=>(reach ops F t).contains d) = true)
    (h0 : ∀ L : Nat→Bool,(∀ i,i < n0→L i = false)→J L (fun s=>a.eval (.tmp s)) w.drew) (hst : FactSteps P ops Q J (List.range n0))
    (hend : ∀ (L : Nat→Bool) (v : Nat→Value) w',(∀ i,i < n0→L i = true)→J L v w'→wpList P ops Q (ops.toList.drop n0) (finA a v ds) w') : (Code.region id ops true).wp P Q a w:=by
  have hn : n0 < ops.size:=of_decide_eq_true hn
  have hdst : ∀ (i : Nat) (o : Oper) (k : Nat),i < n0→ops[i]? = some o→o.dst = some k→k ∈ ds:=fun i o k hi ho hk=>by
    rw [← hds,List.mem_filterMap];refine ⟨o,?_,hk⟩;rw [← Array.getElem?_toList] at ho
    have : (ops.toList.take n0)[i]? = some o:=by rw [List.getElem?_take,if_pos hi];exact ho
    exact List.mem_of_getElem? this
  have hlt : ∀ k,k ∈ ds→k < a.tmps.size:=fun k hk=>of_decide_eq_true (List.all_eq_true.1 hin k hk)
  have hbef : ∀ t,n0≤t→t < ops.size→∀ d,d < t→d ∈ reach ops F t:=fun t h1 h2 d hd=>by
    have h3:=List.all_eq_true.1 hr t (List.mem_range.2 h2);rw [Bool.or_eq_true] at h3
    rcases h3 with h3 | h3
    · have:=of_decide_eq_true h3;omega
    · have h4:=List.all_eq_true.1 h3 d (List.mem_range.2 hd)
      simpa using h4
  refine wp_region_inv (I:=fun L b w'=>(∀ i o,ops[i]? = some o→L i = true→∀ d ∈ waits .any o,L d = true)∧((∀ t,n0≤t→t < ops.size→L t = false)→Frm ops a b L∧J L (fun s=>b.eval (.tmp s)) w') ∧
    (∀ j,n0≤j→j < ops.size→L j = true→(∀ t,j < t→t < ops.size→L t = false)→wpList P ops Q (ops.toList.drop (j + 1)) b w')) hm htop ?_ ?_ ?_
  · intro L hL
    refine ⟨fun i o ho h=>?_,fun _=>⟨⟨rfl,rfl,fun _ _=>rfl,fun i o ho h=>?_⟩,h0 L fun i hi=>hL i (by omega)⟩,fun j h1 h2 h3=>?_⟩
    · rw [hL i (Array.getElem?_eq_some_iff.1 ho).1] at h;cases h
    · rw [hL i (Array.getElem?_eq_some_iff.1 ho).1] at h;cases h
    · rw [hL j h2] at h3;cases h3
  · refine ⟨fun i hi o L b w' ho hL hdep ⟨hcl,hF,hT⟩=>?_⟩
    have hin':=List.mem_range.1 hi
    have hcl' : ∀ i' o',ops[i']? = some o'→upd L i i' = true→∀ d ∈ waits .any o',upd L i d = true:=by
      intro i' o' ho' hl d hdw
      unfold upd at hl ⊢
      by_cases e : i' = i
      · subst e
        rw [ho] at ho'
        injection ho' with ho'
        subst ho';rw [hdep d hdw]
        split <;> rfl
      · rw [if_neg e] at hl
        rw [hcl i' o' ho' hl d hdw]
        split <;> rfl
    have hoff : ∀ t,n0≤t→i < t→t < ops.size→L t = false:=fun t h1 h2 h3=>by
      cases h : L t with
      | false=>rfl
      | true =>
        have:=reach_on hcl F t i (hbef t h1 h3 i h2) h
        rw [hL] at this
        cases this
    by_cases hc : i < n0
    · have hall : ∀ t,n0≤t→t < ops.size→L t = false:=fun t h1 h2=>hoff t h1 (by omega) h2
      obtain ⟨hF,hJ⟩:=hF hall
      refine wpOp_step ho fun K hK=>?_
      refine hst.out i (List.mem_range.2 hc) o L b (fun s=>b.eval (.tmp s)) w' ho (fun _=>rfl) hL hdep hcl hJ K fun x w'' h=>hK _ _ ⟨hcl',fun _=>⟨⟨?_,?_,?_,hcl'⟩,?_⟩,fun j h1 h2 h3=>?_⟩
      · rw [put_defers];exact hF.defers
      · rw [put_size];exact hF.size
      · intro s hs
        have hs' : ∀ i' o',ops[i']? = some o'→o'.dst = some s→L i' = false:=fun i' o' h1 h2=>by
          have:=hs i' o' h1 h2
          unfold upd at this
          split at this
          · cases this
          · exact this
        have hne : o.dst ≠ some s:=fun e=>by
          have:=hs i o ho e
          unfold upd at this
          rw [if_pos rfl] at this
          cases this
        cases hd : o.dst with
        | none=>exact hF.old s hs'
        | some k =>
          rw [put_slot,if_neg (fun e=>hne (by rw [hd,e.1])),hF.old s hs']
      · have he:=put_eval b o.dst x (fun k hk=>by rw [hF.size];exact hlt k (hdst i o k hc ho hk)) _ (fun _=>rfl)
        have : (fun s=>(b.put o.dst x).eval (.tmp s)) = upv (fun s=>b.eval (.tmp s)) o.dst x:=funext he;rw [this];exact h
      · unfold upd at h3
        rw [if_neg (by omega),hall j h1 h2] at h3
        cases h3
    · -- the tail
      have hbl : ∀ d,d < i→L d = true:=fun d hd=>by
        have hm:=hbef i (by omega) hin' d hd;have hup:=reach_on (L:=upd L i) hcl' F i d hm (by unfold upd;rw [if_pos rfl])
        unfold upd at hup
        rwa [if_neg (by omega)] at hup
      have hlist : wpList P ops Q (ops.toList.drop i) b w':=by
        by_cases e : i = n0
        · subst e
          obtain ⟨hF,hJ⟩:=hF fun t h1 h2=>by
            rcases Nat.lt_or_ge i t with h | h
            · exact hoff t h1 h h2
            · obtain rfl : t = i:=by omega
              exact hL
          have hb : b = finA a (fun s=>b.eval (.tmp s)) ds:=by
            have h1 : b.tmps = (finA a (fun s=>b.eval (.tmp s)) ds).tmps:=by
              apply Array.ext_getElem?
              intro s;rw [finA_get]
              by_cases hs : s ∈ ds
              · have hsl:=hlt s hs
                rw [if_pos ⟨hs,hsl⟩]
                show b.tmps[s]? = some (b.tmps.getD s undef)
                rw [Array.getD_eq_getD_getElem?,Array.getElem?_eq_getElem (by rw [hF.size];exact hsl)]
                rfl
              · rw [if_neg (fun h=>hs h.1)]
                refine hF.old s fun i' o' ho' hd=>?_
                rcases Nat.lt_or_ge i' i with h | h
                · exact absurd (hdst i' o' s h ho' hd) hs
                · rcases Nat.lt_or_ge i i' with h' | h'
                  · exact hoff i' (by omega) h' (Array.getElem?_eq_some_iff.1 ho').1
                  · obtain rfl : i' = i:=by omega
                    exact hL
            have h2 : b.defers = (finA a (fun s=>b.eval (.tmp s)) ds).defers:=by rw [finA_defers];exact hF.defers
            cases b
            generalize finA a _ ds = c at *
            cases c
            simp only at h1 h2
            rw [h1,h2]
          rw [hb];exact hend L _ w' (fun d hd=>hbl d hd) hJ
        · have:=hT (i - 1) (by omega) (by omega) (hbl _ (by omega)) fun t h1 h2=>by
            rcases Nat.lt_or_ge i t with h | h
            · exact hoff t (by omega) h h2
            · obtain rfl : t = i:=by omega
              exact hL
          rwa [show i - 1 + 1 = i by omega] at this
      have hdr : ops.toList.drop i = o :: ops.toList.drop (i + 1):=by
        rw [← Array.getElem?_toList] at ho;obtain ⟨h1,h2⟩:=List.getElem?_eq_some_iff.1 ho;rw [List.drop_eq_getElem_cons h1,h2]
      rw [hdr] at hlist
      have hwp : wpOp P ops Q i (wpList P ops Q (ops.toList.drop (i + 1))) b w':=by
        unfold wpOp
        rw [ho];exact hlist
      refine wpOp_mono (fun b' w'' h=>⟨hcl',fun hall=>?_,fun j h1 h2 h3 h4=>?_⟩) hwp
      · have:=hall i (by omega) hin'
        unfold upd at this
        rw [if_pos rfl] at this
        cases this
      · obtain rfl : j = i:=by
          rcases Nat.lt_trichotomy j i with h | h | h
          · have:=h4 i h hin'
            unfold upd at this
            rw [if_pos rfl] at this
            cases this
          · exact h
          · unfold upd at h3
            rw [if_neg (by omega),hoff j h1 h h2] at h3
            cases h3
        exact h
  · rintro L b w' hall ⟨_,_,hT⟩
    have:=hT (ops.size - 1) (by omega) (by omega) (hall _ (by omega)) fun t h1 h2=>by omega
    rw [show ops.size - 1 + 1 = ops.toList.length by simp;omega,List.drop_length] at this;exact this
theorem offF {L : Nat→Bool} {n i : Nat} {R : Prop} (h : ∀ i,i < n→L i = false) (hi : i < n) : L i = true→R:=fun h2=>by rw [h i hi] at h2;cases h2
theorem offC {b : Bool} {R : Prop} (h : b = false) : b = true→R:=fun h2=>by rw [h] at h2;cases h2
section
variable {T : TypeId} {n g : Nat} {b s : Bool} {p y : Value} {w w' : World}
end
end Go.Proofs.YtfpenfgmpbdakaaGreat
