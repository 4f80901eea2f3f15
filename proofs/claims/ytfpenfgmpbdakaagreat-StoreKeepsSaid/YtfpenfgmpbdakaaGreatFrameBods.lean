import Derived.Test.YtfpenfgmpbdakaaGreatBytes
namespace Go.Proofs.YtfpenfgmpbdakaaGreat
set_option linter.unusedVariables false
set_option linter.unusedSimpArgs false
set_option maxRecDepth 100000
open Go.RowKit
abbrev Sl:=Option Addr × Nat × Nat
def sv (e : Sl) : Value:=.slice e.1 e.2.1 e.2.2
def Bods (w : World) (base : Nat) (A : Option Addr) (n c : Nat) (ls : List (List UInt8)) : Prop :=
  ∃ es : List Sl,n = ls.length∧es.length = ls.length∧w.ownsRow base 22 1 (.slice A n c) n (es.map sv)∧∀ (j : Nat) (e : Sl) (x : List UInt8),es[j]? = some e→ls[j]? = some x→OwnB w base e.1 e.2.1 e.2.2 x
theorem infoS : (Tryz.prog.info? 22).map (fun i=>(i.zero,i.size,i.bytes)) = some (some (.slice none 0 0),1,24):=by kernel_rfl
section
variable {w w' : World} {base : Nat} {A : Option Addr} {n c : Nat} {ls : List (List UInt8)}
theorem Bods.nil (w : World) (base : Nat) : Bods w base none 0 0 []:=⟨[],rfl,rfl,World.ownsRow_nil w base _ 1,fun j e x h=>by simp at h⟩
theorem Bods.below {B : Nat} (h : Bods w base A n c ls) (hb : Below B w w') (hB : w.heap.size≤B) : Bods w' base A n c ls:=by
  obtain ⟨es,h1,h2,h3,h4⟩:=h;exact ⟨es,h1,h2,ownsRow_keep h3 fun k hk=>hb.block k (Nat.lt_of_lt_of_le (ownsRow_lt h3 hk) hB),fun j e x q1 q2=>(h4 j e x q1 q2).below hb hB⟩
theorem Bods.mono {base' : Nat} (h : Bods w base A n c ls) (hb : base'≤base) : Bods w base' A n c ls:=by
  obtain ⟨es,h1,h2,h3,h4⟩:=h;exact ⟨es,h1,h2,ownsRow_base h3 hb,fun j e x q1 q2=>(h4 j e x q1 q2).mono hb⟩
theorem Bods.len (h : Bods w base A n c ls) : n = ls.length:=h.choose_spec.1
theorem Bods.from {k : Nat} (h : Bods w base A n c ls) (hk : A.map (·.block) = some k) : base≤k:=by
  obtain ⟨es,h1,h2,h3,h4⟩:=h
  exact (h3.lt k (by cases A with
    | none=>cases hk
    | some a=>exact hk)).1
theorem Bods.low (h : Bods w base A n c ls) {p : Addr} (hp : p.block < base) (u : Value) : Bods (w.setCell p u) base A n c ls:=by
  obtain ⟨es,h1,h2,h3,h4⟩:=h;refine ⟨es,h1,h2,ownsRow_keep h3 fun k hk=>Below.heap_setCell w p u k ?_,fun j e x q1 q2=>(h4 j e x q1 q2).setFar (fun hk=>?_) u⟩
  · have:=(h3.lt k (by cases A with
      | none=>cases hk
      | some a=>exact hk)).1
    omega
  · have:=((h4 j e x q1 q2).lt _ hk).1
    omega
theorem OwnB.grownS {base2 m d : Nat} {D : Option Addr} {bs : List UInt8} {xs : List Value} (h : OwnB w base D m d bs) (hr : w.ownsRow base2 22 1 (.slice A n c) n xs) (hg : w.grownBy w' (A.map (·.block))) : OwnB w' base D m d bs:=by
  refine h.grown hg ?_
  cases D with
  | none=>exact .inl rfl
  | some p =>
    refine .inr fun e=>?_
    obtain ⟨c1,h1⟩:=ownsRow_type h.2 (k:=p.block) rfl;obtain ⟨c2,h2⟩:=ownsRow_type hr (k:=p.block) e.symm;rw [h1] at h2
    injection h2 with h2
    injection h2 with _ h2
    exact absurd h2 (by decide)
end
theorem wpList_appS {w : World} {ops : Array Oper} {rest : List Oper} {o : Oper} {a : Act} {Q : Exit→Act→World→Prop} (hgd : o.guard = none) (s x : Operand)
    (ho : o.op = .call { callee:=.builtin .append,args:=#[s,x],argTypes:=#[89,89] })
    {base : Nat} {A : Option Addr} {n c : Nat} {ls : List (List UInt8)} (hs : a.eval s = .slice A n c) (hown : Bods w base A n c ls)
    {B : Nat} {D : Option Addr} {e : Sl} {bs : List UInt8} {d : Nat} (hx : a.eval x = .slice D 1 d) (hr : Rd w B D [sv e]) (he : OwnB w base e.1 e.2.1 e.2.2 bs)
    (hbytes : n≤1099511627776) (hbase : base≤w.heap.size)
    (h : ∀ A' c' w',Bods w' base A' (n + 1) c' (ls ++ [bs])→Below base w w'→wpList Tryz.prog ops Q rest (a.put o.dst (.slice A' (n + 1) c')) w') : wpList Tryz.prog ops Q (o :: rest) a w:=by
  obtain ⟨i0,hi,hz0,hz1,hz2⟩:=info_parts infoS
  have hob : (Value.slice A n c).ownBlock = A.map (·.block):=by cases A <;> rfl
  obtain ⟨es,q1,q2,q3,q4⟩:=hown;refine wpList_app w hgd s x 89 ho base 22 i0 (.slice none 0 0) 1 24 Tryz.underlying89 hi hz0 hz1 hz2 rfl (by decide) _ _ _ hs q3 B D 1 d [sv e] hx hr (by simp) (by intro u hu;rw [List.mem_singleton] at hu;subst hu;rfl) (by unfold maxLen;omega) (by omega) hbase ?_;intro A' c' w' h1 h2 h3;rw [hob] at h2 h3
  have hbl : Below base w w':=(Below.refl _ _).grown h2 hbase (fun g hg=>(q3.lt g (by cases A with
    | none=>cases hg
    | some p=>exact hg)).1)
  refine h A' c' w' ⟨es ++ [e],by simp [q1],by simp [q2],by simpa using h1,fun j f y p1 p2=>?_⟩ hbl
  by_cases hj : j < es.length
  · rw [List.getElem?_append_left hj] at p1
    rw [List.getElem?_append_left (by omega)] at p2;exact (q4 j f y p1 p2).grownS q3 h2
  · rw [List.getElem?_append_right (by omega)] at p1
    rw [List.getElem?_append_right (by omega)] at p2
    obtain hj0 : j - es.length = 0:=by
      rcases Nat.eq_zero_or_pos (j - es.length) with h | h
      · exact h
      · rw [List.getElem?_eq_none (by simp;omega)] at p1
        cases p1
    rw [hj0] at p1;rw [show j - ls.length = 0 by omega] at p2
    simp at p1 p2
    subst p1;subst p2;exact he.grownS q3 h2
theorem wpList_appS2 {w : World} {ops : Array Oper} {rest : List Oper} {o : Oper} {a : Act} {Q : Exit→Act→World→Prop} (hgd : o.guard = none) (s x : Operand)
    (ho : o.op = .call { callee:=.builtin .append,args:=#[s,x],argTypes:=#[89,89] })
    {base : Nat} {A : Option Addr} {n c : Nat} {ls : List (List UInt8)} (hs : a.eval s = .slice A n c) (hown : Bods w base A n c ls)
    {B : Nat} {D : Option Addr} {e : Sl} {bs : List UInt8} {d : Nat} (hx : a.eval x = .slice D 1 d) (hr : Rd w B D [sv e]) (he : OwnB w base e.1 e.2.1 e.2.2 bs)
    (hbytes : n≤1099511627776) (hbase : base≤w.heap.size)
    (h : ∀ A' c' w',Bods w' base A' (n + 1) c' (ls ++ [bs])→Below base w w'→(∀ base' D m d bs',OwnB w base' D m d bs'→OwnB w' base' D m d bs')→wpList Tryz.prog ops Q rest (a.put o.dst (.slice A' (n + 1) c')) w') : wpList Tryz.prog ops Q (o :: rest) a w:=by
  obtain ⟨i0,hi,hz0,hz1,hz2⟩:=info_parts infoS
  have hob : (Value.slice A n c).ownBlock = A.map (·.block):=by cases A <;> rfl
  obtain ⟨es,q1,q2,q3,q4⟩:=hown;refine wpList_app w hgd s x 89 ho base 22 i0 (.slice none 0 0) 1 24 Tryz.underlying89 hi hz0 hz1 hz2 rfl (by decide) _ _ _ hs q3 B D 1 d [sv e] hx hr (by simp) (by intro u hu;rw [List.mem_singleton] at hu;subst hu;rfl) (by unfold maxLen;omega) (by omega) hbase ?_;intro A' c' w' h1 h2 h3;rw [hob] at h2 h3
  have hbl : Below base w w':=(Below.refl _ _).grown h2 hbase (fun g hg=>(q3.lt g (by cases A with
    | none=>cases hg
    | some p=>exact hg)).1)
  refine h A' c' w' ⟨es ++ [e],by simp [q1],by simp [q2],by simpa using h1,fun j f y p1 p2=>?_⟩ hbl (fun base' D m d bs' ho=>ho.grownS q3 h2)
  by_cases hj : j < es.length
  · rw [List.getElem?_append_left hj] at p1
    rw [List.getElem?_append_left (by omega)] at p2;exact (q4 j f y p1 p2).grownS q3 h2
  · rw [List.getElem?_append_right (by omega)] at p1
    rw [List.getElem?_append_right (by omega)] at p2
    obtain hj0 : j - es.length = 0:=by
      rcases Nat.eq_zero_or_pos (j - es.length) with h | h
      · exact h
      · rw [List.getElem?_eq_none (by simp;omega)] at p1
        cases p1
    rw [hj0] at p1;rw [show j - ls.length = 0 by omega] at p2
    simp at p1 p2
    subst p1;subst p2;exact he.grownS q3 h2
end Go.Proofs.YtfpenfgmpbdakaaGreat
