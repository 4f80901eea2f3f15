import Derived.Test.YtfpenfgmpbdakaaGreatFrameBods
import Derived.Test.YtfpenfgmpbdakaaGreatOpen
namespace Go.Proofs.YtfpenfgmpbdakaaGreat
set_option linter.unusedVariables false
set_option linter.unusedSimpArgs false
open Go.ChangeShapes Go.WideShapes Go.ChangeAt Go.RowKit Go.Deep
theorem list_of {α : Type} {P : Nat→α→Prop} (n : Nat) (h : ∀ i,i < n→∃ x,P i x) : ∃ l : List α,l.length = n∧∀ j x,l[j]? = some x→P j x:=by
  induction n with
  | zero=>exact ⟨[],rfl,fun j x h=>by simp at h⟩
  | succ n ih =>
    obtain ⟨l,h1,h2⟩:=ih (fun i hi=>h i (by omega));obtain ⟨x,hx⟩:=h n (by omega);refine ⟨l ++ [x],by simp [h1],fun j y hy=>?_⟩
    by_cases hj : j < n
    · rw [List.getElem?_append_left (by omega)] at hy
      exact h2 j y hy
    · rw [List.getElem?_append_right (by omega)] at hy
      have h0 : j - l.length = 0:=by
        rcases Nat.eq_zero_or_pos (j - l.length) with h | h
        · exact h
        · rw [List.getElem?_eq_none (by simp;omega)] at hy
          cases hy
      rw [h0] at hy
      simp at hy
      subst hy
      have hjn : j < n + 1:=by omega
      obtain rfl : j = n:=by omega
      exact hx
def RdS (w : World) (B : Nat) (A : Option Addr) (n : Nat) (ls : List (List UInt8)) : Prop :=
  ∃ es : List Sl,n = ls.length∧es.length = ls.length∧Rd w B A (es.map sv)∧∀ (j : Nat) (e : Sl) (x : List UInt8),es[j]? = some e→ls[j]? = some x→RdB w B e.1 e.2.1 x∧e.2.1≤e.2.2∧e.2.2≤maxLen
section
variable {w w' : World} {B B' n : Nat} {A : Option Addr} {ls : List (List UInt8)}
theorem RdS.len (h : RdS w B A n ls) : n = ls.length:=h.choose_spec.1
theorem RdS.at_ (h : RdS w B A n ls) {k : Nat} (hk : k < ls.length) : ∃ a D m c,A = some a∧a.block < B∧w.cell? (a.add k) = some (.slice D m c)∧RdB w B D m ls[k]∧m≤c∧c≤maxLen:=by
  obtain ⟨es,h1,h2,h3,h4⟩:=h;obtain ⟨a,e,hb,hc⟩:=h3 k (sv es[k]) (by rw [List.getElem?_map,List.getElem?_eq_getElem (by omega)];rfl);obtain ⟨q1,q2,q3⟩:=h4 k es[k] ls[k] (List.getElem?_eq_getElem (by omega)) (List.getElem?_eq_getElem hk);exact ⟨a,_,_,_,e,hb,hc,q1,q2,q3⟩
theorem RdS.below (h : RdS w B A n ls) (hb : Below B w w') : RdS w' B A n ls:=by
  obtain ⟨es,h1,h2,h3,h4⟩:=h;exact ⟨es,h1,h2,h3.below hb,fun j e x q1 q2=>⟨(h4 j e x q1 q2).1.below hb,(h4 j e x q1 q2).2⟩⟩
theorem RdB.keep {m : Nat} {D : Option Addr} {x : List UInt8} (h : RdB w B D m x) (hk : ∀ p : Addr,p.block < B→w'.cell? p = w.cell? p) : RdB w' B D m x:=⟨h.1,h.2.keep hk⟩
theorem RdS.keep (h : RdS w B A n ls) (hk : ∀ p : Addr,p.block < B→w'.cell? p = w.cell? p) : RdS w' B A n ls:=by
  obtain ⟨es,h1,h2,h3,h4⟩:=h;exact ⟨es,h1,h2,h3.keep hk,fun j e x q1 q2=>⟨(h4 j e x q1 q2).1.keep hk,(h4 j e x q1 q2).2⟩⟩
theorem RdS.more (h : RdS w B A n ls) (hB : B≤B') : RdS w B' A n ls:=by
  obtain ⟨es,h1,h2,h3,h4⟩:=h;exact ⟨es,h1,h2,h3.more hB,fun j e x q1 q2=>⟨(h4 j e x q1 q2).1.more hB,(h4 j e x q1 q2).2⟩⟩
theorem RdS.up (h : RdS w B A n ls) : RdS w w.heap.size A n ls:=by
  obtain ⟨es,h1,h2,h3,h4⟩:=h;exact ⟨es,h1,h2,h3.size,fun j e x q1 q2=>⟨(h4 j e x q1 q2).1.size,(h4 j e x q1 q2).2⟩⟩
theorem RdS.next (h : RdS w B A n ls) (hb : Below w.heap.size w w') : RdS w' w'.heap.size A n ls:=(h.up.below hb).up
theorem RdB.next {m : Nat} {D : Option Addr} {x : List UInt8} (h : RdB w B D m x) (hb : Below w.heap.size w w') : RdB w' w'.heap.size D m x:=(h.size.below hb).size
theorem RdS.nil (w : World) (B : Nat) (A : Option Addr) : RdS w B A 0 []:=⟨[],rfl,rfl,Rd.nil w B A,fun j e x h=>by simp at h⟩
theorem Bods.rd {base c : Nat} (h : Bods w base A n c ls) : RdS w w.heap.size A n ls:=by
  obtain ⟨es,h1,h2,h3,h4⟩:=h;refine ⟨es,h1,h2,Rd.of_own h3,fun j e x q1 q2=>?_⟩;have ho:=h4 j e x q1 q2;exact ⟨ho.rd,ownsRow_le ho.2⟩
end
section
variable {H : Type} {enc : TypeId × Value→H} {W : World} {base : Nat} {sp : Nat→Bool} {held : Bool} {fuel : Nat} {cs : List Value} {x : DataW H × List MemPlace}
end
set_option maxRecDepth 100000
end Go.Proofs.YtfpenfgmpbdakaaGreat
