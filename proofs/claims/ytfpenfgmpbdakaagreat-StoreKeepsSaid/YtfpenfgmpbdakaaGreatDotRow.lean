import Derived.Test.YtfpenfgmpbdakaaGreatDotClose
import Derived.Test.YtfpenfgmpbdakaaGreatStep
namespace Go.Proofs.YtfpenfgmpbdakaaGreat
set_option linter.unusedVariables false
set_option linter.unusedSimpArgs false
set_option maxRecDepth 100000
open Go.RowKit
open Dot
def OwnD (w : World) (base : Nat) (A : Option Addr) (n c : Nat) (l : List Dt) : Prop:=n = l.length∧w.ownsRow base 42 2 (.slice A n c) n (dcs l)
theorem infoD : (Tryz.prog.info? 42).map (fun i=>(i.zero,i.size,i.bytes)) = some (some (.agg #[.int .i64 0,.int .i64 0]),2,16):=by kernel_rfl
section
variable {w w' : World} {base n c : Nat} {A : Option Addr} {bs : List Dt}
theorem OwnD.raw (h : OwnD w base A n c bs) : Rd w w.heap.size A (dcs bs):=fun j u hu=>by
  rcases h.2.2 with ⟨hv,h0⟩ | ⟨g,cap,cur,hv,hb,hh,hn,hm,hs,hc⟩
  · have:=h.2.1;rw [h0] at this;simp at this;rw [this] at hu;simp at hu
  · injection hv with hA
    subst hA;exact ⟨_,rfl,(h.2.lt g rfl).2,h.2.cells (g:=g) rfl j u hu⟩
theorem OwnD.rd (h : OwnD w base A n c bs) : RdD w w.heap.size A n bs:=by
  have:=RdD.of_rd h.raw
  rwa [← h.1] at this
theorem OwnD.alloc (h : OwnD w base A n c bs) (o : Obj) : OwnD (w.alloc o) base A n c bs:=⟨h.1,h.2.alloc o⟩
theorem OwnD.nil (w : World) (base : Nat) : OwnD w base none 0 0 []:=⟨rfl,World.ownsRow_nil w base _ 2⟩
theorem OwnD.mono {base' : Nat} (h : OwnD w base A n c bs) (hb : base'≤base) : OwnD w base' A n c bs:=by
  refine ⟨h.1,h.2.1,?_⟩
  rcases h.2.2 with h | ⟨g,cap,cur,h1,h2,h3⟩
  · exact .inl h
  · exact .inr ⟨g,cap,cur,h1,by omega,h3⟩
theorem OwnD.lt (h : OwnD w base A n c bs) : ∀ g,A.map (·.block) = some g→base≤g∧g < w.heap.size:=fun g hg=>h.2.lt g (by
  rcases A with _ | a
  · simp at hg
  · simpa [Value.ownBlock] using hg)
theorem OwnD.form (h : OwnD w base A n c bs) (hn : 0 < n) : ∃ g,A = some ⟨g,0,none⟩∧base≤g∧g < w.heap.size:=by
  rcases h.2.2 with ⟨_,h0⟩ | ⟨g,cap,cur,hv,hb,hh,_⟩
  · omega
  · injection hv with hA
    subst hA;exact ⟨g,rfl,hb,lt_of_block hh⟩
theorem OwnD.free {g : Nat} (h : OwnD w base (some ⟨g,0,none⟩) n c bs) (j : Nat) : w.frozen? ⟨g,j,none⟩ = false:=h.2.frozenAt j
theorem OwnD.setFar {p : Addr} (h : OwnD w base A n c bs) (hp : A.map (·.block) ≠ some p.block) (u : Value) : OwnD (w.setCell p u) base A n c bs :=
  ⟨h.1,ownsRow_setCell_other h.2 (by
    rcases A with _ | a
    · simp [Value.ownBlock]
    · simpa [Value.ownBlock] using hp) u⟩
theorem OwnD.drew (h : OwnD w base A n c bs) : OwnD w.drew base A n c bs:=h
theorem OwnD.grown {row : Option Nat} (h : OwnD w base A n c bs) (hg : w.grownBy w' row) (hne : A.map (·.block) = none∨A.map (·.block) ≠ row) : OwnD w' base A n c bs :=
  ⟨h.1,h.2.kept hg (by
    rcases A with _ | a
    · exact .inl rfl
    · rcases hne with h | h
      · simp at h
      · exact .inr h)⟩
theorem OwnD.below {B : Nat} (h : OwnD w base A n c bs) (hb : Below B w w') (hB : w.heap.size≤B) : OwnD w' base A n c bs :=
  ⟨h.1,h.2.kept (row:=none) ⟨hb.os,hb.tape,hb.output,hb.size,fun k hk _=>hb.block k (by omega)⟩ (by
    rcases h.2.2 with ⟨e,_⟩ | ⟨g,cap,cur,e,_⟩
    · rw [e];exact .inl rfl
    · rw [e];exact .inr (by simp [Value.ownBlock]))⟩
end
theorem wpList_appD {w : World} {ops : Array Oper} {rest : List Oper} {o : Oper} {a : Act} {Q : Exit→Act→World→Prop} (hgd : o.guard = none) (s x : Operand)
    (ho : o.op = .call { callee:=.builtin .append,args:=#[s,x],argTypes:=#[45,45] })
    {base : Nat} {A : Option Addr} {n c : Nat} {bs : List Dt} (hs : a.eval s = .slice A n c) (hown : OwnD w base A n c bs)
    {B : Nat} {D : Option Addr} {m d : Nat} {news : List Dt} (hx : a.eval x = .slice D m d) (hr : Rd w B D (dcs news)) (hm : m = news.length)
    (hbytes : n + m≤1000000000000) (hbase : base≤w.heap.size)
    (h : ∀ A' c' w',OwnD w' base A' (n + m) c' (bs ++ news)→w.grownBy w' (A.map (·.block))→Moved A' (A.map (·.block)) w.heap.size→Below base w w' →
      wpList Tryz.prog ops Q rest (a.put o.dst (.slice A' (n + m) c')) w') : wpList Tryz.prog ops Q (o :: rest) a w:=by
  obtain ⟨i0,hi,hz0,hz1,hz2⟩:=info_parts infoD
  have hob : (Value.slice A n c).ownBlock = A.map (·.block):=by cases A <;> rfl
  refine wpList_app w hgd s x 45 ho base 42 i0 (.agg #[.int .i64 0,.int .i64 0]) 2 16 Tryz.underlying45 hi hz0 hz1 hz2 rfl (by decide) _ _ _ hs hown.2 B D m d (dcs news) hx hr (by rw [dcs_len,hm]) (dcs_one _) (by unfold maxLen;omega) (by omega) hbase ?_;intro A' c' w' h1 h2 h3;rw [hob] at h2 h3;exact h A' c' w' ⟨by rw [List.length_append,hown.1,hm],by rw [dcs_app];exact h1⟩ h2 h3 ((Below.refl _ _).grown h2 hbase (fun g hg=>(hown.lt g hg).1))
end Go.Proofs.YtfpenfgmpbdakaaGreat
