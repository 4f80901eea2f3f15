import Derived.Test.YtfpenfgmpbdakaaGreatMem
import Derived.Test.YtfpenfgmpbdakaaGreatChecked
namespace Go.Proofs.YtfpenfgmpbdakaaGreat
set_option linter.unusedVariables false
set_option linter.unusedSimpArgs false
set_option maxRecDepth 100000
open Go.RowKit
theorem infoB : (Tryz.prog.info? 5).map (fun i=>(i.zero,i.size,i.bytes)) = some (some (.int .u8 0),1,1):=by kernel_rfl
def OwnB (w : World) (base : Nat) (A : Option Addr) (n c : Nat) (bs : List UInt8) : Prop:=n = bs.length∧w.ownsRow base 5 1 (.slice A n c) n (bs.map bv)
section
variable {w w' : World} {base n c : Nat} {A : Option Addr} {bs : List UInt8}
theorem OwnB.rd (h : OwnB w base A n c bs) : RdB w w.heap.size A n bs:=⟨h.1,Rd.of_own h.2⟩
theorem OwnB.alloc (h : OwnB w base A n c bs) (o : Obj) : OwnB (w.alloc o) base A n c bs:=⟨h.1,h.2.alloc o⟩
theorem OwnB.nil (w : World) (base : Nat) : OwnB w base none 0 0 []:=⟨rfl,World.ownsRow_nil w base _ 1⟩
theorem OwnB.made (w : World) (base : Nat) (bs : List UInt8) (cs : Array Value) (n : Nat) (h : cs.toList = bs.map bv) (hn : n = bs.length) (hb : base≤w.heap.size) (hm : n≤maxLen) :
    OwnB (w.alloc (.cells cs 5)) base (some ⟨w.heap.size,0,none⟩) n n bs:=by
  have hs : cs.size = bs.length:=by rw [← Array.length_toList,h,List.length_map]
  refine ⟨hn,?_,.inr ⟨w.heap.size,n,cs,rfl,hb,heap_alloc_new w _,Nat.le_refl _,hm,by omega,?_⟩⟩
  · simp [hn]
  · rw [h,List.take_of_length_le (by simp;omega)]
theorem OwnB.mono {base' : Nat} (h : OwnB w base A n c bs) (hb : base'≤base) : OwnB w base' A n c bs:=by
  refine ⟨h.1,h.2.1,?_⟩
  rcases h.2.2 with h | ⟨g,cap,cur,h1,h2,h3⟩
  · exact .inl h
  · exact .inr ⟨g,cap,cur,h1,by omega,h3⟩
theorem OwnB.lt (h : OwnB w base A n c bs) : ∀ g,A.map (·.block) = some g→base≤g∧g < w.heap.size:=fun g hg=>h.2.lt g (by
  rcases A with _ | a
  · simp at hg
  · simpa [Value.ownBlock] using hg)
theorem OwnB.form (h : OwnB w base A n c bs) (hn : 0 < n) : ∃ g,A = some ⟨g,0,none⟩∧base≤g∧g < w.heap.size:=by
  rcases h.2.2 with ⟨_,h0⟩ | ⟨g,cap,cur,hv,hb,hh,_⟩
  · omega
  · injection hv with hA
    subst hA;exact ⟨g,rfl,hb,lt_of_block hh⟩
theorem OwnB.cell {g : Nat} (h : OwnB w base (some ⟨g,0,none⟩) n c bs) {j : Nat} (hj : j < bs.length) : w.cell? ⟨g,j,none⟩ = some (bv bs[j]):=by
  rw [h.2.cellAt j (by rw [h.1];omega)]
  simp [hj]
theorem OwnB.free {g : Nat} (h : OwnB w base (some ⟨g,0,none⟩) n c bs) (j : Nat) : w.frozen? ⟨g,j,none⟩ = false:=h.2.frozenAt j
theorem OwnB.set_ {g : Nat} (h : OwnB w base (some ⟨g,0,none⟩) n c bs) (j : Nat) (x : UInt8) : OwnB (w.setCell ⟨g,j,none⟩ (bv x)) base (some ⟨g,0,none⟩) n c (bs.set j x):=by
  refine ⟨by rw [List.length_set];exact h.1,?_⟩
  have:=(h.2.stored j (bv x)).1
  rwa [← List.map_set] at this
theorem OwnB.setFar {p : Addr} (h : OwnB w base A n c bs) (hp : A.map (·.block) ≠ some p.block) (u : Value) : OwnB (w.setCell p u) base A n c bs :=
  ⟨h.1,ownsRow_setCell_other h.2 (by
    rcases A with _ | a
    · simp [Value.ownBlock]
    · simpa [Value.ownBlock] using hp) u⟩
theorem OwnB.drew (h : OwnB w base A n c bs) : OwnB w.drew base A n c bs:=h
theorem OwnB.grown {row : Option Nat} (h : OwnB w base A n c bs) (hg : w.grownBy w' row) (hne : A.map (·.block) = none∨A.map (·.block) ≠ row) : OwnB w' base A n c bs :=
  ⟨h.1,h.2.kept hg (by
    rcases A with _ | a
    · exact .inl rfl
    · rcases hne with h | h
      · simp at h
      · exact .inr h)⟩
theorem OwnB.below {B : Nat} (h : OwnB w base A n c bs) (hb : Below B w w') (hB : w.heap.size≤B) : OwnB w' base A n c bs :=
  ⟨h.1,h.2.kept (row:=none) ⟨hb.os,hb.tape,hb.output,hb.size,fun k hk _=>hb.block k (by omega)⟩ (by
    rcases h.2.2 with ⟨e,_⟩ | ⟨g,cap,cur,e,_⟩
    · rw [e];exact .inl rfl
    · rw [e];exact .inr (by simp [Value.ownBlock]))⟩
end
theorem wpList_appB {w : World} {ops : Array Oper} {rest : List Oper} {o : Oper} {a : Act} {Q : Exit→Act→World→Prop} (hgd : o.guard = none) (s x : Operand)
    (ho : o.op = .call { callee:=.builtin .append,args:=#[s,x],argTypes:=#[22,22] })
    {base : Nat} {A : Option Addr} {n c : Nat} {bs : List UInt8} (hs : a.eval s = .slice A n c) (hown : OwnB w base A n c bs)
    {B : Nat} {D : Option Addr} {m d : Nat} {news : List UInt8} (hx : a.eval x = .slice D m d) (hr : RdB w B D m news)
    (hbytes : n + m≤140737488355328) (hbase : base≤w.heap.size)
    (h : ∀ A' c' w',OwnB w' base A' (n + m) c' (bs ++ news)→w.grownBy w' (A.map (·.block))→Moved A' (A.map (·.block)) w.heap.size→Below base w w' →
      wpList Tryz.prog ops Q rest (a.put o.dst (.slice A' (n + m) c')) w') : wpList Tryz.prog ops Q (o :: rest) a w:=by
  obtain ⟨i0,hi,hz0,hz1,hz2⟩:=info_parts infoB
  have hob : (Value.slice A n c).ownBlock = A.map (·.block):=by cases A <;> rfl
  refine wpList_app w hgd s x 22 ho base 5 i0 (.int .u8 0) 1 1 Tryz.underlying22 hi hz0 hz1 hz2 rfl (by decide) _ _ _ hs hown.2 B D m d (news.map bv) hx hr.2 (by simp [hr.1]) (bv_one _) (by unfold maxLen;omega) (by omega) hbase ?_;intro A' c' w' h1 h2 h3;rw [hob] at h2 h3;exact h A' c' w' ⟨by simp [hown.1,hr.1],by simpa using h1⟩ h2 h3 ((Below.refl _ _).grown h2 hbase (fun g hg=>(hown.lt g hg).1))
end Go.Proofs.YtfpenfgmpbdakaaGreat
