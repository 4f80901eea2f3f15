import Derived.Test.YtcgalmnllegnbaaMsgMath
import Derived.Test.YtcgalmnllegnbaaBytes
import Derived.Test.YtcgalmnllegnbaaFacts
namespace Go.Proofs.Ytcgalmnllegnbaa
set_option linter.unusedVariables false
set_option linter.unusedSimpArgs false
set_option maxRecDepth 100000
open Go.RowKit
open Ms (Mem)
theorem rowMb : RowT Try.prog 62 3:=⟨_,Try.underlying62,rfl,by kernel_rfl⟩
def MbAt (w : World) (B : Nat) (ad : Addr) (v : Mem) : Prop:=ad.block < B∧w.cell? ad = some (.int .i64 v.1)∧w.cell? ⟨ad.block,ad.off + 1,none⟩ = some (.int .i64 v.2.1)∧w.cell? ⟨ad.block,ad.off + 2,none⟩ = some (.int .i64 v.2.2)
def RdMb (w : World) (B : Nat) (A : Option Addr) (n : Nat) (l : List Mem) : Prop:=n = l.length∧∀ i v,l[i]? = some v→∃ ad,A = some ad∧MbAt w B (ad.add (i * 3)) v
def mbcs (l : List Mem) : List Value:=l.flatMap fun v=>[.int .i64 v.1,.int .i64 v.2.1,.int .i64 v.2.2]
section
variable {w w' : World} {B B' n : Nat} {A : Option Addr} {l : List Mem}
theorem MbAt.below {ad : Addr} {v : Mem} (h : MbAt w B ad v) (hb : Below B w w') : MbAt w' B ad v:=⟨h.1,(hb.cell h.1).trans h.2.1,(hb.cell (p:=⟨ad.block,ad.off + 1,none⟩) h.1).trans h.2.2.1,(hb.cell (p:=⟨ad.block,ad.off + 2,none⟩) h.1).trans h.2.2.2⟩
theorem RdMb.below (h : RdMb w B A n l) (hb : Below B w w') : RdMb w' B A n l:=⟨h.1,fun i d hi=>by obtain ⟨ad,e,h2⟩:=h.2 i d hi;exact ⟨ad,e,h2.below hb⟩⟩
theorem RdMb.more (h : RdMb w B A n l) (hB : B≤B') : RdMb w B' A n l:=⟨h.1,fun i d hi=>by obtain ⟨ad,e,h2,h3⟩:=h.2 i d hi;exact ⟨ad,e,by omega,h3⟩⟩
theorem RdMb.size (h : RdMb w B A n l) : RdMb w w.heap.size A n l:=⟨h.1,fun i d hi=>by obtain ⟨ad,e,h2,h3,h4⟩:=h.2 i d hi;exact ⟨ad,e,World.block_lt_of_cell? w _ h3,h3,h4⟩⟩
theorem RdMb.drew (h : RdMb w B A n l) : RdMb w.drew B A n l:=h
theorem RdMb.nil (w : World) (B : Nat) (A : Option Addr) : RdMb w B A 0 []:=⟨rfl,fun i d hi=>by simp at hi⟩
theorem mbcs_len (l : List Mem) : (mbcs l).length = l.length * 3:=by
  induction l with
  | nil=>rfl
  | cons d l ih=>show (([.int .i64 d.1,.int .i64 d.2.1,.int .i64 d.2.2] : List Value) ++ mbcs l).length = _;rw [List.length_append,ih];simp;omega
theorem mbcs_app (l m : List Mem) : mbcs (l ++ m) = mbcs l ++ mbcs m:=by unfold mbcs;rw [List.flatMap_append]
theorem mbcs_one (l : List Mem) : ∀ u ∈ mbcs l,u.oneCell' = true:=by
  intro u hu
  unfold mbcs at hu
  rw [List.mem_flatMap] at hu;obtain ⟨d,_,hd⟩:=hu
  simp at hd
  rcases hd with rfl | rfl | rfl <;> rfl
theorem mbcs_at (l : List Mem) : ∀ (i : Nat) (d : Mem),l[i]? = some d→(mbcs l)[i * 3]? = some (.int .i64 d.1)∧(mbcs l)[i * 3 + 1]? = some (.int .i64 d.2.1)∧(mbcs l)[i * 3 + 2]? = some (.int .i64 d.2.2):=by
  induction l with
  | nil=>intro i d h;simp at h
  | cons x l ih =>
    intro i d h;have e : mbcs (x :: l) = .int .i64 x.1 :: .int .i64 x.2.1 :: .int .i64 x.2.2 :: mbcs l:=rfl;rw [e]
    cases i with
    | zero=>simp at h;subst h;exact ⟨rfl,rfl,rfl⟩
    | succ i =>
      have:=ih i d (by simpa using h)
      rw [show (i + 1) * 3 = i * 3 + 1 + 1 + 1 by omega]
      simpa using this
theorem add_nextMb (ad : Addr) (i k : Nat) (hk : k ≠ 0) : ad.add (i * 3 + k) = ⟨(ad.add (i * 3)).block,(ad.add (i * 3)).off + k,none⟩:=by
  rw [show ad.add (i * 3 + k) = (ad.add (i * 3)).add k from (add_add ad (i * 3) k).symm]
  unfold Addr.add
  rw [if_neg hk]
theorem RdMb.of_rd (h : Rd w B A (mbcs l)) : RdMb w B A l.length l:=⟨rfl,fun i d hi=>by
  obtain ⟨h1,h2,h3⟩:=mbcs_at l i d hi;obtain ⟨a,e,hb,hc⟩:=h _ _ h1;obtain ⟨a',e',_,hc'⟩:=h _ _ h2;obtain ⟨a'',e'',_,hc''⟩:=h _ _ h3
  obtain rfl : a = a':=by rw [e] at e';injection e'
  obtain rfl : a = a'':=by rw [e] at e'';injection e''
  rw [add_nextMb _ _ _ (by decide)] at hc' hc''
  exact ⟨a,e,by rw [block_add];exact hb,hc,hc',hc''⟩⟩
theorem RdMb.rd (h : RdMb w B A n l) : Rd w B A (mbcs l):=fun j u hu=>by
  have hj : j < l.length * 3:=by
    have:=(List.getElem?_eq_some_iff.1 hu).1
    rwa [mbcs_len] at this
  obtain ⟨i,b,rfl,hb⟩ : ∃ i b,j = i * 3 + b∧b < 3:=⟨j / 3,j % 3,by omega,by omega⟩
  have hi : i < l.length:=by omega
  obtain ⟨ad,e,h1,h2,h3,h4⟩:=h.2 i _ (List.getElem?_eq_getElem hi);obtain ⟨k1,k2,k3⟩:=mbcs_at l i _ (List.getElem?_eq_getElem hi);refine ⟨ad,e,by rw [block_add] at h1;exact h1,?_⟩
  rcases (show b = 0∨b = 1∨b = 2 by omega) with rfl | rfl | rfl
  · rw [Nat.add_zero] at hu ⊢
    rw [h2,← hu,k1]
  · rw [add_nextMb _ _ _ (by decide),h3,← hu,k2]
  · rw [add_nextMb _ _ _ (by decide),h4,← hu,k3]
end
def OwnMb (T : TypeId) (w : World) (base : Nat) (A : Option Addr) (n c : Nat) (l : List Mem) : Prop:=n = l.length∧w.ownsRow base T 3 (.slice A n c) n (mbcs l)
theorem infoMb : (Try.prog.info? 62).map (fun i=>(i.zero,i.size,i.bytes)) = some (some (.agg #[.int .i64 0,.int .i64 0,.int .i64 0]),3,24):=by kernel_rfl
section
variable {T : TypeId} {w w' : World} {base n c : Nat} {A : Option Addr} {bs : List Mem}
theorem OwnMb.raw (h : OwnMb T w base A n c bs) : Rd w w.heap.size A (mbcs bs):=fun j u hu=>by
  rcases h.2.2 with ⟨hv,h0⟩ | ⟨g,cap,cur,hv,hb,hh,hn,hm,hs,hc⟩
  · have:=h.2.1;rw [h0] at this;simp at this;rw [this] at hu;simp at hu
  · injection hv with hA
    subst hA;exact ⟨_,rfl,(h.2.lt g rfl).2,h.2.cells (g:=g) rfl j u hu⟩
theorem OwnMb.rd (h : OwnMb T w base A n c bs) : RdMb w w.heap.size A n bs:=by
  have:=RdMb.of_rd h.raw
  rwa [← h.1] at this
theorem OwnMb.alloc (h : OwnMb T w base A n c bs) (o : Obj) : OwnMb T (w.alloc o) base A n c bs:=⟨h.1,h.2.alloc o⟩
theorem OwnMb.nil (T : TypeId) (w : World) (base : Nat) : OwnMb T w base none 0 0 []:=⟨rfl,World.ownsRow_nil w base _ 3⟩
theorem OwnMb.mono {base' : Nat} (h : OwnMb T w base A n c bs) (hb : base'≤base) : OwnMb T w base' A n c bs:=by
  refine ⟨h.1,h.2.1,?_⟩
  rcases h.2.2 with h | ⟨g,cap,cur,h1,h2,h3⟩
  · exact .inl h
  · exact .inr ⟨g,cap,cur,h1,by omega,h3⟩
theorem OwnMb.lt (h : OwnMb T w base A n c bs) : ∀ g,A.map (·.block) = some g→base≤g∧g < w.heap.size:=fun g hg=>h.2.lt g (by
  rcases A with _ | a
  · simp at hg
  · simpa [Value.ownBlock] using hg)
theorem OwnMb.form (h : OwnMb T w base A n c bs) (hn : 0 < n) : ∃ g,A = some ⟨g,0,none⟩∧base≤g∧g < w.heap.size:=by
  rcases h.2.2 with ⟨_,h0⟩ | ⟨g,cap,cur,hv,hb,hh,_⟩
  · omega
  · injection hv with hA
    subst hA;exact ⟨g,rfl,hb,lt_of_block hh⟩
theorem OwnMb.free {g : Nat} (h : OwnMb T w base (some ⟨g,0,none⟩) n c bs) (j : Nat) : w.frozen? ⟨g,j,none⟩ = false:=h.2.frozenAt j
theorem OwnMb.setFar {p : Addr} (h : OwnMb T w base A n c bs) (hp : A.map (·.block) ≠ some p.block) (u : Value) : OwnMb T (w.setCell p u) base A n c bs :=
  ⟨h.1,ownsRow_setCell_other h.2 (by
    rcases A with _ | a
    · simp [Value.ownBlock]
    · simpa [Value.ownBlock] using hp) u⟩
theorem OwnMb.drew (h : OwnMb T w base A n c bs) : OwnMb T w.drew base A n c bs:=h
theorem OwnMb.grown {row : Option Nat} (h : OwnMb T w base A n c bs) (hg : w.grownBy w' row) (hne : A.map (·.block) = none∨A.map (·.block) ≠ row) : OwnMb T w' base A n c bs :=
  ⟨h.1,h.2.kept hg (by
    rcases A with _ | a
    · exact .inl rfl
    · rcases hne with h | h
      · simp at h
      · exact .inr h)⟩
theorem OwnMb.below {B : Nat} (h : OwnMb T w base A n c bs) (hb : Below B w w') (hB : w.heap.size≤B) : OwnMb T w' base A n c bs :=
  ⟨h.1,h.2.kept (row:=none) ⟨hb.os,hb.tape,hb.output,hb.size,fun k hk _=>hb.block k (by omega)⟩ (by
    rcases h.2.2 with ⟨e,_⟩ | ⟨g,cap,cur,e,_⟩
    · rw [e];exact .inl rfl
    · rw [e];exact .inr (by simp [Value.ownBlock]))⟩
end
theorem wpList_appMb {w : World} {ops : Array Oper} {rest : List Oper} {o : Oper} {a : Act} {Q : Exit→Act→World→Prop} (hgd : o.guard = none) (s x : Operand)
    (ho : o.op = .call { callee:=.builtin .append,args:=#[s,x],argTypes:=#[25,25] })
    {base : Nat} {A : Option Addr} {n c : Nat} {bs : List Mem} (hs : a.eval s = .slice A n c) (hown : OwnMb 62 w base A n c bs)
    {B : Nat} {D : Option Addr} {m d : Nat} {news : List Mem} (hx : a.eval x = .slice D m d) (hr : Rd w B D (mbcs news)) (hm : m = news.length)
    (hbytes : n + m≤1000000000000) (hbase : base≤w.heap.size)
    (h : ∀ A' c' w',OwnMb 62 w' base A' (n + m) c' (bs ++ news)→w.grownBy w' (A.map (·.block))→Moved A' (A.map (·.block)) w.heap.size→Below base w w' →
      wpList Try.prog ops Q rest (a.put o.dst (.slice A' (n + m) c')) w') : wpList Try.prog ops Q (o :: rest) a w:=by
  obtain ⟨i0,hi,hz0,hz1,hz2⟩:=info_parts infoMb
  have hob : (Value.slice A n c).ownBlock = A.map (·.block):=by cases A <;> rfl
  refine wpList_app w hgd s x 25 ho base 62 i0 (.agg #[.int .i64 0,.int .i64 0,.int .i64 0]) 3 24 Try.underlying25 hi hz0 hz1 hz2 rfl (by decide) _ _ _ hs hown.2 B D m d (mbcs news) hx hr (by rw [mbcs_len,hm]) (mbcs_one _) (by unfold maxLen;omega) (by omega) hbase ?_;intro A' c' w' h1 h2 h3;rw [hob] at h2 h3;exact h A' c' w' ⟨by rw [List.length_append,hown.1,hm],by rw [mbcs_app];exact h1⟩ h2 h3 ((Below.refl _ _).grown h2 hbase (fun g hg=>(hown.lt g hg).1))
end Go.Proofs.Ytcgalmnllegnbaa
