import Derived.Test.YtcgalmnllegnbaaMem
import Derived.Test.YtcgalmnllegnbaaChecked
namespace Go.Proofs.Ytcgalmnllegnbaa
set_option linter.unusedVariables false
set_option linter.unusedSimpArgs false
set_option maxRecDepth 100000
open Go.RowKit
abbrev iv (z : Int) : Value:=.int .i64 z
def RdI (w : World) (B : Nat) (A : Option Addr) (n : Nat) (bs : List Int) : Prop:=n = bs.length∧Rd w B A (bs.map iv)
section
variable {w w' : World} {B B' n : Nat} {A : Option Addr} {bs : List Int}
theorem RdI.at_ (h : RdI w B A n bs) {k : Nat} (hk : k < bs.length) : ∃ a,A = some a∧a.block < B∧w.cell? (a.add k) = some (iv bs[k]):=by
  have:=Rd.at_ h.2 (k:=k) (by simpa using hk)
  simpa using this
theorem RdI.nil (w : World) (B : Nat) (A : Option Addr) : RdI w B A 0 []:=⟨rfl,Rd.nil w B A⟩
theorem RdI.below (h : RdI w B A n bs) (hb : Below B w w') : RdI w' B A n bs:=⟨h.1,h.2.below hb⟩
theorem RdI.alloc (h : RdI w B A n bs) (hB : B≤w.heap.size) (o : Obj) : RdI (w.alloc o) B A n bs:=⟨h.1,h.2.alloc hB o⟩
theorem RdI.size (h : RdI w B A n bs) : RdI w w.heap.size A n bs:=⟨h.1,h.2.size⟩
theorem RdI.more (h : RdI w B A n bs) (hB : B≤B') : RdI w B' A n bs:=⟨h.1,h.2.more hB⟩
theorem RdI.drop (h : RdI w B A n bs) (k : Nat) : RdI w B (A.map (·.add k)) (n - k) (bs.drop k):=by
  have:=h.2.drop k
  exact ⟨by rw [h.1,List.length_drop],by rwa [← List.map_drop] at this⟩
theorem RdI.take (h : RdI w B A n bs) {k : Nat} (hk : k≤n) : RdI w B A k (bs.take k):=by
  have:=h.2.take k
  exact ⟨by rw [List.length_take];have:=h.1;omega,by rwa [← List.map_take] at this⟩
theorem RdI.made (w : World) (bs : List Int) (cs : Array Value) (t : TypeId) (m : Nat × Nat) (h : cs.toList = bs.map iv) : RdI (w.alloc (.cells cs t m)) (w.heap.size + 1) (some ⟨w.heap.size,0,none⟩) bs.length bs :=
  ⟨rfl,by rw [← h];exact Rd.made w cs t m⟩
theorem iv_one (bs : List Int) : ∀ u ∈ bs.map iv,u.oneCell' = true:=by
  intro u hu;obtain ⟨c,_,rfl⟩:=List.mem_map.1 hu
  rfl
end
theorem infoI : (Try.prog.info? 3).map (fun i=>(i.zero,i.size,i.bytes)) = some (some (.int .i64 0),1,8):=by kernel_rfl
def OwnI (w : World) (base : Nat) (A : Option Addr) (n c : Nat) (bs : List Int) : Prop:=n = bs.length∧w.ownsRow base 3 1 (.slice A n c) n (bs.map iv)
section
variable {w w' : World} {base n c : Nat} {A : Option Addr} {bs : List Int}
theorem OwnI.rd (h : OwnI w base A n c bs) : RdI w w.heap.size A n bs:=⟨h.1,Rd.of_own h.2⟩
theorem OwnI.alloc (h : OwnI w base A n c bs) (o : Obj) : OwnI (w.alloc o) base A n c bs:=⟨h.1,h.2.alloc o⟩
theorem OwnI.nil (w : World) (base : Nat) : OwnI w base none 0 0 []:=⟨rfl,World.ownsRow_nil w base _ 1⟩
theorem OwnI.made (w : World) (base : Nat) (bs : List Int) (cs : Array Value) (n : Nat) (h : cs.toList = bs.map iv) (hn : n = bs.length) (hb : base≤w.heap.size) (hm : n≤maxLen) :
    OwnI (w.alloc (.cells cs 3)) base (some ⟨w.heap.size,0,none⟩) n n bs:=by
  have hs : cs.size = bs.length:=by rw [← Array.length_toList,h,List.length_map]
  refine ⟨hn,?_,.inr ⟨w.heap.size,n,cs,rfl,hb,heap_alloc_new w _,Nat.le_refl _,hm,by omega,?_⟩⟩
  · simp [hn]
  · rw [h,List.take_of_length_le (by simp;omega)]
theorem OwnI.mono {base' : Nat} (h : OwnI w base A n c bs) (hb : base'≤base) : OwnI w base' A n c bs:=by
  refine ⟨h.1,h.2.1,?_⟩
  rcases h.2.2 with h | ⟨g,cap,cur,h1,h2,h3⟩
  · exact .inl h
  · exact .inr ⟨g,cap,cur,h1,by omega,h3⟩
theorem OwnI.lt (h : OwnI w base A n c bs) : ∀ g,A.map (·.block) = some g→base≤g∧g < w.heap.size:=fun g hg=>h.2.lt g (by
  rcases A with _ | a
  · simp at hg
  · simpa [Value.ownBlock] using hg)
theorem OwnI.form (h : OwnI w base A n c bs) (hn : 0 < n) : ∃ g,A = some ⟨g,0,none⟩∧base≤g∧g < w.heap.size:=by
  rcases h.2.2 with ⟨_,h0⟩ | ⟨g,cap,cur,hv,hb,hh,_⟩
  · omega
  · injection hv with hA
    subst hA;exact ⟨g,rfl,hb,lt_of_block hh⟩
theorem OwnI.cell {g : Nat} (h : OwnI w base (some ⟨g,0,none⟩) n c bs) {j : Nat} (hj : j < bs.length) : w.cell? ⟨g,j,none⟩ = some (iv bs[j]):=by
  rw [h.2.cellAt j (by rw [h.1];omega)]
  simp [hj]
theorem OwnI.free {g : Nat} (h : OwnI w base (some ⟨g,0,none⟩) n c bs) (j : Nat) : w.frozen? ⟨g,j,none⟩ = false:=h.2.frozenAt j
theorem OwnI.set_ {g : Nat} (h : OwnI w base (some ⟨g,0,none⟩) n c bs) (j : Nat) (x : Int) : OwnI (w.setCell ⟨g,j,none⟩ (iv x)) base (some ⟨g,0,none⟩) n c (bs.set j x):=by
  refine ⟨by rw [List.length_set];exact h.1,?_⟩
  have:=(h.2.stored j (iv x)).1
  rwa [← List.map_set] at this
theorem OwnI.setFar {p : Addr} (h : OwnI w base A n c bs) (hp : A.map (·.block) ≠ some p.block) (u : Value) : OwnI (w.setCell p u) base A n c bs :=
  ⟨h.1,ownsRow_setCell_other h.2 (by
    rcases A with _ | a
    · simp [Value.ownBlock]
    · simpa [Value.ownBlock] using hp) u⟩
theorem OwnI.drew (h : OwnI w base A n c bs) : OwnI w.drew base A n c bs:=h
theorem OwnI.grown {row : Option Nat} (h : OwnI w base A n c bs) (hg : w.grownBy w' row) (hne : A.map (·.block) = none∨A.map (·.block) ≠ row) : OwnI w' base A n c bs :=
  ⟨h.1,h.2.kept hg (by
    rcases A with _ | a
    · exact .inl rfl
    · rcases hne with h | h
      · simp at h
      · exact .inr h)⟩
theorem OwnI.below {B : Nat} (h : OwnI w base A n c bs) (hb : Below B w w') (hB : w.heap.size≤B) : OwnI w' base A n c bs :=
  ⟨h.1,h.2.kept (row:=none) ⟨hb.os,hb.tape,hb.output,hb.size,fun k hk _=>hb.block k (by omega)⟩ (by
    rcases h.2.2 with ⟨e,_⟩ | ⟨g,cap,cur,e,_⟩
    · rw [e];exact .inl rfl
    · rw [e];exact .inr (by simp [Value.ownBlock]))⟩
end
theorem wpList_appI {w : World} {ops : Array Oper} {rest : List Oper} {o : Oper} {a : Act} {Q : Exit→Act→World→Prop} (hgd : o.guard = none) (s x : Operand)
    (ho : o.op = .call { callee:=.builtin .append,args:=#[s,x],argTypes:=#[75,75] })
    {base : Nat} {A : Option Addr} {n c : Nat} {bs : List Int} (hs : a.eval s = .slice A n c) (hown : OwnI w base A n c bs)
    {B : Nat} {D : Option Addr} {m d : Nat} {news : List Int} (hx : a.eval x = .slice D m d) (hr : RdI w B D m news)
    (hbytes : n + m≤17592186044416) (hbase : base≤w.heap.size)
    (h : ∀ A' c' w',OwnI w' base A' (n + m) c' (bs ++ news)→w.grownBy w' (A.map (·.block))→Moved A' (A.map (·.block)) w.heap.size→Below base w w' →
      wpList Try.prog ops Q rest (a.put o.dst (.slice A' (n + m) c')) w') : wpList Try.prog ops Q (o :: rest) a w:=by
  obtain ⟨i0,hi,hz0,hz1,hz2⟩:=info_parts infoI
  have hob : (Value.slice A n c).ownBlock = A.map (·.block):=by cases A <;> rfl
  refine wpList_app w hgd s x 75 ho base 3 i0 (.int .i64 0) 1 8 Try.underlying75 hi hz0 hz1 hz2 rfl (by decide) _ _ _ hs hown.2 B D m d (news.map iv) hx hr.2 (by simp [hr.1]) (iv_one _) (by unfold maxLen;omega) (by omega) hbase ?_;intro A' c' w' h1 h2 h3;rw [hob] at h2 h3;exact h A' c' w' ⟨by simp [hown.1,hr.1],by simpa using h1⟩ h2 h3 ((Below.refl _ _).grown h2 hbase (fun g hg=>(hown.lt g hg).1))
end Go.Proofs.Ytcgalmnllegnbaa
