import Derived.WalkKit
import Derived.Lib.Hide
import Derived.Deep.Draws
import Derived.Deep.LoopGhost
import Derived.Deep.QuietTactic
import Derived.BigQuiet
import Derived.Maps.AppendAt
import Derived.OwnWalk
namespace Go.Proofs.YtfpenfgmpbdakaaGreat
set_option linter.unusedVariables false
set_option linter.unusedSimpArgs false
set_option maxRecDepth 100000
open Go.RowKit
abbrev bv (c : UInt8) : Value:=.int .u8 (c.toNat : Int)
def Rd (w : World) (B : Nat) (A : Option Addr) (xs : List Value) : Prop :=
  ∀ j u,xs[j]? = some u→∃ a,A = some a∧a.block < B∧w.cell? (a.add j) = some u
section
variable {w w' : World} {B B' : Nat} {A : Option Addr} {xs : List Value}
theorem block_add (a : Addr) (n : Nat) : (a.add n).block = a.block:=by unfold Addr.add;split <;> rfl
theorem add_add (a : Addr) (i j : Nat) : (a.add i).add j = a.add (i + j):=by
  unfold Addr.add
  by_cases hi : i = 0 <;> by_cases hj : j = 0 <;> simp [hi,hj,Nat.add_assoc]
theorem add_mk (b o i : Nat) : (⟨b,o,none⟩ : Addr).add i = ⟨b,o + i,none⟩:=by
  unfold Addr.add;split
  · rename_i h;rw [h];rfl
  · rfl
theorem Rd.nil (w : World) (B : Nat) (A : Option Addr) : Rd w B A []:=fun j u h=>by simp at h
theorem Rd.keep (h : Rd w B A xs) (hk : ∀ p : Addr,p.block < B→w'.cell? p = w.cell? p) : Rd w' B A xs:=fun j u hu=>by
  obtain ⟨a,e,hb,hc⟩:=h j u hu;exact ⟨a,e,hb,(hk _ (by rw [block_add];exact hb)).trans hc⟩
theorem Rd.more (h : Rd w B A xs) (hB : B≤B') : Rd w B' A xs:=fun j u hu=>by
  obtain ⟨a,e,hb,hc⟩:=h j u hu;exact ⟨a,e,by omega,hc⟩
theorem Rd.size (h : Rd w B A xs) : Rd w w.heap.size A xs:=fun j u hu=>by
  obtain ⟨a,e,_,hc⟩:=h j u hu;exact ⟨a,e,by have:=World.block_lt_of_cell? w _ hc;rwa [block_add] at this,hc⟩
theorem Rd.below (h : Rd w B A xs) (hb : Below B w w') : Rd w' B A xs:=h.keep fun _ hp=>hb.cell hp
theorem Rd.drew (h : Rd w B A xs) : Rd w.drew B A xs:=h
theorem Rd.drewN (h : Rd w B A xs) (n : Nat) : Rd (w.drewN n) B A xs:=h
theorem Rd.alloc (h : Rd w B A xs) (hB : B≤w.heap.size) (o : Obj) : Rd (w.alloc o) B A xs:=h.keep fun p hp=>World.cell?_alloc_lt w o p (by omega)
theorem Rd.setCell (h : Rd w B A xs) {p : Addr} (hB : B≤p.block) (u : Value) : Rd (w.setCell p u) B A xs :=
  h.keep fun q hq=>World.cell?_setCell_other w p q u (fun e=>by subst e;omega)
theorem Rd.grown (h : Rd w B A xs) {row : Option Nat} (hg : w.grownBy w' row) (hB : B≤w.heap.size) (hr : ∀ g,row = some g→B≤g) : Rd w' B A xs :=
  h.keep fun p hp=>World.cell?_of_block (hg.block p.block (by omega) (fun e=>by have:=hr _ e.symm;omega))
theorem Rd.at_ (h : Rd w B A xs) {k : Nat} (hk : k < xs.length) : ∃ a,A = some a∧a.block < B∧w.cell? (a.add k) = some xs[k]:=h k _ (List.getElem?_eq_getElem hk)
theorem Rd.drop (h : Rd w B A xs) (k : Nat) : Rd w B (A.map (·.add k)) (xs.drop k):=fun j u hu=>by
  rw [List.getElem?_drop] at hu;obtain ⟨a,rfl,hb,hc⟩:=h _ u hu;exact ⟨a.add k,rfl,by rw [block_add];exact hb,by rw [add_add];exact hc⟩
theorem Rd.take (h : Rd w B A xs) (k : Nat) : Rd w B A (xs.take k):=fun j u hu=>by
  rw [List.getElem?_take] at hu
  split at hu
  · exact h j u hu
  · cases hu
theorem Rd.made (w : World) (cs : Array Value) (t : TypeId) (m : Nat × Nat) : Rd (w.alloc (.cells cs t m)) (w.heap.size + 1) (some ⟨w.heap.size,0,none⟩) cs.toList:=fun j u hu=>by
  refine ⟨_,rfl,Nat.lt_succ_self _,?_⟩;rw [add_mk,Nat.zero_add,World.cell?_alloc_mark,← hu];exact (Array.getElem?_toList ..).symm
theorem Rd.of_own {base : Nat} {e : TypeId} {n c : Nat} (h : w.ownsRow base e 1 (.slice A n c) n xs) : Rd w w.heap.size A xs:=fun j u hu=>by
  rcases h.2 with ⟨hv,h0⟩ | ⟨g,cap,cur,hv,hb,hh,hn,hm,hs,hc⟩
  · have:=h.1;rw [h0] at this;simp at this;subst this;simp at hu
  · injection hv with hA
    subst hA;exact ⟨_,rfl,(h.lt g rfl).2,h.cells (g:=g) rfl j u hu⟩
end
def RdB (w : World) (B : Nat) (A : Option Addr) (n : Nat) (bs : List UInt8) : Prop:=n = bs.length∧Rd w B A (bs.map bv)
section
variable {w w' : World} {B B' n : Nat} {A : Option Addr} {bs : List UInt8}
theorem RdB.at_ (h : RdB w B A n bs) {k : Nat} (hk : k < bs.length) : ∃ a,A = some a∧a.block < B∧w.cell? (a.add k) = some (bv bs[k]):=by
  have:=Rd.at_ h.2 (k:=k) (by simpa using hk)
  simpa using this
theorem RdB.nil (w : World) (B : Nat) (A : Option Addr) : RdB w B A 0 []:=⟨rfl,Rd.nil w B A⟩
theorem RdB.below (h : RdB w B A n bs) (hb : Below B w w') : RdB w' B A n bs:=⟨h.1,h.2.below hb⟩
theorem RdB.alloc (h : RdB w B A n bs) (hB : B≤w.heap.size) (o : Obj) : RdB (w.alloc o) B A n bs:=⟨h.1,h.2.alloc hB o⟩
theorem RdB.size (h : RdB w B A n bs) : RdB w w.heap.size A n bs:=⟨h.1,h.2.size⟩
theorem RdB.more (h : RdB w B A n bs) (hB : B≤B') : RdB w B' A n bs:=⟨h.1,h.2.more hB⟩
theorem RdB.drop (h : RdB w B A n bs) (k : Nat) : RdB w B (A.map (·.add k)) (n - k) (bs.drop k):=by
  have:=h.2.drop k
  exact ⟨by rw [h.1,List.length_drop],by rwa [← List.map_drop] at this⟩
theorem RdB.take (h : RdB w B A n bs) {k : Nat} (hk : k≤n) : RdB w B A k (bs.take k):=by
  have:=h.2.take k
  exact ⟨by rw [List.length_take];have:=h.1;omega,by rwa [← List.map_take] at this⟩
theorem RdB.made (w : World) (bs : List UInt8) (cs : Array Value) (t : TypeId) (m : Nat × Nat) (h : cs.toList = bs.map bv) : RdB (w.alloc (.cells cs t m)) (w.heap.size + 1) (some ⟨w.heap.size,0,none⟩) bs.length bs :=
  ⟨rfl,by rw [← h];exact Rd.made w cs t m⟩
theorem bv_one (bs : List UInt8) : ∀ u ∈ bs.map bv,u.oneCell' = true:=by
  intro u hu;obtain ⟨c,_,rfl⟩:=List.mem_map.1 hu
  rfl
end
def Moved (A' : Option Addr) (b : Option Nat) (s : Nat) : Prop:=A'.map (·.block) = b∨A'.map (·.block) = some s
/-! append onto a row of the call's own,the source nil or not -/
section
variable {P : Program} (w : World)
theorem run_app (base : Nat) (t ty e : TypeId) (i : TypeInfo) (z : Value) (size bytes : Nat) (ht : P.underlying t = some (.slice e)) (hi : P.info? e = some i) (hz : i.zero = some z)
    (hsize : i.size = size) (hby : i.bytes = bytes) (hzs : z.cells.size = size) (hsz : 0 < size)
    (v : Value) (n : Nat) (xs : List Value) (hown : w.ownsRow base e size v n xs)
    (B : Nat) (A : Option Addr) (m c : Nat) (news : List Value) (hr : Rd w B A news) (hl : news.length = m * size) (h1 : ∀ u ∈ news,u.oneCell' = true)
    (h63 : n + m≤maxLen) (hbytes : (n + m) * bytes≤140737488355328) (hbase : base≤w.heap.size) :
    ∃ v' w',(Builtin.append_ #[t,t] ty #[v,.slice A m c]).run P w = .ok v' w'∧w'.ownsRow base e size v' (n + m) (xs ++ news)∧w.grownBy w' v.ownBlock ∧
      (v'.ownBlock = v.ownBlock∨v'.ownBlock = some w.heap.size):=by
  rcases A with _ | ad
  · have hn : news = []:=by
      rcases news with _ | ⟨u,r⟩
      · rfl
      · obtain ⟨a,h,_⟩:=hr 0 u rfl
        cases h
    subst hn
    have hm : m = 0:=by
      rcases Nat.eq_zero_or_pos m with h | h
      · exact h
      · have:=Nat.mul_pos h hsz
        simp at hl;omega
    subst hm;refine ⟨v,w,?_,by simpa using hown,⟨rfl,rfl,rfl,Nat.le_refl _,fun _ _ _=>rfl⟩,.inl rfl⟩
    rcases hown.2 with ⟨rfl,rfl⟩ | ⟨g,cap,cur,rfl,_,_,hnc,_⟩
    · simp [Builtin.append_,run_underlying ht,sizeOf,typeInfo,hi,Builtin.lenOf,Builtin.firstCells]
    · simp [Builtin.append_,run_underlying ht,sizeOf,typeInfo,hi,Builtin.lenOf,Builtin.firstCells,hnc,storeCells]
  · have hcells : ∀ j u,news[j]? = some u→w.cell? (ad.add j) = some u:=by
      intro j u hu;obtain ⟨a,h,_,hc⟩:=hr j u hu
      injection h with h
      subst h;exact hc
    obtain ⟨v',w',hrun,h2,h3,_,h5⟩:=run_append_own_at (P:=P) w base t ty e i z size bytes ht hi hz hsize hby hzs hsz v n xs hown ad m c news hl hcells h1 h63 hbytes hbase;exact ⟨v',w',hrun,h2,h3,h5⟩
theorem wpList_app {ops : Array Oper} {rest : List Oper} {o : Oper} {a : Act} {Q : Exit→Act→World→Prop} (hgd : o.guard = none) (s x : Operand) (t : TypeId)
    (ho : o.op = .call { callee:=.builtin .append,args:=#[s,x],argTypes:=#[t,t] })
    (base : Nat) (e : TypeId) (i : TypeInfo) (z : Value) (size bytes : Nat) (ht : P.underlying t = some (.slice e)) (hi : P.info? e = some i) (hz : i.zero = some z)
    (hsize : i.size = size) (hby : i.bytes = bytes) (hzs : z.cells.size = size) (hsz : 0 < size)
    (v : Value) (n : Nat) (xs : List Value) (hs : a.eval s = v) (hown : w.ownsRow base e size v n xs)
    (B : Nat) (A : Option Addr) (m c : Nat) (news : List Value) (hx : a.eval x = .slice A m c) (hr : Rd w B A news) (hl : news.length = m * size) (h1 : ∀ u ∈ news,u.oneCell' = true)
    (h63 : n + m≤maxLen) (hbytes : (n + m) * bytes≤140737488355328) (hbase : base≤w.heap.size)
    (h : ∀ A' c' w',w'.ownsRow base e size (.slice A' (n + m) c') (n + m) (xs ++ news)→w.grownBy w' v.ownBlock→Moved A' v.ownBlock w.heap.size →
      wpList P ops Q rest (a.put o.dst (.slice A' (n + m) c')) w') : wpList P ops Q (o :: rest) a w:=by
  refine wpList_plain hgd fun K hK=>?_
  obtain ⟨v',w',hrun,h2,h3,h4⟩:=run_app (P:=P) w base t o.type e i z size bytes ht hi hz hsize hby hzs hsz v n xs hown B A m c news hr hl h1 h63 hbytes hbase
  unfold Oper.wp execOp
  simp only [ho,resolve,invoke,builtin,Sem.run_bind,Sem.run_pure,Result.andThen_ok,List.map_toArray,List.map_cons,List.map_nil,hs,hx,hrun]
  have hv : ∃ A' c',v' = .slice A' (n + m) c'∧v'.ownBlock = A'.map (·.block):=by
    rcases h2.2 with ⟨rfl,h0⟩ | ⟨g,cap,cur,rfl,_⟩
    · exact ⟨none,0,by rw [h0],rfl⟩
    · exact ⟨_,_,rfl,rfl⟩
  obtain ⟨A',c',rfl,hb⟩:=hv;rw [hb] at h4;exact hK _ _ (h A' c' w' h2 h3 h4)
end
theorem below_drewN {B : Nat} {a w : World} (h : Below B a w) (n : Nat) : Below B a (w.drewN n):=⟨h.os,h.tape,h.output,h.size,h.block⟩
theorem only_set {a w : World} {g : Nat} (h : a.grownBy w (some g)) {i : Nat} (u : Value) : a.grownBy (w.setCell ⟨g,i,none⟩ u) (some g) :=
  ⟨h.os,h.tape,h.output,by simpa [World.setCell] using h.size,fun k hk hne=>(Below.heap_setCell w _ u k (fun e=>hne (by rw [e]))).trans (h.block k hk hne)⟩
theorem only_new {a w : World} {row : Option Nat} (h : a.grownBy w row) {p : Addr} (hp : a.heap.size≤p.block) (u : Value) : a.grownBy (w.setCell p u) row :=
  ⟨h.os,h.tape,h.output,by simpa [World.setCell] using h.size,fun k hk hne=>(Below.heap_setCell w _ u k (by omega)).trans (h.block k hk hne)⟩
theorem only_of_below {a w : World} (h : Below a.heap.size a w) (row : Option Nat) : a.grownBy w row:=⟨h.os,h.tape,h.output,h.size,fun i hi _=>h.block i hi⟩
theorem only_drew {a w : World} {row : Option Nat} (h : a.grownBy w row) : a.grownBy w.drew row:=⟨h.os,h.tape,h.output,h.size,h.block⟩
theorem only_alloc {a w : World} {row : Option Nat} (h : a.grownBy w row) (o : Obj) : a.grownBy (w.alloc o) row :=
  ⟨h.os,h.tape,h.output,Nat.le_trans h.size (by simp),fun i hi hne=>(Below.heap_alloc w o i (Nat.lt_of_lt_of_le hi h.size)).trans (h.block i hi hne)⟩
theorem only_below {a w w' : World} {row : Option Nat} (h : a.grownBy w row) (hb : Below a.heap.size w w') : a.grownBy w' row :=
  ⟨hb.os.trans h.os,hb.tape.trans h.tape,hb.output.trans h.output,Nat.le_trans h.size hb.size,fun i hi hne=>(hb.block i hi).trans (h.block i hi hne)⟩
theorem only_drewN {a w : World} {row : Option Nat} (h : a.grownBy w row) (n : Nat) : a.grownBy (w.drewN n) row:=⟨h.os,h.tape,h.output,h.size,h.block⟩
theorem only_Below {a w : World} {g B : Nat} (h : a.grownBy w (some g)) (hB : B≤g) (hs : B≤a.heap.size) : Below B a w :=
  ⟨h.os,h.tape,h.output,h.size,fun k hk=>h.block k (by omega) (fun e=>by injection e;omega)⟩
theorem ownsRow_keep {w w' : World} {base : Nat} {e : TypeId} {size : Nat} {A : Option Addr} {n c : Nat} {xs : List Value} (h : w.ownsRow base e size (.slice A n c) n xs) (hk : ∀ k,A.map (·.block) = some k→w'.heap[k]? = w.heap[k]?) : w'.ownsRow base e size (.slice A n c) n xs:=by
  refine ⟨h.1,?_⟩
  rcases h.2 with h2 | ⟨g,cap,cur,hv,hb,hh,hr⟩
  · exact .inl h2
  · refine .inr ⟨g,cap,cur,hv,hb,?_,hr⟩
    injection hv with hA
    subst hA;exact (hk g rfl).trans hh
theorem ownsRow_type {w : World} {base : Nat} {e : TypeId} {size : Nat} {A : Option Addr} {n c k : Nat} {xs : List Value} (h : w.ownsRow base e size (.slice A n c) n xs) (hk : A.map (·.block) = some k) : ∃ cur,w.heap[k]? = some (.cells cur e (0,0)):=by
  rcases h.2 with ⟨hv,_⟩ | ⟨g,cap,cur,hv,hb,hh,hr⟩
  · injection hv with hA;subst hA;cases hk
  · injection hv with hA;subst hA;injection hk with hk;subst hk;exact ⟨cur,hh⟩
theorem ownsRow_lt {w : World} {base : Nat} {e : TypeId} {size : Nat} {A : Option Addr} {n c k : Nat} {xs : List Value} (h : w.ownsRow base e size (.slice A n c) n xs) (hk : A.map (·.block) = some k) : k < w.heap.size:=by
  obtain ⟨cur,hc⟩:=ownsRow_type h hk;exact lt_of_block hc
theorem ownsRow_le {w : World} {base : Nat} {e : TypeId} {size : Nat} {A : Option Addr} {n c : Nat} {xs : List Value} (h : w.ownsRow base e size (.slice A n c) n xs) : n≤c∧c≤maxLen:=by
  rcases h.2 with ⟨hv,h0⟩ | ⟨g,cap,cur,hv,hb,hh,h1,h2,_⟩
  · injection hv with _ _ hc;subst hc;unfold maxLen;omega
  · injection hv with _ _ hc;subst hc;exact ⟨h1,h2⟩
theorem ownsRow_base {w : World} {base base' : Nat} {e : TypeId} {size : Nat} {A : Option Addr} {n c : Nat} {xs : List Value} (h : w.ownsRow base e size (.slice A n c) n xs) (hb : base'≤base) : w.ownsRow base' e size (.slice A n c) n xs:=by
  refine ⟨h.1,?_⟩
  rcases h.2 with h | ⟨g,cap,cur,h1,h2,h3⟩
  · exact .inl h
  · exact .inr ⟨g,cap,cur,h1,by omega,h3⟩
def Blk (w : World) (b : Nat) (t : TypeId) (cs : Array Value) : Prop:=w.heap[b]? = some (.cells cs t (0,0))
section
variable {w w' : World} {b : Nat} {t : TypeId} {cs : Array Value}
theorem Blk.lt (h : Blk w b t cs) : b < w.heap.size:=lt_of_block h
theorem Blk.cell (h : Blk w b t cs) (i : Nat) : w.cell? ⟨b,i,none⟩ = cs[i]?:=by unfold Blk at h;simp [World.cell?,h]
theorem Blk.free (h : Blk w b t cs) (i : Nat) : w.frozen? ⟨b,i,none⟩ = false:=by unfold Blk at h;simp [World.frozen?,h]
theorem Blk.new (w : World) (t : TypeId) (cs : Array Value) : Blk (w.alloc (.cells cs t)) w.heap.size t cs:=heap_alloc_new w _
theorem Blk.alloc (h : Blk w b t cs) (o : Obj) : Blk (w.alloc o) b t cs:=(Below.heap_alloc w o b h.lt).trans h
theorem Blk.drew (h : Blk w b t cs) : Blk w.drew b t cs:=h
theorem Blk.drewN (h : Blk w b t cs) (n : Nat) : Blk (w.drewN n) b t cs:=h
theorem Blk.set_ (h : Blk w b t cs) (i : Nat) (u : Value) : Blk (w.setCell ⟨b,i,none⟩ u) b t (cs.setIfInBounds i u):=by
  unfold Blk at h ⊢
  simp [World.setCell,Array.getElem?_modify,h]
theorem Blk.far (h : Blk w b t cs) {p : Addr} (hp : b ≠ p.block) (u : Value) : Blk (w.setCell p u) b t cs:=(Below.heap_setCell w p u b hp).trans h
theorem Blk.below {B : Nat} (h : Blk w b t cs) (hb : Below B w w') (hg : b < B) : Blk w' b t cs:=(hb.block b hg).trans h
theorem Blk.grown {row : Option Nat} (h : Blk w b t cs) (hg : w.grownBy w' row) (hne : row ≠ some b) : Blk w' b t cs:=(hg.block b h.lt (fun e=>hne e.symm)).trans h
end
theorem take_snoc {α : Type} (l : List α) {k : Nat} (h : k < l.length) : l.take (k + 1) = l.take k ++ [l[k]]:=List.take_succ_eq_append_getElem h
end Go.Proofs.YtfpenfgmpbdakaaGreat
