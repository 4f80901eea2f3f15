import Derived.Test.YtfpenfgmpbdakaaGreatMem
import Derived.Test.YtfpenfgmpbdakaaGreatStop
import Derived.Deep.MidRow
import Derived.Deep.RegionWith
import Derived.Deep.RegionHeld
namespace Go.Proofs.YtfpenfgmpbdakaaGreat
set_option linter.unusedVariables false
set_option linter.unusedSimpArgs false
set_option maxRecDepth 100000
open Go.RowKit
theorem wp_region_below {P : Program} {id : Nat} {Q : Exit→Act→World→Prop} {a : Act} {w : World} {l : List Oper} (hm : P.follows .mixedOrders = true) (hB : Region.lexB .any l.toArray = true)
    (h : ∀ (T : Type) (_ : Nonempty T) (F : T→World),(∀ x,Below w.heap.size w (F x))→(∀ w',Below w.heap.size w w'→∃ x,w' = F x) →
      wpQuiet P l.toArray (fun w'=>∃ x,w' = F x) (fun a'=>∀ w',(∃ x,w' = F x)→Q .normal a' w') l a) : (Code.region id l.toArray true).wp P Q a w:=by
  have h1:=h {w' // Below w.heap.size w w'} ⟨⟨w,Below.refl _ _⟩⟩ Subtype.val (fun x=>x.2) (fun w' hw=>⟨⟨w',hw⟩,rfl⟩);exact wp_region_quiet (C:=fun w'=>∃ x : {w' // Below w.heap.size w w'},w' = x.val) hm hB ⟨⟨_,(Below.refl _ _).drew⟩,rfl⟩ (by simpa using h1)
theorem calls_below {P : Program} {f : FuncId} {args : Array Value} {T : Type} {F : T→World} {w : World} {x : T} {v : Value} (hF : ∀ x,Below w.heap.size w (F x)) (hT : ∀ w',Below w.heap.size w w'→∃ x,w' = F x)
    (h : Calls P f args (F x) fun e w'=>e = .returned v∧Below (F x).heap.size (F x) w') : Calls P f args (F x) fun e w''=>e = .returned v∧∃ y,w'' = F y :=
  h.mono fun _ _ ⟨he,hb⟩=>⟨he,hT _ ((hF x).trans (hb.mono (hF x).size))⟩
theorem own_ne {w : World} {base : Nat} {e : TypeId} {size : Nat} {A : Option Addr} {n c g : Nat} {xs : List Value} {t : TypeId} {cs : Array Value} (h : w.ownsRow base e size (.slice A n c) n xs) (hB : Blk w g t cs) (hne : t ≠ e) : A.map (·.block) ≠ some g:=fun hk=>by
  obtain ⟨cur,hc⟩:=ownsRow_type h hk
  unfold Blk at hB
  rw [hB] at hc
  injection hc with hc
  injection hc with _ ht
  exact hne ht
def RowT (P : Program) (T : TypeId) (n : Nat) : Prop:=∃ d,P.underlying T = some d∧d.isRow = true∧(P.info? T).map (·.size) = some n
section
variable {P : Program} {T t : TypeId} {n g : Nat} {cs : Array Value}
theorem Blk.range {w : World} (h : Blk w g t cs) : w.rangeAt g 0 cs.toList:=fun j v hv=>by
  rw [Nat.zero_add,h.cell]
  simpa using hv
theorem wpList_load_blk {ops : Array Oper} {rest : List Oper} {o : Oper} {a : Act} {w : World} {Q : Exit→Act→World→Prop} (hgd : o.guard = none) (hR : RowT P T n) (x : Operand) (ho : o.op = .load T x) (hx : a.eval x = .pointer (some ⟨g,0,none⟩))
    (hB : Blk w g t cs) (hn : cs.size = n) (h : wpList P ops Q rest (a.put o.dst (.agg cs)) w) : wpList P ops Q (o :: rest) a w:=by
  obtain ⟨d,hu,hd,hi⟩:=hR;rw [← hn,← Array.length_toList] at hi;exact wpList_load_mid hgd T x ho g 0 hx cs.toList d hB.range hu hd hi (by simpa using h)
theorem wpList_ld {ops : Array Oper} {rest : List Oper} {a : Act} {w : World} {Q : Exit→Act→World→Prop} {d : Option Tmp} {ty : TypeId} {pos : String} {aft : Array Edge} {x : Operand} (hR : RowT P T n) (hB : Blk w g t cs) (hn : cs.size = n)
    (h : wpList P ops Q rest (a.put d (.agg cs)) w) (hx : a.eval x = .pointer (some ⟨g,0,none⟩)) : wpList P ops Q (⟨d,.load T x,ty,pos,aft,none⟩ :: rest) a w :=
  wpList_load_blk rfl hR x rfl hx hB hn h
theorem setCells_heap (w : World) (g : Nat) : ∀ (vs : List Value) (o : Nat) (cs : Array Value),w.heap[g]? = some (.cells cs t (0,0))→∃ cs',(w.setCells g o vs).heap[g]? = some (.cells cs' t (0,0))∧cs'.size = cs.size∧(∀ j,(j < o∨o + vs.length≤j)→cs'[j]? = cs[j]?)∧∀ j,j < vs.length→o + j < cs.size→cs'[o + j]? = vs[j]?:=by
  intro vs
  induction vs generalizing w with
  | nil=>intro o cs h;exact ⟨cs,h,rfl,fun _ _=>rfl,fun j hj=>absurd hj (by simp)⟩
  | cons v r ih =>
    intro o cs h
    have h1 : (w.setCell ⟨g,o,none⟩ v).heap[g]? = some (.cells (cs.setIfInBounds o v) t (0,0)):=by
      have hb : Blk w g t cs:=h;exact hb.set_ o v
    obtain ⟨cs',k1,k2,k3,k4⟩:=ih (w.setCell ⟨g,o,none⟩ v) (o + 1) _ h1;refine ⟨cs',k1,by simpa using k2,fun j hj=>?_,fun j hj hs=>?_⟩
    · rw [k3 j (by simp at hj;omega)]
      rw [Array.getElem?_setIfInBounds_ne (by simp at hj;omega)]
    · cases j with
      | zero =>
        rw [k3 _ (by omega)]
        simp [Array.getElem?_setIfInBounds_self] at hs ⊢
        exact hs
      | succ j =>
        have:=k4 j (by simpa using hj) (by simpa using by omega)
        rw [show o + 1 + j = o + (j + 1) by omega] at this
        simpa using this
theorem setCells_other (w : World) (g : Nat) : ∀ (vs : List Value) (o k : Nat),k ≠ g→(w.setCells g o vs).heap[k]? = w.heap[k]?:=by
  intro vs
  induction vs generalizing w with
  | nil=>intro o k _;rfl
  | cons v r ih=>intro o k hk;exact (ih (w.setCell ⟨g,o,none⟩ v) (o + 1) k hk).trans (Below.heap_setCell w _ v k (by simpa using hk))
theorem setCells_size (w : World) (g : Nat) : ∀ (vs : List Value) (o : Nat),(w.setCells g o vs).heap.size = w.heap.size∧(w.setCells g o vs).os = w.os∧(w.setCells g o vs).tape = w.tape∧(w.setCells g o vs).output = w.output:=by
  intro vs
  induction vs generalizing w with
  | nil=>intro o;exact ⟨rfl,rfl,rfl,rfl⟩
  | cons v r ih =>
    intro o;obtain ⟨h1,h2,h3,h4⟩:=ih (w.setCell ⟨g,o,none⟩ v) (o + 1);exact ⟨by rw [World.setCells,h1];simp [World.setCell],h2,h3,h4⟩
theorem wpList_store_blk {ops : Array Oper} {rest : List Oper} {o : Oper} {a : Act} {w : World} {Q : Exit→Act→World→Prop} {ds : Array Value} (hgd : o.guard = none) (hR : RowT P T n) (x y : Operand) (ho : o.op = .store T x y) (hx : a.eval x = .pointer (some ⟨g,0,none⟩)) (hy : a.eval y = .agg cs)
    (hB : Blk w g t ds) (hn : cs.size = n) (hm : ds.size = n) (h1 : cs.all (·.oneCell') = true) (h : ∀ w',Blk w' g t cs→w.grownBy w' (some g)→w'.heap.size = w.heap.size→wpList P ops Q rest (a.put o.dst undef) w') : wpList P ops Q (o :: rest) a w:=by
  obtain ⟨d,hu,hd,hi⟩:=hR;rw [← hn] at hi;refine wpList_store_mid hgd T x y ho g 0 cs hx hy (fun j hj=>?_) hi h1 (h _ ?_ ?_ ?_)
  · rw [hB.cell,hB.free]
    simp;omega
  · obtain ⟨cs',k1,k2,k3,k4⟩:=setCells_heap w g cs.toList 0 ds hB
    have : cs' = cs:=by
      apply Array.ext_getElem?
      intro j
      by_cases hj : j < cs.size
      · have:=k4 j (by simpa using hj) (by omega)
        simpa using this
      · rw [Array.getElem?_eq_none (by omega),Array.getElem?_eq_none (by omega)]
    subst this;exact k1
  · obtain ⟨k1,k2,k3,k4⟩:=setCells_size w g cs.toList 0
    exact ⟨k2,k3,k4,by rw [k1];exact Nat.le_refl _,fun k hk hne=>setCells_other w g _ _ k (fun e=>hne (by rw [e]))⟩
  · exact (setCells_size w g cs.toList 0).1
theorem wpList_st {ops : Array Oper} {rest : List Oper} {a : Act} {w : World} {Q : Exit→Act→World→Prop} {ds : Array Value} {d : Option Tmp} {ty : TypeId} {pos : String} {aft : Array Edge} {x y : Operand} (hR : RowT P T n) (hB : Blk w g t ds) (hn : cs.size = n) (hm : ds.size = n) (h1 : cs.all (·.oneCell') = true)
    (h : ∀ w',Blk w' g t cs→w.grownBy w' (some g)→w'.heap.size = w.heap.size→wpList P ops Q rest (a.put d undef) w') (hx : a.eval x = .pointer (some ⟨g,0,none⟩)) (hy : a.eval y = .agg cs) : wpList P ops Q (⟨d,.store T x y,ty,pos,aft,none⟩ :: rest) a w :=
  wpList_store_blk rfl hR x y rfl hx hy hB hn hm h1 h
theorem yieldsIf_ld {ops : Array Oper} {S : World→Prop} {o : Oper} {a : Act} (hw : Region.wanted o (yielded ops a.tmps) = true) (hR : RowT P T n) (x : Operand) (ho : o.op = .load T x) (hx : a.eval x = .pointer (some ⟨g,0,none⟩)) (hS : ∀ w,S w→Blk w g t cs) (hn : cs.size = n) : YieldsIf P ops S o (.agg cs) a:=by
  obtain ⟨d,hu,hd,hi⟩:=hR;rw [← hn,← Array.length_toList] at hi
  have:=yieldsIf_load_mid (P:=P) (ops:=ops) (S:=S) (op:=o) (a:=a) hw T x ho g 0 hx cs.toList d (fun w h=>(hS w h).range) hu hd hi
  simpa using this
theorem results_blk {fn : Func} {p : Tmp} {w : World} {tmps : Array Value} (h : fn.results = #[.cell p T]) (hR : RowT P T n) (hB : Blk w g t cs) (hn : cs.size = n) (hp : tmps.getD p undef = .pointer (some ⟨g,0,none⟩)) : (results fn tmps).run P w = .ok (.agg cs) w:=by
  obtain ⟨d,hu,hd,hi⟩:=hR;rw [← hn,← Array.length_toList] at hi
  have hp' : tmps[p]?.getD undef = .pointer (some ⟨g,0,none⟩):=by simpa using hp
  have hl:=run_loadVar_mid w g 0 T cs.toList d hB.range hu hd hi;rw [Array.toArray_toList] at hl
  simp [results,h,hp',asAddr,hl]
theorem results_blk2 {fn : Func} {p q : Tmp} {w : World} {tmps : Array Value} (h : fn.results = #[.cell p T,.tmp q]) (hR : RowT P T n) (hB : Blk w g t cs) (hn : cs.size = n) (hp : tmps.getD p undef = .pointer (some ⟨g,0,none⟩)) {v : Value} (hv : tmps.getD q undef = v) : (results fn tmps).run P w = .ok (.tuple #[.agg cs,v]) w:=by
  subst hv;obtain ⟨d,hu,hd,hi⟩:=hR;rw [← hn,← Array.length_toList] at hi
  have hp' : tmps[p]?.getD undef = .pointer (some ⟨g,0,none⟩):=by simpa using hp
  have hl:=run_loadVar_mid w g 0 T cs.toList d hB.range hu hd hi;rw [Array.toArray_toList] at hl
  simp [results,h,hp',asAddr,hl]
end
end Go.Proofs.YtfpenfgmpbdakaaGreat
