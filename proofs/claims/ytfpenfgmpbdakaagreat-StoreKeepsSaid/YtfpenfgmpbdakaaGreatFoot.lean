import Derived.Test.YtfpenfgmpbdakaaGreatMem
namespace Go.Proofs.YtfpenfgmpbdakaaGreat
set_option linter.unusedVariables false
set_option linter.unusedSimpArgs false
set_option maxRecDepth 100000
open Go.RowKit
structure Only (F : Nat→Prop) (w w' : World) : Prop where
  os : w'.os = w.os
  tape : w'.tape = w.tape
  output : w'.output = w.output
  size : w.heap.size≤w'.heap.size
  block : ∀ k,k < w.heap.size→¬ F k→w'.heap[k]? = w.heap[k]?
structure Keeps (F : Nat→Prop) (w w' : World) : Prop where
  size : w.heap.size≤w'.heap.size
  block : ∀ k,F k→w'.heap[k]? = w.heap[k]?
def Grows (F F' : Nat→Prop) (w : World) : Prop:=∀ k,F' k→F k∨w.heap.size≤k
section
variable {F F' G : Nat→Prop} {a w w' w'' : World}
theorem Only.refl (F : Nat→Prop) (w : World) : Only F w w:=⟨rfl,rfl,rfl,Nat.le_refl _,fun _ _ _=>rfl⟩
theorem Only.trans (h : Only F w w') (k : Only F' w' w'') (hg : Grows F F' w) : Only F w w'' :=
  ⟨k.os.trans h.os,k.tape.trans h.tape,k.output.trans h.output,Nat.le_trans h.size k.size,fun i hi hn =>
    (k.block i (Nat.lt_of_lt_of_le hi h.size) (fun hF=>by rcases hg i hF with h1 | h1;exact hn h1;omega)).trans (h.block i hi hn)⟩
theorem Only.mono (h : Only F w w') (hF : ∀ k,F k→G k∨w.heap.size≤k) : Only G w w' :=
  ⟨h.os,h.tape,h.output,h.size,fun i hi hn=>h.block i hi (fun hF'=>by rcases hF i hF' with h1 | h1;exact hn h1;omega)⟩
theorem Only.of_below (F : Nat→Prop) (h : Below w.heap.size w w') : Only F w w':=⟨h.os,h.tape,h.output,h.size,fun i hi _=>h.block i hi⟩
theorem Only.of_grown {g : Nat} (h : w.grownBy w' (some g)) (hg : F g) : Only F w w':=⟨h.os,h.tape,h.output,h.size,fun i hi hn=>h.block i hi (fun e=>by injection e with e;subst e;exact hn hg)⟩
theorem Only.then_below (h : Only F w w') (k : Below w.heap.size w' w'') : Only F w w'' :=
  ⟨k.os.trans h.os,k.tape.trans h.tape,k.output.trans h.output,Nat.le_trans h.size k.size,fun i hi hn=>(k.block i hi).trans (h.block i hi hn)⟩
theorem Only.to_below {B : Nat} (h : Only F w w') (hF : ∀ k,F k→B≤k) (hB : B≤w.heap.size) : Below B w w' :=
  ⟨h.os,h.tape,h.output,h.size,fun k hk=>h.block k (by omega) (fun hf=>by have:=hF k hf;omega)⟩
theorem Only.setCell (h : Only F w w') {p : Addr} (hp : F p.block∨w.heap.size≤p.block) (u : Value) : Only F w (w'.setCell p u) :=
  ⟨h.os,h.tape,h.output,by simpa [World.setCell] using h.size,fun k hk hn=>(Below.heap_setCell w' p u k (by
    rintro rfl
    rcases hp with hp | hp
    · exact hn hp
    · omega)).trans (h.block k hk hn)⟩
theorem Only.alloc (h : Only F w w') (o : Obj) : Only F w (w'.alloc o) :=
  ⟨h.os,h.tape,h.output,Nat.le_trans h.size (by simp),fun k hk hn=>(Below.heap_alloc w' o k (Nat.lt_of_lt_of_le hk h.size)).trans (h.block k hk hn)⟩
theorem Only.drewN (h : Only F w w') (n : Nat) : Only F w (w'.drewN n):=⟨h.os,h.tape,h.output,h.size,h.block⟩
theorem Only.keeps (h : Only F w w') (hd : ∀ k,G k→¬ F k) (hG : ∀ k,G k→k < w.heap.size) : Keeps G w w':=⟨h.size,fun k hk=>h.block k (hG k hk) (hd k hk)⟩
theorem Keeps.of_below {B : Nat} (h : Below B w w') (hF : ∀ k,F k→k < B) : Keeps F w w':=⟨h.size,fun k hk=>h.block k (hF k hk)⟩
theorem Grows.refl (F : Nat→Prop) (w : World) : Grows F F w:=fun _ h=>.inl h
theorem Grows.trans (h : Grows F F' w) (k : Grows F' G w') (hs : w.heap.size≤w'.heap.size) : Grows F G w:=fun i hi=>by
  rcases k i hi with h1 | h1
  · exact h i h1
  · right;omega
end
theorem Blk.only {F : Nat→Prop} {w w' : World} {b : Nat} {t : TypeId} {cs : Array Value} (h : Blk w b t cs) (o : Only F w w') (hn : ¬ F b) : Blk w' b t cs:=(o.block b h.lt hn).trans h
end Go.Proofs.YtfpenfgmpbdakaaGreat
