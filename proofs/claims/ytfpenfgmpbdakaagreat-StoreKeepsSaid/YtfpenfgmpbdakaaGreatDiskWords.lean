import Derived.Test.YtfpenfgmpbdakaaGreatDisk2
namespace Go.Proofs.YtfpenfgmpbdakaaGreat
set_option linter.unusedVariables false
set_option linter.unusedSimpArgs false
set_option maxRecDepth 100000
open Go.RowKit
open Disk
def DL (w : World) (F : Nat→Prop) (g size : Nat) (lasts : List UInt8) (ws : List W) (w' : World) : Prop:=DiskAt w' F g size lasts ws∧(∀ k,F k→w.heap.size≤k)∧Below w.heap.size w w'
section
variable {w w1 w2 : World} {F : Nat→Prop} {g size : Nat} {lasts l2 : List UInt8} {ws ws2 : List W}
theorem DL.op (h : DL w F g size lasts ws w1) (ho : DiskOp w1 F g size l2 ws2 w2) : ∃ F2,DL w F2 g size l2 ws2 w2∧Only F w1 w2∧Grows F F2 w1:=by
  obtain ⟨h1,h2,h3⟩:=h;obtain ⟨F2,o1,o2,o3⟩:=ho;exact ⟨F2,⟨o1,fun k hk=>by rcases o3 k hk with h | h;exact h2 k h;have:=h3.size;omega,h3.trans (o2.to_below h2 h3.size)⟩,o2,o3⟩
theorem DL.below (h : DL w F g size lasts ws w1) (hb : Below w1.heap.size w1 w2) : DL w F g size lasts ws w2:=⟨h.1.below hb,h.2.1,h.2.2.trans (hb.mono h.2.2.size)⟩
theorem DL.of_new (h0 : Below w.heap.size w w1) (h : DiskAt w2 F g size lasts ws) (hF : ∀ k,F k→w1.heap.size≤k) (hb : Below w1.heap.size w1 w2) : DL w F g size lasts ws w2 :=
  ⟨h,fun k hk=>Nat.le_trans h0.size (hF k hk),h0.trans (hb.mono h0.size)⟩
theorem OwnB.only {base n c : Nat} {A : Option Addr} {bs : List UInt8} (h : OwnB w base A n c bs) (ho : Only F w w1) (hF : ∀ k,F k→k < base) : OwnB w1 base A n c bs :=
  ⟨h.1,ownsRow_keep h.2 fun k hk=>ho.block k (h.lt k hk).2 fun hf=>by have:=hF k hf;have:=(h.lt k hk).1;omega⟩
theorem DiskOp.alloc (h : DiskOp w F g size lasts ws w1) (o : Obj) : DiskOp w F g size lasts ws (w1.alloc o):=by
  obtain ⟨F',h1,h2,h3⟩:=h;exact ⟨F',h1.below ((Below.refl _ _).alloc (Nat.le_refl _) _),h2.alloc _,h3⟩
theorem DiskOp.then_below (h : DiskOp w F g size lasts ws w1) (hb : Below w1.heap.size w1 w2) : DiskOp w F g size lasts ws w2:=by
  obtain ⟨F',h1,h2,h3⟩:=h;exact ⟨F',h1.below hb,⟨hb.os.trans h2.os,hb.tape.trans h2.tape,hb.output.trans h2.output,Nat.le_trans h2.size hb.size,fun k hk hn=>(hb.block k (Nat.lt_of_lt_of_le hk h2.size)).trans (h2.block k hk hn)⟩,h3⟩
theorem DiskOp.of {F1 : Nat→Prop} {ws3 : List W} {l3 : List UInt8} (h2 : Only F w w1) (h3 : Grows F F1 w) (k : DiskOp w1 F1 g size l3 ws3 w2) : DiskOp w F g size l3 ws3 w2:=by
  obtain ⟨F2,k1,k2,k3⟩:=k;exact ⟨F2,k1,h2.trans k2 h3,h3.trans k3 h2.size⟩
theorem DiskOp.cell {w0 : World} (h : DiskOp w0 F g size lasts ws w1) (hF : ∀ k,F k→k < w.heap.size) (hb : Below w.heap.size w w0) (hs : w.heap.size < w0.heap.size) (i : Nat) (v : Value) : DiskOp w F g size lasts ws (w1.setCell ⟨w.heap.size,i,none⟩ v):=by
  obtain ⟨F',h1,h2,h3⟩:=h
  have hn : ¬ F' w.heap.size:=fun hk=>by
    rcases h3 _ hk with q | q
    · have:=hF _ q;omega
    · omega
  refine ⟨F',h1.keep ⟨by simp [World.setCell],fun k hk=>Below.heap_setCell w1 _ _ k (fun e=>hn (by have e : k = w.heap.size:=e;rw [← e];exact hk))⟩,((Only.of_below F hb).trans h2 (Grows.refl _ _)).setCell (.inr (Nat.le_refl _)) v,fun k hk=>?_⟩
  rcases h3 k hk with q | q
  · exact .inl q
  · right;omega
theorem DiskOp.kept {b : Nat} {t : TypeId} {cs : Array Value} (h : DiskOp w F g size lasts ws w1) (k : Blk w b t cs) (hF : ¬ F b) : Blk w1 b t cs:=by
  obtain ⟨F',h1,h2,h3⟩:=h;exact k.only h2 hF
end
end Go.Proofs.YtfpenfgmpbdakaaGreat
