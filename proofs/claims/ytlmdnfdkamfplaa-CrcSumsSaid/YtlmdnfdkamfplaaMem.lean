/- Words for memory: a slice of bytes that reads as a list; what keeps it. -/
import Derived.WalkKit
import Derived.Lib.Hide
import Derived.Deep.Draws
import Derived.Deep.LoopGhost
import Derived.Deep.QuietTactic
import Derived.BigQuiet
namespace Go.Proofs.Ytlmdnfdkamfplaa
open Go.RowKit

/-- a byte as a cell's value -/
abbrev bv (c : UInt8) : Value := .int .u8 (c.toNat : Int)

/-- From address A on, below block B, the cells hold the values xs. -/
def Rd (w : World) (B : Nat) (A : Option Addr) (xs : List Value) : Prop :=
  ∀ j u, xs[j]? = some u → ∃ a, A = some a ∧ a.block < B ∧ w.cell? (a.add j) = some u

section
variable {w w' : World} {B B' : Nat} {A : Option Addr} {xs : List Value}
theorem block_add (a : Addr) (n : Nat) : (a.add n).block = a.block := by unfold Addr.add; split <;> rfl
theorem add_add (a : Addr) (i j : Nat) : (a.add i).add j = a.add (i + j) := by
  unfold Addr.add
  by_cases hi : i = 0 <;> by_cases hj : j = 0 <;> simp [hi, hj, Nat.add_assoc]
theorem add_mk (b o i : Nat) : (⟨b, o, none⟩ : Addr).add i = ⟨b, o + i, none⟩ := by
  unfold Addr.add; split
  · rename_i h; rw [h]; rfl
  · rfl
theorem Rd.nil (w : World) (B : Nat) (A : Option Addr) : Rd w B A [] := fun j u h => by simp at h
theorem Rd.keep (h : Rd w B A xs) (hk : ∀ p : Addr, p.block < B → w'.cell? p = w.cell? p) : Rd w' B A xs := fun j u hu => by
  obtain ⟨a, e, hb, hc⟩ := h j u hu
  exact ⟨a, e, hb, (hk _ (by rw [block_add]; exact hb)).trans hc⟩
theorem Rd.more (h : Rd w B A xs) (hB : B ≤ B') : Rd w B' A xs := fun j u hu => by
  obtain ⟨a, e, hb, hc⟩ := h j u hu
  exact ⟨a, e, by omega, hc⟩
theorem Rd.size (h : Rd w B A xs) : Rd w w.heap.size A xs := fun j u hu => by
  obtain ⟨a, e, _, hc⟩ := h j u hu
  exact ⟨a, e, by have := World.block_lt_of_cell? w _ hc; rwa [block_add] at this, hc⟩
theorem Rd.below (h : Rd w B A xs) (hb : Below B w w') : Rd w' B A xs := h.keep fun _ hp => hb.cell hp
theorem Rd.drew (h : Rd w B A xs) : Rd w.drew B A xs := h
theorem Rd.drewN (h : Rd w B A xs) (n : Nat) : Rd (w.drewN n) B A xs := h
theorem Rd.alloc (h : Rd w B A xs) (hB : B ≤ w.heap.size) (o : Obj) : Rd (w.alloc o) B A xs := h.keep fun p hp => World.cell?_alloc_lt w o p (by omega)
theorem Rd.setCell (h : Rd w B A xs) {p : Addr} (hB : B ≤ p.block) (u : Value) : Rd (w.setCell p u) B A xs :=
  h.keep fun q hq => World.cell?_setCell_other w p q u (fun e => by subst e; omega)
theorem Rd.grown (h : Rd w B A xs) {row : Option Nat} (hg : w.grownBy w' row) (hB : B ≤ w.heap.size) (hr : ∀ g, row = some g → B ≤ g) : Rd w' B A xs :=
  h.keep fun p hp => World.cell?_of_block (hg.block p.block (by omega) (fun e => by have := hr _ e.symm; omega))
theorem Rd.at_ (h : Rd w B A xs) {k : Nat} (hk : k < xs.length) : ∃ a, A = some a ∧ a.block < B ∧ w.cell? (a.add k) = some xs[k] := h k _ (List.getElem?_eq_getElem hk)
theorem Rd.drop (h : Rd w B A xs) (k : Nat) : Rd w B (A.map (·.add k)) (xs.drop k) := fun j u hu => by
  rw [List.getElem?_drop] at hu
  obtain ⟨a, rfl, hb, hc⟩ := h _ u hu
  exact ⟨a.add k, rfl, by rw [block_add]; exact hb, by rw [add_add]; exact hc⟩
theorem Rd.take (h : Rd w B A xs) (k : Nat) : Rd w B A (xs.take k) := fun j u hu => by
  rw [List.getElem?_take] at hu
  split at hu
  · exact h j u hu
  · cases hu
theorem Rd.made (w : World) (cs : Array Value) (t : TypeId) (m : Nat × Nat) : Rd (w.alloc (.cells cs t m)) (w.heap.size + 1) (some ⟨w.heap.size, 0, none⟩) cs.toList := fun j u hu => by
  refine ⟨_, rfl, Nat.lt_succ_self _, ?_⟩
  rw [add_mk, Nat.zero_add, World.cell?_alloc_mark, ← hu]
  exact (Array.getElem?_toList ..).symm
theorem Rd.of_own {base : Nat} {e : TypeId} {n c : Nat} (h : w.ownsRow base e 1 (.slice A n c) n xs) : Rd w w.heap.size A xs := fun j u hu => by
  rcases h.2 with ⟨hv, h0⟩ | ⟨g, cap, cur, hv, hb, hh, hn, hm, hs, hc⟩
  · have := h.1; rw [h0] at this; simp at this; subst this; simp at hu
  · injection hv with hA
    subst hA
    exact ⟨_, rfl, (h.lt g rfl).2, h.cells (g := g) rfl j u hu⟩
end

/-- bytes -/
def RdB (w : World) (B : Nat) (A : Option Addr) (bs : List UInt8) : Prop := Rd w B A (bs.map bv)
section
variable {w w' : World} {B B' : Nat} {A : Option Addr} {bs : List UInt8}
theorem RdB.at_ (h : RdB w B A bs) {k : Nat} (hk : k < bs.length) : ∃ a, A = some a ∧ a.block < B ∧ w.cell? (a.add k) = some (bv bs[k]) := by
  have := Rd.at_ h (k := k) (by simpa using hk)
  simpa using this
theorem RdB.nil (w : World) (B : Nat) (A : Option Addr) : RdB w B A [] := Rd.nil w B A
theorem RdB.below (h : RdB w B A bs) (hb : Below B w w') : RdB w' B A bs := Rd.below h hb
theorem RdB.alloc (h : RdB w B A bs) (hB : B ≤ w.heap.size) (o : Obj) : RdB (w.alloc o) B A bs := Rd.alloc h hB o
theorem RdB.size (h : RdB w B A bs) : RdB w w.heap.size A bs := Rd.size h
theorem RdB.drop (h : RdB w B A bs) (k : Nat) : RdB w B (A.map (·.add k)) (bs.drop k) := by
  have := Rd.drop h k
  rwa [← List.map_drop] at this
theorem RdB.take (h : RdB w B A bs) (k : Nat) : RdB w B A (bs.take k) := by
  have := Rd.take h k
  rwa [← List.map_take] at this
end
theorem take_snoc {α : Type} (l : List α) {k : Nat} (h : k < l.length) : l.take (k + 1) = l.take k ++ [l[k]] := List.take_succ_eq_append_getElem h
end Go.Proofs.Ytlmdnfdkamfplaa
