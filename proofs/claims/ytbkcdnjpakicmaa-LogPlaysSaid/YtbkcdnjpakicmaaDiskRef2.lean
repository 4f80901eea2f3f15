/- The reference's disk: Read, Append, Swap, Crash, Sync, Do. -/
import Derived.Test.YtbkcdnjpakicmaaDiskRef
import Derived.Test.YtbkcdnjpakicmaaDiskWords
import Derived.Test.YtbkcdnjpakicmaaStep
namespace Go.Proofs.Ytbkcdnjpakicmaa
open Go.RowKit
open Disk

theorem rread_any (F : Nat → Prop) (g size : Nat) (lasts : List UInt8) (us : List U) (w : World) (hD : RefAt w F g size lasts us) (hm : lasts.length + massU us ≤ 1099511627776) :
    Calls Try.prog 42 #[.pointer (some ⟨g, 0, none⟩)] w (GiveB w (afterU lasts us)) := by
  have hD0 := hD
  obtain ⟨es, AL, cL, AW, cW, he, hE⟩ := hD0
  have c2 := hE.blk.cell 2
  have hel : es.length = us.length := by rw [← he]; simp
  have HE := Lib.hid hel
  clear hel he
  go_enter Try.func42, Try.ntmps42
  go_wp2_with fail
  refine (rafter_any es.length F g size lasts us w hD (by rw [HE.out]; omega) hm).mono ?_
  rw [HE.out, List.take_length]
  rintro e w1 ⟨A, n, c, rfl, h2, h3⟩
  go_wp2_with fail
  go_ret
  exact ⟨_, _, _, rfl, h2, h3⟩
/-- What an operation leaves. -/
def RefOp (w : World) (F : Nat → Prop) (g size : Nat) (lasts : List UInt8) (us : List U) (w' : World) : Prop :=
  ∃ F', RefAt w' F' g size lasts us ∧ Only F w w' ∧ Grows F F' w
theorem RefOp.of_below {w w1 w' : World} {F : Nat → Prop} {g size : Nat} {lasts : List UInt8} {us : List U} (hb : Below w.heap.size w w1) (h : RefOp w1 F g size lasts us w') : RefOp w F g size lasts us w' := by
  obtain ⟨F', h1, h2, h3⟩ := h
  exact ⟨F', h1, (Only.of_below F hb).trans h2 (Grows.refl _ _), fun k hk => by rcases h3 k hk with h | h; exact .inl h; right; have := hb.size; omega⟩
theorem RefOp.refl {w w' : World} {F : Nat → Prop} {g size : Nat} {lasts : List UInt8} {us : List U} (h : RefAt w F g size lasts us) (hb : Below w.heap.size w w') : RefOp w F g size lasts us w' := ⟨F, h.below hb, Only.of_below F hb, Grows.refl _ _⟩
theorem RefOp.trans {w w1 w2 : World} {F F1 : Nat → Prop} {g size : Nat} {l2 : List UInt8} {us2 : List U} (h1 : Only F w w1) (hg : Grows F F1 w) (h : RefOp w1 F1 g size l2 us2 w2) : RefOp w F g size l2 us2 w2 := by
  obtain ⟨F', k1, k2, k3⟩ := h
  exact ⟨F', k1, h1.trans k2 hg, hg.trans k3 h1.size⟩
theorem infoU : (Try.prog.info? 97).map (fun i => (i.zero, i.size, i.bytes)) = some (some (.agg #[.int .u8 0, .bool false, .slice none 0 0]), 3, 32) := by kernel_rfl
theorem FB.safe2 {w w' : World} {F : Nat → Prop} {A : Option Addr} {n c : Nat} {bs : List UInt8} (h : FB w F A n c bs) (hall : ∀ k cur t, k < w.heap.size → w.heap[k]? = some (.cells cur t (0, 0)) → t ≠ 95 → t ≠ 97 → w'.heap[k]? = w.heap[k]?) : FB w' F A n c bs :=
  ⟨⟨h.1.1, ownsRow_keep h.1.2 fun k hA => by
    obtain ⟨cur, hc⟩ := ownsRow_type h.1.2 hA
    exact hall k cur _ (lt_of_block hc) hc (by decide) (by decide)⟩, h.2⟩
theorem UAt.safe {w w' : World} {F : Nat → Prop} {e : U × (Option Addr × Nat)} (h : UAt w F e) (hall : ∀ k cur t, k < w.heap.size → w.heap[k]? = some (.cells cur t (0, 0)) → t ≠ 95 → t ≠ 97 → w'.heap[k]? = w.heap[k]?) : UAt w' F e := by
  obtain ⟨x, A, c⟩ := e
  cases x with
  | byte c => trivial
  | swap b => exact FB.safe2 h hall
theorem RefE.add {w w3 : World} {F G : Nat → Prop} {g size : Nat} {lasts : List UInt8} {es : List (U × (Option Addr × Nat))} {AL AW : Option Addr} {cL cW : Nat} (hE : RefE w F g size lasts es AL cL AW cW) {e : U × (Option Addr × Nat)} {A' : Option Addr} {c' : Nat}
    (hG : ∀ k, G k → k < w.heap.size) (hu : UAt w (fun k => F k ∨ G k) e) (hsz : w.heap.size ≤ w3.heap.size)
    (hall : ∀ k, k < w.heap.size → k ≠ g → AW.map (·.block) ≠ some k → w3.heap[k]? = w.heap[k]?)
    (hblk : Blk w3 g 95 #[.int .i64 (size : Nat), .slice AL lasts.length cL, .slice A' (es ++ [e]).length c'])
    (hrow : w3.ownsRow 0 97 3 (.slice A' (es ++ [e]).length c') (es ++ [e]).length (ucells (es ++ [e])))
    (hmv : ∀ k, A'.map (·.block) = some k → AW.map (·.block) = some k ∨ w.heap.size ≤ k) :
    RefE w3 (fun k => F k ∨ (w.heap.size ≤ k ∧ A'.map (·.block) = some k) ∨ G k) g size lasts (es ++ [e]) AL cL A' c' := by
  have hs : ∀ k cur t, k < w.heap.size → w.heap[k]? = some (.cells cur t (0, 0)) → t ≠ 95 → t ≠ 97 → w3.heap[k]? = w.heap[k]? := by
    intro k cur t hk hc h1 h2
    refine hall k hk (fun e => ?_) (fun e => ?_)
    · have h4 := hE.blk
      unfold Blk at h4
      rw [← e, hc] at h4
      injection h4 with h4
      injection h4 with _ h5
      exact h1 h5
    · obtain ⟨cur2, h4⟩ := ownsRow_type hE.row e
      rw [hc] at h4
      injection h4 with h4
      injection h4 with _ h5
      exact h2 h5
  refine ⟨.inl hE.mine, hblk, (hE.lasts.safe2 hs).mono fun k hk => .inl hk, hrow, fun k hk => ?_, fun e' he => ?_, fun k hk => ?_⟩
  · rcases hmv k hk with h1 | h1
    · exact .inl (hE.rowF k h1)
    · exact .inr (.inl ⟨h1, hk⟩)
  · rcases List.mem_append.1 he with h1 | h1
    · exact ((hE.ents e' h1).safe hs).mono fun k hk => .inl hk
    · simp at h1
      subst h1
      exact (hu.safe hs).mono fun k hk => by
        rcases hk with h | h
        · exact .inl h
        · exact .inr (.inr h)
  · rcases hk with h1 | ⟨_, h1⟩ | h1
    · exact Nat.lt_of_lt_of_le (hE.lt k h1) hsz
    · exact ownsRow_lt hrow h1
    · exact Nat.lt_of_lt_of_le (hG k h1) hsz
/-- A unit appended: out of the append's facts, the disk behind the store. w: before; w1: the unit's cells laid; w2: behind the append. -/
theorem RefE.push {w w1 w2 : World} {F G : Nat → Prop} {g size : Nat} {lasts : List UInt8} {es : List (U × (Option Addr × Nat))} {AL AW : Option Addr} {cL cW : Nat} (hE : RefE w F g size lasts es AL cL AW cW) {e : U × (Option Addr × Nat)} {A' : Option Addr} {c' : Nat}
    (hG : ∀ k, G k → k < w.heap.size) (hu : UAt w (fun k => F k ∨ G k) e) (h0 : Below w.heap.size w w1) (hs1 : w.heap.size < w1.heap.size)
    (h1 : w2.ownsRow 0 97 3 (.slice A' (es.length + 1) c') (es.length + 1) (ucells es ++ ucell e)) (h2 : w1.grownBy w2 (Value.slice AW es.length cW).ownBlock) (h3 : Moved A' (Value.slice AW es.length cW).ownBlock w1.heap.size) :
    RefE (w2.setCell ⟨g, 2, none⟩ (.slice A' (es.length + 1) c')) (fun k => F k ∨ (w.heap.size ≤ k ∧ A'.map (·.block) = some k) ∨ G k) g size lasts (es ++ [e]) AL cL A' c' ∧ Only F w (w2.setCell ⟨g, 2, none⟩ (.slice A' (es.length + 1) c')) ∧
      w2.cell? ⟨g, 2, none⟩ = some (.slice AW es.length cW) ∧ w2.frozen? ⟨g, 2, none⟩ = false := by
  have hlt := hE.blk.lt
  have hrow : (Value.slice AW es.length cW).ownBlock = AW.map (·.block) := by cases AW <;> rfl
  rw [hrow] at h2 h3
  have hk : ∀ k, k < w.heap.size → AW.map (·.block) ≠ some k → w2.heap[k]? = w.heap[k]? := fun k hk hne => (h2.block k (by omega) (fun e => hne e.symm)).trans (h0.block k hk)
  have hgw : AW.map (·.block) ≠ some g := fun e => by
    obtain ⟨cur, h4⟩ := ownsRow_type hE.row e
    have h5 := hE.blk
    unfold Blk at h5
    rw [h4] at h5
    injection h5 with h5
    injection h5 with _ h5
    exact absurd h5 (by decide)
  have hb2 : Blk w2 g 95 #[.int .i64 (size : Nat), .slice AL lasts.length cL, .slice AW es.length cW] := (hk g hlt hgw).trans hE.blk
  have b3 := hb2.set_ 2 (.slice A' (es.length + 1) c')
  have hgw' : A'.map (·.block) ≠ some g := fun e => by
    rcases h3 with h3 | h3
    · rw [h3] at e; exact hgw e
    · rw [h3] at e; injection e; omega
  refine ⟨hE.add hG hu ?_ ?_ ?_ ?_ ?_, ?_, hb2.cell 2, hb2.free 2⟩
  · have := h2.size; simp [World.setCell]; omega
  · intro k h4 h5 h6
    exact (Below.heap_setCell w2 _ _ k h5).trans (hk k h4 h6)
  · rw [List.length_append]; exact b3
  · rw [List.length_append, ucells_append]
    refine ownsRow_setCell_other ?_ ?_ _
    · have e1 : ucells [e] = ucell e := by simp [ucells]
      rw [e1]; exact h1
    · rcases A' with _ | a'
      · simp [Value.ownBlock]
      · simpa [Value.ownBlock] using hgw'
  · intro k h4
    rcases h3 with h3 | h3
    · rw [h3] at h4; exact .inl h4
    · rw [h3] at h4; injection h4 with h4; right; omega
  · exact Only.setCell ⟨h2.os.trans h0.os, h2.tape.trans h0.tape, h2.output.trans h0.output, Nat.le_trans h0.size h2.size, fun k h4 h5 => hk k h4 (fun e => h5 (hE.rowF k e))⟩ (.inl hE.mine) _
def RefEnd (w : World) (F : Nat → Prop) (g size : Nat) (lasts : List UInt8) (us : List U) (x : Nat) (e : Ending) (w' : World) : Prop := e = .returned (.int .i64 (x : Nat)) ∧ RefOp w F g size lasts us w'
theorem RefAt.blk0 {w : World} {F : Nat → Prop} {g size : Nat} {lasts : List UInt8} {us : List U} (hD : RefAt w F g size lasts us) : w.cell? ⟨g, 0, none⟩ = some (.int .i64 (size : Nat)) ∧ g < w.heap.size := by
  obtain ⟨es, AL, cL, AW, cW, rfl, hE⟩ := hD
  exact ⟨hE.blk.cell 0, hE.blk.lt⟩
end Go.Proofs.Ytbkcdnjpakicmaa
