/- Steps of a disk: what fits; blocks that an operation leaves. -/
import Derived.Test.YtpnnhghgngkboaaDiskAlive
namespace Go.Proofs.Ytpnnhghgngkboaa
open Go.RowKit
open Disk
theorem Blk.only {w w' : World} {F : Nat → Prop} {b : Nat} {t : TypeId} {cs : Array Value} (h : Blk w b t cs) (ho : Only F w w') (hF : ¬ F b) : Blk w' b t cs := (ho.block b h.lt hF).trans h
theorem OwnB.only {w w' : World} {F : Nat → Prop} {base n c : Nat} {A : Option Addr} {bs : List UInt8} (h : OwnB w base A n c bs) (ho : Only F w w') (hF : ∀ k, F k → k < base) : OwnB w' base A n c bs :=
  ⟨h.1, ownsRow_keep h.2 fun k hk => ho.block k (h.lt k hk).2 fun hf => by have := hF k hf; have := (h.lt k hk).1; omega⟩
theorem step_fits {size : Nat} {b : List UInt8} {ws : List W} (o : Op13) (h : Fits size b ws) : Fits size (stepM size b ws o).2.1 (stepM size b ws o).2.2 := by
  unfold stepM
  split
  · split
    · exact h.app (by omega)
    · exact h
  · split
    · split
      · exact h.swap (by assumption)
      · exact h
    · split
      · exact ⟨fun m => h.1 _, fun x hx => by simp at hx⟩
      · split
        · exact h.crash _
        · exact h
theorem OpsAt.below {w w' : World} {a : Option Addr} {n : Nat} {l : List Op13} (h : OpsAt w a n l) (hb : Below w.heap.size w w') : OpsAt w' a n l := by
  refine ⟨h.1, fun i o ho => ?_⟩
  obtain ⟨ad, A, m, c, h1, h2, h3, h4, h5, h6⟩ := h.keep hb i o ho
  exact ⟨ad, A, m, c, h1, h2, h3, h4, h5.more hb.size, h6⟩
/-- a step that is refused leaves all -/
theorem step_refused {size : Nat} {b : List UInt8} {ws : List W} {o : Op13} (h : (stepM size b ws o).1 ≠ 0) : (stepM size b ws o) = (7, b, ws) := by
  unfold stepM at h ⊢
  split
  · split
    · simp_all
    · rfl
  · split
    · split
      · simp_all
      · rfl
    · split
      · simp_all
      · split <;> simp_all
end Go.Proofs.Ytpnnhghgngkboaa
