/- The document's disk: Sync; the program's disk and the document's, apart. -/
import Derived.Test.YtbkcdnjpakicmaaDiskRef4
import Derived.Test.YtbkcdnjpakicmaaDiskWords
namespace Go.Proofs.Ytbkcdnjpakicmaa
open Go.RowKit
open Disk
theorem rsync_any (F : Nat → Prop) (g size : Nat) (lasts : List UInt8) (us : List U) (w : World) (hD : RefAt w F g size lasts us) (hm : lasts.length + massU us ≤ 1099511627776) (hul : us.length ≤ 1099511627776) :
    Calls Try.prog 61 #[.pointer (some ⟨g, 0, none⟩)] w fun e w' => e = .returned (.tuple #[]) ∧ RefOp w F g size (afterU lasts us) [] w' := by
  have hD0 := hD
  obtain ⟨es, AL, cL, AW, cW, he, hE⟩ := hD0
  have c2 := hE.blk.cell 2
  have hel : es.length = us.length := by rw [← he]; simp
  have hc := rcrash_nat us.length F g size lasts us w hD hm hul (es.length : Int) (by omega) (by omega) (by omega)
  rw [List.take_length] at hc
  clear hel he
  go_enter Try.func61, Try.ntmps61
  go_wp2_with fail
  refine hc.mono ?_
  rintro e w1 ⟨rfl, h⟩
  have HP := Lib.hid h
  clear h
  go_wp2_with fail
  go_end0
  exact ⟨rfl, HP.out⟩

/-- The program's disk and the document's, apart: both of the call's own. -/
def Both (w : World) (size : Nat) (F : Nat → Prop) (g : Nat) (lasts : List UInt8) (ws : List W) (G : Nat → Prop) (r : Nat) (l2 : List UInt8) (us : List U) (w' : World) : Prop :=
  DL w F g size lasts ws w' ∧ RefAt w' G r size l2 us ∧ (∀ k, G k → w.heap.size ≤ k) ∧ ∀ k, F k → ¬ G k
section
variable {w w1 w2 : World} {F G E : Nat → Prop} {g r size : Nat} {lasts l2 l3 : List UInt8} {ws ws3 : List W} {us us3 : List U}
theorem Both.fst (h : Both w size F g lasts ws G r l2 us w1) (ho : DiskOp w1 F g size l3 ws3 w2) : ∃ F', Both w size F' g l3 ws3 G r l2 us w2 ∧ Only F w1 w2 ∧ Grows F F' w1 := by
  obtain ⟨h1, h2, h3, h4⟩ := h
  obtain ⟨F', k1, k2, k3⟩ := h1.op ho
  refine ⟨F', ⟨k1, h2.keep (k2.keeps (fun k hk hf => h4 k hf hk) h2.lt), h3, fun k hk hg => ?_⟩, k2, k3⟩
  rcases k3 k hk with h | h
  · exact h4 k h hg
  · have := h2.lt k hg; omega
theorem Both.snd (h : Both w size F g lasts ws G r l2 us w1) (ho : RefOp w1 G r size l3 us3 w2) : ∃ G', Both w size F g lasts ws G' r l3 us3 w2 ∧ Only G w1 w2 ∧ Grows G G' w1 := by
  obtain ⟨h1, h2, h3, h4⟩ := h
  obtain ⟨G', k1, k2, k3⟩ := ho
  refine ⟨G', ⟨⟨h1.1.keep (k2.keeps (fun k hk hg => h4 k hk hg) h1.1.lt), h1.2.1, h1.2.2.trans (k2.to_below h3 h1.2.2.size)⟩, k1, fun k hk => ?_, fun k hk hg => ?_⟩, k2, k3⟩
  · rcases k3 k hk with h | h
    · exact h3 k h
    · have := h1.2.2.size; omega
  · rcases k3 k hg with h | h
    · exact h4 k hk h
    · have := h1.1.lt k hk; omega
theorem Both.below (h : Both w size F g lasts ws G r l2 us w1) (hb : Below w1.heap.size w1 w2) : Both w size F g lasts ws G r l2 us w2 := ⟨h.1.below hb, h.2.1.below hb, h.2.2.1, h.2.2.2⟩
theorem Both.only (h : Both w size F g lasts ws G r l2 us w1) (ho : Only E w1 w2) (h0 : ∀ k, E k → w.heap.size ≤ k) (h1 : ∀ k, F k → ¬ E k) (h2 : ∀ k, G k → ¬ E k) : Both w size F g lasts ws G r l2 us w2 :=
  ⟨⟨h.1.1.keep (ho.keeps h1 h.1.1.lt), h.1.2.1, h.1.2.2.trans (ho.to_below h0 h.1.2.2.size)⟩, h.2.1.keep (ho.keeps h2 h.2.1.lt), h.2.2.1, h.2.2.2⟩
theorem Both.of (h : DL w F g size lasts ws w1) (h2 : RefAt w2 G r size l2 us) (hG : ∀ k, G k → w1.heap.size ≤ k) (hb : Below w1.heap.size w1 w2) : Both w size F g lasts ws G r l2 us w2 :=
  ⟨h.below hb, h2, fun k hk => Nat.le_trans h.2.2.size (hG k hk), fun k hk hg => by have := h.1.lt k hk; have := hG k hg; omega⟩
end
theorem after_all (lasts : List UInt8) (ws : List W) : afterU lasts (exp ws) = readL lasts ws := by
  have := after_exp lasts ws (pend ws)
  rw [← exp_length, List.take_length, exp_length] at this
  exact this
theorem exp_app (ws : List W) (bs : List UInt8) : exp (ws ++ [(false, bs)]) = exp ws ++ bs.map U.byte := by rw [exp_append]; simp [exp]
theorem exp_swap (ws : List W) (bs : List UInt8) : exp (ws ++ [(true, bs)]) = exp ws ++ [U.swap bs] := by rw [exp_append]; simp [exp]
end Go.Proofs.Ytbkcdnjpakicmaa
