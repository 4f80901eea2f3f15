/- The document's examples of layer 2. -/
import Derived.Test.YtlmdnfdkamfplaaVintRead
import Derived.Test.YtlmdnfdkamfplaaRef02
namespace Go.Proofs.Ytlmdnfdkamfplaa
open Go.RowKit

theorem enc300 : Vint.enc 300 = [172, 2] := by decide
theorem dec3 : Vint.dec [172, 2, 7] = .ok (300, [7]) := by rfl
theorem dec80 : Vint.dec [128, 0] = .error 4 := by rfl
theorem dec8 : Vint.dec [128] = .error 3 := by rfl
set_option maxRecDepth 100000 in
theorem alive02 (w : World) : Calls Try.prog 15 #[] w fun e w' => e = .returned (.bool true) ∧ Below w.heap.size w w' := by
  go_enter Try.func15, Try.ntmps15
  go_wp2_with fail
  refine (put_ok none 0 0 [] 300 0 w (RdB.nil _ _ _) (Nat.zero_le _) (by omega) (by omega)).mono ?_
  rintro e w1 ⟨A1, n1, c1, rfl, ho1, hb1⟩
  rw [enc300] at ho1
  obtain rfl := ho1.1
  go_wp2_with fail
  refine (new_any _ _ _ [172, 2, 7] _ _ (RdB.made _ _ _ _ _ rfl) (by simp) (by simp)).mono ?_
  rintro e w2 ⟨A2, c2, g2, rfl, hg2, hR2, hb2⟩
  have hB2 : Below w1.heap.size w1 w2 := ((Below.refl _ _).alloc (Nat.le_refl _) _).trans (hb2.mono (by simp))
  have hg2' : w1.heap.size < g2 := by simp at hg2; omega
  go_wp2_with fail
  refine (int_any _ _ _ _ _ _ _ hR2).mono ?_
  rintro e w3 ⟨rfl, hg3, A3, c3, hR3⟩
  rw [Vint.intM_ok dec3] at hR3 ⊢
  have hB3 : Below w1.heap.size w1 w3 := hB2.trans (only_Below hg3 (by omega) hB2.size)
  simp only at hR3 ⊢
  go_wp2_with fail
  refine (new_any _ _ _ [128, 0] _ _ (RdB.made _ _ _ _ _ rfl) (by simp) (by simp)).mono ?_
  rintro e w4 ⟨A4, c4, g4, rfl, hg4, hR4, hb4⟩
  have hB4 : Below w3.heap.size w3 w4 := ((Below.refl _ _).alloc (Nat.le_refl _) _).trans (hb4.mono (by simp))
  have hg4' : w3.heap.size < g4 := by simp at hg4; omega
  have hRr4 := hR3.below (hB4.mono hR3.lt)
  go_wp2_with fail
  refine (new_any _ _ _ [128] _ _ (RdB.made _ _ _ _ _ rfl) (by simp) (by simp)).mono ?_
  rintro e w5 ⟨A5, c5, g5, rfl, hg5, hR5, hb5⟩
  have hB5 : Below w4.heap.size w4 w5 := ((Below.refl _ _).alloc (Nat.le_refl _) _).trans (hb5.mono (by simp))
  have hg5' : w4.heap.size < g5 := by simp at hg5; omega
  have hRr5 := hRr4.below (hB5.mono hRr4.lt)
  have hRs5 := hR4.below (hB5.mono hR4.lt)
  have n24 : g2 ≠ g4 := by have := hR3.lt; omega
  have n45 : g4 ≠ g5 := by have := hR4.lt; omega
  have n25 : g2 ≠ g5 := by have := hRr4.lt; omega
  have l1 : w1.heap.size ≤ w3.heap.size := hB3.size
  have l2 : w3.heap.size ≤ w4.heap.size := hB4.size
  have l3 : w4.heap.size ≤ w5.heap.size := hB5.size
  have hB15 : Below w1.heap.size w1 w5 := hB3.trans ((hB4.mono (by omega)).trans (hB5.mono (by omega)))
  clear hb2 hb4 hb5 hg2 hg4 hg5
  go_wp2_with fail
  refine (int_any _ _ _ _ _ _ _ hRs5).mono ?_
  rintro e w6 ⟨rfl, hg6, A6, c6, hRs6⟩
  rw [Vint.intM_bad dec80] at hRs6 ⊢
  have hRr6 := hRr5.far hRs5 n24 hg6
  have hRt6 := hR5.far hRs5 (fun e => n45 e.symm) hg6
  have hB16 : Below w1.heap.size w1 w6 := hB15.trans (only_Below hg6 (by omega) (by omega))
  simp only at hRs6 ⊢
  go_wp2_with fail
  refine (int_any _ _ _ _ _ _ _ hRt6).mono ?_
  rintro e w7 ⟨rfl, hg7, A7, c7, hRt7⟩
  rw [Vint.intM_bad dec8] at hRt7 ⊢
  have hRr7 := hRr6.far hRt6 n25 hg7
  have hRs7 := hRs6.far hRt6 n45 hg7
  have hB17 : Below w1.heap.size w1 w7 := hB16.trans (only_Below hg7 (by omega) (by have := hB16.size; omega))
  have hB07 : Below w.heap.size w w7 := hb1.trans (hB17.mono hb1.size)
  have hos : RdB w7 w1.heap.size A1 2 [172, 2] := (show OwnB w1 w.heap.size A1 2 c1 [172, 2] from ho1).rd.below hB17
  simp only at hRt7 ⊢
  clear hRr6 hRs6 hRt6 hRr5 hRs5 hR5 hRr4 hR4 hR3 hR2 hg6 hg7 hg3 hB16 hB15 hB5 hB4 hB3 hB2 ho1 hb1
  go_wp2_with fail
  refine (same_eq _ _ _ _ _ _ [172, 2] _ _ _ (hos.alloc (by have := hB17.size; omega) _) (RdB.made _ _ _ _ _ rfl) (by omega)).mono ?_
  rintro e w8 ⟨rfl, m, rfl⟩
  have hx : Below w7.heap.size w7 ((w7.alloc (.cells { toList := bv 172 :: List.map bv [2] } 5)).drewN m) := below_drewN ((Below.refl _ _).alloc (Nat.le_refl _) _) m
  have hB08 := hB07.trans (hx.mono hB07.size)
  have r1 := hRr7.below (hx.mono hRr7.lt)
  have r2 := hRs7.below (hx.mono hRs7.lt)
  have r3 := hRt7.below (hx.mono hRt7.lt)
  clear hRr7 hRs7 hRt7 hos hB17
  generalize (w7.alloc (.cells { toList := bv 172 :: List.map bv [2] } 5)).drewN m = w8 at *
  go_wp2_with fail
  refine (left_any _ _ _ _ _ _ _ r1).mono ?_
  rintro e w9 ⟨rfl, rfl⟩
  go_wp2_with fail
  refine (err_any _ _ _ _ _ _ _ r1).mono ?_
  rintro e w9 ⟨rfl, rfl⟩
  go_wp2_with fail
  refine (err_any _ _ _ _ _ _ _ r2).mono ?_
  rintro e w9 ⟨rfl, rfl⟩
  go_wp2_with fail
  refine (err_any _ _ _ _ _ _ _ r3).mono ?_
  rintro e w9 ⟨rfl, rfl⟩
  go_wp2_with fail
  refine (err_nil _).mono ?_
  rintro e w9 ⟨rfl, rfl⟩
  go_wp2_with fail
  go_ret
  exact ⟨rfl, hB08⟩
end Go.Proofs.Ytlmdnfdkamfplaa
