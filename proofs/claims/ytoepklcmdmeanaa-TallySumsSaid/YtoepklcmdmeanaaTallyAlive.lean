/- The document's example of layer 28. -/
import Derived.Test.YtoepklcmdmeanaaTallyAdd
import Derived.Test.YtoepklcmdmeanaaTallyPut
import Derived.Test.YtoepklcmdmeanaaSame
namespace Go.Proofs.Ytoepklcmdmeanaa
open Go.RowKit
open Tally
def exA : List Int := [0, 5, 0, 0, 0, 0, 0, 0, 0, 0, 0, 0, 0, 0, 0, 0]
def exB : List Int := [0, 5, 0, 0, 0, 0, 0, 0, 0, 2, 0, 0, 0, 0, 0, 0]
theorem ex_add1 : addL zero 1 5 = (exA, 0) := by decide +kernel
theorem ex_add2 : addL exA 1 (-2) = (exB, 0) := by decide +kernel
theorem ex_right : rightB exB = true := by decide +kernel
theorem ex_put : encs (numsL exB 8 ++ [0]) = [2, 5, 2, 0] := by decide +kernel
theorem ex_val : valueL exB = 3 := by decide +kernel
set_option maxRecDepth 100000 in
set_option maxHeartbeats 2000000 in
theorem alive28 (w : World) : Calls Try.prog 8 #[] w fun e w' => e = .returned (.bool true) ∧ Below w.heap.size w w' := by
  have sA : (tc exA).size = 16 := rfl
  have sB : (tc exB).size = 16 := rfl
  have SA := Lib.hid sA
  have SB := Lib.hid sB
  clear sA sB
  go_enter Try.func8, Try.ntmps8
  go_wp2_with fail
  refine (add_any zero 1 5 w zero_len).mono ?_
  unfold AddEnd
  rw [ex_add1]
  rintro e w1 ⟨rfl, b1⟩
  go_upto_region 2 with ((with_reducible refine wpList_st rowT (Blk.new _ _ _) SA.out ?_ (tc_one exA) ?_ ?_ ?_); (rfl); rotate_left; (rfl); (rfl); intro w2 k2 g2 z2)
  have b2 : Below w.heap.size w w2 := ((b1.alloc b1.size _).grown g2 (by have := b1.size; simp; omega) (fun q hq => by injection hq with hq; have := b1.size; omega))
  obtain ⟨g, hg⟩ : ∃ g, g = w1.heap.size := ⟨_, rfl⟩
  rw [← hg] at k2 ⊢
  have hgw : w.heap.size ≤ g := by have := b1.size; omega
  clear hg g2 z2 b1
  go_wp2_with ((with_reducible refine wpList_ld rowT k2 SA.out ?_ ?_); rotate_left; (rfl))
  refine (add_any exA 1 (-2) w2 rfl).mono ?_
  unfold AddEnd
  rw [ex_add2]
  rintro e w3 ⟨rfl, b3⟩
  have k3 := k2.below b3 k2.lt
  have b23 := b2.trans (b3.mono b2.size)
  clear k2 b2 b3
  go_upto_region 3 with ((with_reducible refine wpList_st rowT k3 SB.out SA.out (tc_one exB) ?_ ?_ ?_); rotate_left; (rfl); (rfl); intro w4 k4 g4 z4)
  have b4 := b23.grown g4 b23.size (fun q hq => by injection hq; omega)
  clear k3 b23 g4 z4
  go_wp2_with ((with_reducible refine wpList_ld rowT k4 SB.out ?_ ?_); rotate_left; (rfl))
  refine (tput_any exB w4 rfl ex_right).mono ?_
  rw [ex_put]
  rintro e w5 ⟨A5, n5, c5, rfl, o5, b5⟩
  obtain rfl := o5.1
  have k5 := k4.below b5 k4.lt
  have b45 := b4.trans (b5.mono b4.size)
  clear k4 b4 b5
  go_wp2_with ((with_reducible refine wpList_ldg rowT k5 SB.out ?_ ?_ ?_); rotate_left; (rfl); (rfl))
  refine (value_any exB w5 rfl).mono ?_
  rw [ex_val]
  rintro e w6 ⟨rfl, b6⟩
  have o6 := o5.below b6 (Nat.le_refl _)
  have b56 := b45.trans (b6.mono b45.size)
  clear k5 b45 b6 o5
  go_wp2_with fail
  refine (same_eq _ _ _ _ _ _ [2, 5, 2, 0] _ _ _ (o6.rd.alloc (Nat.le_refl _) _) (RdB.made _ _ _ _ _ rfl) (by simp)).mono ?_
  rintro e w7 ⟨rfl, m7, rfl⟩
  go_wp2_with fail
  go_ret
  exact ⟨rfl, below_drewN (b56.alloc b56.size _) _⟩
end Go.Proofs.Ytoepklcmdmeanaa
