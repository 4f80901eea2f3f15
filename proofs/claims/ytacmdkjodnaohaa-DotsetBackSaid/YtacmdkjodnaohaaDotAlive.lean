/- The document's example of layer 6. -/
import Derived.Test.YtacmdkjodnaohaaDotPut
namespace Go.Proofs.Ytacmdkjodnaohaa
open Go.RowKit
open Dot
def U0 : List Int := [0, 0, 0, 0, 0, 0, 0, 0]
def U2 : List Int := [2, 0, 0, 0, 0, 0, 0, 0]
theorem ex1_U : uptoS (addG U0 [] (0, 2)) = U0 := by decide +kernel
theorem ex1_M : moreS (addG U0 [] (0, 2)) = [(0, 2)] := by decide +kernel
theorem ex1_E : addE U0 [] (0, 2) = 0 := by decide +kernel
theorem ex2_U : uptoS (addG U0 [(0, 2)] (0, 1)) = U2 := by decide +kernel
theorem ex2_M : moreS (addG U0 [(0, 2)] (0, 1)) = [] := by decide +kernel
theorem ex2_E : addE U0 [(0, 2)] (0, 1) = 0 := by decide +kernel
theorem ex3_B : (if rightB U0 [] = true then encs (putL U0 []) else []) = [0, 0, 0, 0, 0, 0, 0, 0, 0] := by decide +kernel
theorem ex3_E : (if rightB U0 [] = true then 0 else 2) = 0 := by decide +kernel
theorem ex4 : rightB U0 [(0, 2)] = true := by decide +kernel
theorem ex5 : rightB U0 [(0, 1)] = false := by decide +kernel
set_option maxRecDepth 100000 in
set_option maxHeartbeats 2000000 in
theorem alive06 (w : World) : Calls Try.prog 8 #[] w fun e w' => e = .returned (.bool true) ∧ Below w.heap.size w w' := by
  have hz : ∀ (A : Option Addr) (m c : Nat), (uc U0 (.slice A m c)).size = 9 := fun _ _ _ => rfl
  have hz2 : ∀ (A : Option Addr) (m c : Nat), (uc U2 (.slice A m c)).size = 9 := fun _ _ _ => rfl
  have HZ := Lib.hid hz
  have HZ2 := Lib.hid hz2
  clear hz hz2
  have ha1 := fun w => add_any ⟨U0, none, 0, 0, []⟩ 0 2 w rfl (RdD.nil _ _ _)
  have hp1 := fun w => dput_any ⟨U0, none, 0, 0, []⟩ w rfl (RdD.nil _ _ _)
  unfold AddEnd at ha1
  simp only [ex1_U, ex1_M, ex1_E] at ha1
  simp only [ex3_B, ex3_E] at hp1
  unfold GiveBE at hp1
  have HA1 := Lib.hid ha1
  have HP1 := Lib.hid hp1
  clear ha1 hp1
  go_enter Try.func8, Try.ntmps8
  go_wp2_with fail
  refine (HA1.out w).mono ?_
  rintro e w1 ⟨A1, m1, c1, rfl, o1, b1⟩
  obtain rfl : m1 = 1 := o1.1
  obtain ⟨sa, hsa⟩ : ∃ sa, sa = uc U0 (.slice A1 1 c1) := ⟨_, rfl⟩
  rw [← hsa]
  have SA := Lib.hid (show sa.size = 9 by rw [hsa]; rfl)
  have SA1 := Lib.hid (show sa.all (·.oneCell') = true by rw [hsa]; exact uc_one rfl)
  have t8 : sa[8]? = some (.slice A1 1 c1) := by rw [hsa]; exact uc_last rfl _
  have ha2 := fun w' (hb : Below w1.heap.size w1 w') => add_any ⟨U0, A1, 1, c1, [(0, 2)]⟩ 0 1 w' rfl ((o1.rd.below hb).more hb.size)
  have hr2 := fun w' (hb : Below w1.heap.size w1 w') => right_any U0 rfl A1 1 c1 [(0, 2)] w' ((o1.rd.below hb).more hb.size)
  unfold AddEnd at ha2
  simp only [ex2_U, ex2_M, ex2_E] at ha2
  simp only [ex4] at hr2
  rw [← hsa] at ha2 hr2
  have HA2 := Lib.hid ha2
  have HR2 := Lib.hid hr2
  clear ha2 hr2 hsa o1 HA1
  go_upto_region 2 with ((with_reducible refine wpList_st rowS (Blk.new _ _ _) SA.out ?_ SA1.out ?_ ?_ ?_); (rfl); rotate_left; (rfl); (rfl); intro w2 k2 g2 z2)
  have q2 : Below w1.heap.size w1 w2 := ((Below.refl _ _).alloc (Nat.le_refl _) _).grown g2 (by simp) (fun q hq => by injection hq with hq; omega)
  have b2 : Below w.heap.size w w2 := b1.trans (q2.mono b1.size)
  obtain ⟨g, hg⟩ : ∃ g, g = w1.heap.size := ⟨_, rfl⟩
  rw [← hg] at k2 ⊢
  clear hg g2 z2
  go_wp2_with ((with_reducible refine wpList_ld rowS k2 SA.out ?_ ?_); rotate_left; (rfl))
  refine (HA2.out w2 q2).mono ?_
  rintro e w3 ⟨A2, m2, c2, rfl, o2, b3⟩
  obtain rfl : m2 = 0 := o2.1
  have k3 := k2.below b3 k2.lt
  have q3 := q2.trans (b3.mono q2.size)
  have b33 := b2.trans (b3.mono b2.size)
  obtain ⟨sb, hsb⟩ : ∃ sb, sb = uc U2 (.slice A2 0 c2) := ⟨_, rfl⟩
  rw [← hsb]
  have SB := Lib.hid (show sb.size = 9 by rw [hsb]; rfl)
  have SB1 := Lib.hid (show sb.all (·.oneCell') = true by rw [hsb]; exact uc_one rfl)
  have t8b : sb[8]? = some (.slice A2 0 c2) := by rw [hsb]; exact uc_last rfl _
  have t0b : sb[0]? = some (.int .i64 2) := by rw [hsb]; rfl
  clear hsb o2 HA2 b2 q2 k2 b3
  go_upto_region 3 with ((with_reducible refine wpList_st rowS (Blk.new _ _ _) SB.out ?_ SB1.out ?_ ?_ ?_); (rfl); rotate_left; (rfl); (rfl); intro w4 k4 g4 z4)
  have hgn : g ≠ w3.heap.size := by have := k3.lt; omega
  have p4 : Below w3.heap.size w3 w4 := ((Below.refl _ _).alloc (Nat.le_refl _) _).grown g4 (by simp) (fun q hq => by injection hq with hq; omega)
  have ka4 := k3.below p4 k3.lt
  have q4 := q3.trans (p4.mono q3.size)
  have b4 := b33.trans (p4.mono b33.size)
  obtain ⟨g', hg⟩ : ∃ g', g' = w3.heap.size := ⟨_, rfl⟩
  rw [← hg] at k4 hgn ⊢
  clear hg g4 z4 p4 b33 q3 k3
  go_wp2_with fail
  refine (HP1.out w4).mono ?_
  rintro e w5 ⟨A5, n5, c5, rfl, o5, b5⟩
  obtain rfl : n5 = 9 := o5.1
  have ka5 := ka4.below b5 ka4.lt
  have kb5 := k4.below b5 k4.lt
  have q5 := q4.trans (b5.mono q4.size)
  have b55 := b4.trans (b5.mono b4.size)
  have ca : w5.cell? ⟨g, 8, none⟩ = some (.slice A1 1 c1) := (ka5.cell 8).trans t8
  have cb : w5.cell? ⟨g', 8, none⟩ = some (.slice A2 0 c2) := (kb5.cell 8).trans t8b
  have cb0 : w5.cell? ⟨g', 0, none⟩ = some (.int .i64 2) := (kb5.cell 0).trans t0b
  clear HP1 b4 q4 ka4 k4 o5 b5 t8 t8b t0b
  go_wp2_with ((with_reducible refine wpList_ldg rowS ka5 SA.out ?_ ?_ ?_); rotate_left; (rfl); (rfl))
  refine (HR2.out w5 q5).mono ?_
  rintro e w6 ⟨rfl, b6⟩
  have b66 := b55.trans (b6.mono b55.size)
  clear ca cb cb0 ka5 kb5 q5 HR2 b55 b6
  go_wp2_with fail
  refine (right_any U0 rfl (some ⟨w6.heap.size, 0, none⟩) 1 1 [(0, 1)] _ (RdD.size (n := 1) (RdD.of_rd (l := [(0, 1)]) (Rd.made w6 #[.int .i64 0, .int .i64 1] 27 (0, 0))))).mono ?_
  rw [ex5]
  rintro e w7 ⟨rfl, b7⟩
  have b77 := (b66.alloc b66.size _).trans (b7.mono (b66.alloc b66.size _).size)
  go_wp2_with fail
  go_ret
  exact ⟨rfl, b77⟩
end Go.Proofs.Ytacmdkjodnaohaa
