/- The document's example of layer 7. -/
import Derived.Test.YtiemlnomlfebkaaEvPut
import Derived.Test.YtiemlnomlfebkaaSame
namespace Go.Proofs.Ytiemlnomlfebkaa
set_option linter.unusedVariables false
set_option linter.unusedSimpArgs false
open Go.RowKit
open Dot Evt
def exE : Ev := ⟨(1, 2), 3, 1, 4, 5, Evt.p0, []⟩
def exZ : Ev := ⟨(0, 0), 0, 0, 0, 0, Evt.p0, []⟩
def exT (t : Int) : Ev := ⟨(0, 0), t, 0, 0, 0, Evt.p0, []⟩
abbrev cE : Array Value := #[.int .i64 1, .int .i64 2, .int .i64 3, .int .i64 1, .int .i64 4, .int .i64 5, .int .i64 0, .int .i64 0, .int .i64 0, .int .i64 0, .int .i64 0, .int .i64 0, .int .i64 0, .slice none 0 0]
abbrev cT (t : Int) : Array Value := #[.int .i64 0, .int .i64 0, .int .i64 t, .int .i64 0, .int .i64 0, .int .i64 0, .int .i64 0, .int .i64 0, .int .i64 0, .int .i64 0, .int .i64 0, .int .i64 0, .int .i64 0, .slice none 0 0]
theorem cE_eq : ec exE (.slice none 0 0) = cE := by kernel_rfl
theorem cT_eq (t : Int) : ec (exT t) (.slice none 0 0) = cT t := by kernel_rfl
theorem exE_put : putE exE = ([1, 2, 3, 1, 4, 5], 0) := by decide +kernel
theorem exE_right : rightE exE = true := by decide +kernel
theorem exZ_right : rightE (exT 0) = false := by decide +kernel
theorem exL : laterB (exT 2) (exT 1) = true := by decide +kernel
set_option maxRecDepth 100000 in
set_option maxHeartbeats 2000000 in
theorem alive07 (w : World) : Calls Try.prog 9 #[] w fun e w' => e = .returned (.bool true) ∧ Below w.heap.size w w' := by
  have hp1 := fun w => eput_any exE rfl none 0 0 w (RdD.nil _ _ _)
  have hr1 := fun w => eright_any exE rfl none 0 0 w (RdD.nil _ _ _)
  have hr2 := fun w => eright_any (exT 0) rfl none 0 0 w (RdD.nil _ _ _)
  have hl1 := fun w => later_any (exT 2) (exT 1) none none 0 0 0 0 w
  rw [exE_put, cE_eq] at hp1
  rw [exE_right, cE_eq] at hr1
  rw [exZ_right, cT_eq] at hr2
  rw [exL, cT_eq, cT_eq] at hl1
  unfold GiveBE at hp1
  have HP := Lib.hid hp1
  have HR := Lib.hid hr1
  have HR2 := Lib.hid hr2
  have HL := Lib.hid hl1
  clear hp1 hr1 hr2 hl1
  go_enter Try.func9, Try.ntmps9
  go_upto_region 2 with fail
  refine nameW ?_
  intro w1 hw1
  obtain ⟨b, hb⟩ : ∃ b, b = w.heap.size := ⟨_, rfl⟩
  rw [← hb]
  have kb : Blk w1 b 28 cE := by rw [hw1, hb]; exact Blk.new _ _ _
  have hb1 : Below b w w1 := by rw [hw1, hb]; exact (Below.refl _ _).alloc (Nat.le_refl _) _
  have HB := Lib.hid hb
  clear hw1 hb
  obtain ⟨c0, c1, c2, c3, c4, c5, c6, c7, c8, c9, c10, c11, c12, c13⟩ := ecells kb
  go_wp2_with fail
  refine (HP.out w1).mono ?_
  rintro e w2 ⟨A, n, c, rfl, ho, b2⟩
  have kb2 := kb.below b2 kb.lt
  have hb2 := hb1.trans (b2.mono (by have := kb.lt; omega))
  clear c0 c1 c2 c3 c4 c5 c6 c7 c8 c9 c10 c11 c12 c13 kb HP
  go_upto_region 3 with fail
  obtain rfl := ho.1
  have hsame := fun (w' : World) (A2 : Option Addr) (c2 : Nat) (B2 : Nat) (hb : Below w2.heap.size w2 w') (h2 : RdB w' B2 A2 6 [1, 2, 3, 1, 4, 5]) => same_eq A A2 6 c 6 c2 [1, 2, 3, 1, 4, 5] w2.heap.size B2 w' (ho.rd.below hb) h2 (by decide)
  have HS := Lib.hid hsame
  clear hsame ho
  go_wp2_with fail
  have ba : Below w2.heap.size w2 (w2.alloc (.cells #[.int .u8 1, .int .u8 2, .int .u8 3, .int .u8 1, .int .u8 4, .int .u8 5] 5)) := (Below.refl _ _).alloc (Nat.le_refl _) _
  refine (HS.out _ _ _ _ ba (RdB.made w2 [1, 2, 3, 1, 4, 5] _ _ _ (by kernel_rfl))).mono ?_
  rintro e w3' ⟨rfl, mm, rfl⟩
  obtain ⟨w3, hw3⟩ : ∃ w3, w3 = (w2.alloc (.cells #[.int .u8 1, .int .u8 2, .int .u8 3, .int .u8 1, .int .u8 4, .int .u8 5] 5)).drewN mm := ⟨_, rfl⟩
  rw [← hw3]
  have b3 : Below w2.heap.size w2 w3 := by rw [hw3]; exact below_drewN ba mm
  have kb3 := kb2.below b3 kb2.lt
  have hb3 := hb2.trans (b3.mono (by have := kb2.lt; omega))
  clear hw3 ba HS kb2
  obtain ⟨c0, c1, c2, c3, c4, c5, c6, c7, c8, c9, c10, c11, c12, c13⟩ := ecells kb3
  go_wp2_with fail
  refine (HR.out w3).mono ?_
  rintro e w4 ⟨rfl, b4⟩
  have hb4 := hb3.trans (b4.mono (by have := kb3.lt; omega))
  have hs4 := b4.size
  have hs3 := kb3.lt
  clear c0 c1 c2 c3 c4 c5 c6 c7 c8 c9 c10 c11 c12 c13 kb3 HR
  go_wp2_with fail
  refine (HR2.out w4).mono ?_
  rintro e w5 ⟨rfl, b5⟩
  have hb5 := hb4.trans (b5.mono (by omega))
  have hs5 := b5.size
  clear HR2
  go_wp2_with fail
  refine (HL.out w5).mono ?_
  rintro e w6 ⟨rfl, b6⟩
  have hb6 := hb5.trans (b6.mono (by omega))
  clear HL
  go_wp2_with fail
  go_ret
  exact ⟨rfl, by rw [← HB.out]; exact hb6⟩
end Go.Proofs.Ytiemlnomlfebkaa
