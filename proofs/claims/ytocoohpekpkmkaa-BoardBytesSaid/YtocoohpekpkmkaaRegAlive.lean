/- The walk of the law's alive (printed by gen/regalive.py). -/
import Derived.Test.YtocoohpekpkmkaaRegMeet
import Derived.Test.YtocoohpekpkmkaaRegVals
import Derived.Test.YtocoohpekpkmkaaRegLast
namespace Go.Proofs.Ytocoohpekpkmkaa
set_option linter.unusedVariables false
set_option linter.unusedSimpArgs false
open Go.RowKit
open Reg
theorem al1 : putM z8 [] 0 5 = (([1, 0, 0, 0, 0, 0, 0, 0], [(0, 1, 5)]), 0) := by decide
theorem al2 : putM z8 [] 1 7 = (([0, 1, 0, 0, 0, 0, 0, 0], [(1, 1, 7)]), 0) := by decide
theorem al3 : ownM [1, 0, 0, 0, 0, 0, 0, 0] [(0, 1, 5)] = ([1, 0, 0, 0, 0, 0, 0, 0], [(0, 1, 5)]) := by decide
theorem al4 : ownM [0, 1, 0, 0, 0, 0, 0, 0] [(1, 1, 7)] = ([0, 1, 0, 0, 0, 0, 0, 0], [(1, 1, 7)]) := by decide
theorem al5 : maxL [1, 0, 0, 0, 0, 0, 0, 0] [0, 1, 0, 0, 0, 0, 0, 0] = [1, 1, 0, 0, 0, 0, 0, 0] := by decide
theorem al6 : meetL [1, 0, 0, 0, 0, 0, 0, 0] [0, 1, 0, 0, 0, 0, 0, 0] [(0, 1, 5)] [(1, 1, 7)] = [(0, 1, 5), (1, 1, 7)] := by decide
theorem al7 : putM [1, 1, 0, 0, 0, 0, 0, 0] [(0, 1, 5), (1, 1, 7)] 1 9 = (([1, 2, 0, 0, 0, 0, 0, 0], [(1, 2, 9)]), 0) := by decide
theorem al8 : ownM [1, 2, 0, 0, 0, 0, 0, 0] [(1, 2, 9)] = ([1, 2, 0, 0, 0, 0, 0, 0], [(1, 2, 9)]) := by decide
theorem al9 : maxL [1, 0, 0, 0, 0, 0, 0, 0] [1, 2, 0, 0, 0, 0, 0, 0] = [1, 2, 0, 0, 0, 0, 0, 0] := by decide
theorem al10 : meetL [1, 0, 0, 0, 0, 0, 0, 0] [1, 2, 0, 0, 0, 0, 0, 0] [(0, 1, 5)] [(1, 2, 9)] = [(1, 2, 9)] := by decide
theorem al11 : valuesM [1, 1, 0, 0, 0, 0, 0, 0] [(0, 1, 5), (1, 1, 7)] = [5, 7] := by decide
theorem al12 : valuesM [1, 2, 0, 0, 0, 0, 0, 0] [(1, 2, 9)] = [9] := by decide
theorem al13 : writeL (0, 0, 0) 3 4 = ((1, 3, 4), 0) := by decide
def sA : List Int := [1, 0, 0, 0, 0, 0, 0, 0]
def sB : List Int := [0, 1, 0, 0, 0, 0, 0, 0]
def sM : List Int := [1, 1, 0, 0, 0, 0, 0, 0]
def sC : List Int := [1, 2, 0, 0, 0, 0, 0, 0]
theorem putA (w : World) : Calls Try.prog 11 #[.agg zc, .int .i64 0, .int .i64 5] w fun e w' => ∃ A c, e = .returned (.tuple #[.agg (uc sA (.slice A 1 c)), .int .i64 0]) ∧ OwnV 49 w' w.heap.size A 1 c [(0, 1, 5)] ∧ Below w.heap.size w w' := by
  have h := put29_any z8 rfl none 0 0 [] 0 5 w (RdV.nil _ _ _) (by omega)
  rw [← zc_eq, al1] at h
  refine h.mono ?_
  rintro e w' ⟨A, m, c, rfl, o, b⟩
  obtain rfl : m = 1 := o.1
  exact ⟨A, c, rfl, o, b⟩
theorem putB (w : World) : Calls Try.prog 11 #[.agg zc, .int .i64 1, .int .i64 7] w fun e w' => ∃ A c, e = .returned (.tuple #[.agg (uc sB (.slice A 1 c)), .int .i64 0]) ∧ OwnV 49 w' w.heap.size A 1 c [(1, 1, 7)] ∧ Below w.heap.size w w' := by
  have h := put29_any z8 rfl none 0 0 [] 1 7 w (RdV.nil _ _ _) (by omega)
  rw [← zc_eq, al2] at h
  refine h.mono ?_
  rintro e w' ⟨A, m, c, rfl, o, b⟩
  obtain rfl : m = 1 := o.1
  exact ⟨A, c, rfl, o, b⟩
theorem meetAB (A A2 : Option Addr) (c c2 : Nat) (w : World) (h1 : RdV w w.heap.size A 1 [(0, 1, 5)]) (h2 : RdV w w.heap.size A2 1 [(1, 1, 7)]) : Calls Try.prog 13 #[.agg (uc sA (.slice A 1 c)), .agg (uc sB (.slice A2 1 c2))] w fun e w' => ∃ A c, e = .returned (.agg (uc sM (.slice A 2 c))) ∧ OwnV 49 w' w.heap.size A 2 c [(0, 1, 5), (1, 1, 7)] ∧ Below w.heap.size w w' := by
  have h := meet29_any sA sB rfl rfl A A2 1 c 1 c2 _ _ w h1 h2 (by omega) (by omega)
  unfold sA sB at *
  rw [al3, al4] at h
  simp only at h
  rw [al5, al6] at h
  refine h.mono ?_
  rintro e w' ⟨A, m, c, rfl, o, b⟩
  obtain rfl : m = 2 := o.1
  exact ⟨A, c, rfl, o, b⟩
theorem putC (A : Option Addr) (c : Nat) (w : World) (h1 : RdV w w.heap.size A 2 [(0, 1, 5), (1, 1, 7)]) : Calls Try.prog 11 #[.agg (uc sM (.slice A 2 c)), .int .i64 1, .int .i64 9] w fun e w' => ∃ A c, e = .returned (.tuple #[.agg (uc sC (.slice A 1 c)), .int .i64 0]) ∧ OwnV 49 w' w.heap.size A 1 c [(1, 2, 9)] ∧ Below w.heap.size w w' := by
  have h := put29_any sM rfl A 2 c _ 1 9 w h1 (by omega)
  unfold sM at *
  rw [al7] at h
  refine h.mono ?_
  rintro e w' ⟨A, m, c, rfl, o, b⟩
  obtain rfl : m = 1 := o.1
  exact ⟨A, c, rfl, o, b⟩
theorem meetAC (A A2 : Option Addr) (c c2 : Nat) (w : World) (h1 : RdV w w.heap.size A 1 [(0, 1, 5)]) (h2 : RdV w w.heap.size A2 1 [(1, 2, 9)]) : Calls Try.prog 13 #[.agg (uc sA (.slice A 1 c)), .agg (uc sC (.slice A2 1 c2))] w fun e w' => ∃ A c, e = .returned (.agg (uc sC (.slice A 1 c))) ∧ OwnV 49 w' w.heap.size A 1 c [(1, 2, 9)] ∧ Below w.heap.size w w' := by
  have h := meet29_any sA sC rfl rfl A A2 1 c 1 c2 _ _ w h1 h2 (by omega) (by omega)
  unfold sA sC at *
  rw [al3, al8] at h
  simp only at h
  rw [al9, al10] at h
  refine h.mono ?_
  rintro e w' ⟨A, m, c, rfl, o, b⟩
  obtain rfl : m = 1 := o.1
  exact ⟨A, c, rfl, o, b⟩
theorem valuesMM (A : Option Addr) (c : Nat) (w : World) (h1 : RdV w w.heap.size A 2 [(0, 1, 5), (1, 1, 7)]) : Calls Try.prog 20 #[.agg (uc sM (.slice A 2 c))] w fun e w' => ∃ A c, e = .returned (.slice A 2 c) ∧ OwnI w' w.heap.size A 2 c [5, 7] ∧ Below w.heap.size w w' := by
  have h := values29_any sM rfl A 2 c _ w h1 (by omega)
  unfold sM at *
  rw [al11] at h
  refine h.mono ?_
  rintro e w' ⟨A, m, c, rfl, o, b⟩
  obtain rfl : m = 2 := o.1
  exact ⟨A, c, rfl, o, b⟩
theorem valuesCC (A : Option Addr) (c : Nat) (w : World) (h1 : RdV w w.heap.size A 1 [(1, 2, 9)]) : Calls Try.prog 20 #[.agg (uc sC (.slice A 1 c))] w fun e w' => ∃ A c, e = .returned (.slice A 1 c) ∧ OwnI w' w.heap.size A 1 c [9] ∧ Below w.heap.size w w' := by
  have h := values29_any sC rfl A 1 c _ w h1 (by omega)
  unfold sC at *
  rw [al12] at h
  refine h.mono ?_
  rintro e w' ⟨A, m, c, rfl, o, b⟩
  obtain rfl : m = 1 := o.1
  exact ⟨A, c, rfl, o, b⟩
theorem writeW (w : World) : Calls Try.prog 23 #[.agg #[.int .i64 0, .int .i64 0, .int .i64 0], .int .i64 3, .int .i64 4] w fun e w' => e = .returned (.tuple #[.agg #[.int .i64 1, .int .i64 3, .int .i64 4], .int .i64 0]) ∧ Below w.heap.size w w' := by
  have h := write29_any (0, 0, 0) 3 4 (by decide) w
  rw [al13] at h
  exact h
set_option maxRecDepth 100000 in
set_option maxHeartbeats 4000000 in
theorem alive29_any (w : World) : Calls Try.prog 9 #[] w fun e w' => e = .returned (.bool true) ∧ Below w.heap.size w w' := by
  go_enter Try.func9, Try.ntmps9
  go_wp2_with fail
  refine (putA _).mono ?_
  rintro e w1 ⟨A1, c1, rfl, oA, bA⟩
  have HSa := Lib.hid (uc_size (U := sA) rfl (.slice A1 1 c1))
  have H1a := Lib.hid (uc_one (U := sA) (s := .slice A1 1 c1) rfl)
  go_upto_region 2 with ((with_reducible refine wpList_st rowM (Blk.new _ _ _) HSa.out ?_ H1a.out ?_ ?_ ?_); (rfl); rotate_left; (rfl); (rfl); intro xa ka ga za)
  have ba : Below w1.heap.size w1 xa := (((Below.refl _ _).alloc (Nat.le_refl _) _).grown ga (by simp) (fun q hq => by injection hq with hq; omega))
  have oA := oA.below ba (Nat.le_refl _)
  have gb := bA.trans (ba.mono bA.size)
  clear ga za bA ba
  go_wp2_with fail
  refine (putB _).mono ?_
  rintro e w2 ⟨A2, c2, rfl, oB, bB⟩
  have ka := ka.below bB ka.lt
  have oA := oA.below bB (Nat.le_refl _)
  have oB := oB.mono gb.size
  have gb := gb.trans (bB.mono gb.size)
  have HSb := Lib.hid (uc_size (U := sB) rfl (.slice A2 1 c2))
  have H1b := Lib.hid (uc_one (U := sB) (s := .slice A2 1 c2) rfl)
  go_upto_region 3 with ((with_reducible refine wpList_st rowM (Blk.new _ _ _) HSb.out ?_ H1b.out ?_ ?_ ?_); (rfl); rotate_left; (rfl); (rfl); intro xb kb gb2 zb)
  have bb : Below w2.heap.size w2 xb := (((Below.refl _ _).alloc (Nat.le_refl _) _).grown gb2 (by simp) (fun q hq => by injection hq with hq; omega))
  have ka := ka.below bb ka.lt
  have oA := oA.below bb (Nat.le_refl _)
  have oB := oB.below bb (Nat.le_refl _)
  have gb := gb.trans (bb.mono gb.size)
  clear gb2 zb bB bb
  go_wp2_with first
    | ((with_reducible refine wpList_ld rowM ka HSa.out ?_ ?_); rotate_left; (rfl))
    | ((with_reducible refine wpList_ld rowM kb HSb.out ?_ ?_); rotate_left; (rfl))
  refine (meetAB A1 A2 c1 c2 _ oA.rd oB.rd).mono ?_
  rintro e w3 ⟨A3, c3, rfl, oM, bM⟩
  have ka := ka.below bM ka.lt
  have oA := oA.below bM (Nat.le_refl _)
  have oM := oM.mono gb.size
  have gb := gb.trans (bM.mono gb.size)
  clear kb oB
  have HSm := Lib.hid (uc_size (U := sM) rfl (.slice A3 2 c3))
  have H1m := Lib.hid (uc_one (U := sM) (s := .slice A3 2 c3) rfl)
  go_upto_region 4 with ((with_reducible refine wpList_st rowM (Blk.new _ _ _) HSm.out ?_ H1m.out ?_ ?_ ?_); (rfl); rotate_left; (rfl); (rfl); intro xm km gm zm)
  have bm : Below w3.heap.size w3 xm := (((Below.refl _ _).alloc (Nat.le_refl _) _).grown gm (by simp) (fun q hq => by injection hq with hq; omega))
  have ka := ka.below bm ka.lt
  have oA := oA.below bm (Nat.le_refl _)
  have oM := oM.below bm (Nat.le_refl _)
  have gb := gb.trans (bm.mono gb.size)
  clear gm zm bM bm
  go_wp2_with first
    | ((with_reducible refine wpList_ld rowM km HSm.out ?_ ?_); rotate_left; (rfl))
  refine (putC A3 c3 _ oM.rd).mono ?_
  rintro e w4 ⟨A4, c4, rfl, oC, bC⟩
  have ka := ka.below bC ka.lt
  have km := km.below bC km.lt
  have oA := oA.below bC (Nat.le_refl _)
  have oM := oM.below bC (Nat.le_refl _)
  have oC := oC.mono gb.size
  have gb := gb.trans (bC.mono gb.size)
  have HSc := Lib.hid (uc_size (U := sC) rfl (.slice A4 1 c4))
  have H1c := Lib.hid (uc_one (U := sC) (s := .slice A4 1 c4) rfl)
  go_upto_region 5 with ((with_reducible refine wpList_st rowM (Blk.new _ _ _) HSc.out ?_ H1c.out ?_ ?_ ?_); (rfl); rotate_left; (rfl); (rfl); intro xc kc gc zc)
  have bc : Below w4.heap.size w4 xc := (((Below.refl _ _).alloc (Nat.le_refl _) _).grown gc (by simp) (fun q hq => by injection hq with hq; omega))
  have ka := ka.below bc ka.lt
  have km := km.below bc km.lt
  have oA := oA.below bc (Nat.le_refl _)
  have oM := oM.below bc (Nat.le_refl _)
  have oC := oC.below bc (Nat.le_refl _)
  have gb := gb.trans (bc.mono gb.size)
  clear gc zc bC bc
  go_wp2_with fail
  refine (writeW _).mono ?_
  rintro e w5 ⟨rfl, bW⟩
  have ka := ka.below bW ka.lt
  have km := km.below bW km.lt
  have kc := kc.below bW kc.lt
  have oA := oA.below bW (Nat.le_refl _)
  have oM := oM.below bW (Nat.le_refl _)
  have oC := oC.below bW (Nat.le_refl _)
  have gb := gb.trans (bW.mono gb.size)
  clear bW
  go_upto_region 6 with fail
  refine nameW ?_
  intro w6 hw6
  have kl : Blk w6 w5.heap.size 62 #[.int .i64 1, .int .i64 3, .int .i64 4] := by rw [hw6]; exact Blk.new w5 _ _
  have bl : Below w5.heap.size w5 w6 := by rw [hw6]; exact (Below.refl _ _).alloc (Nat.le_refl _) _
  have ka := ka.below bl ka.lt
  have km := km.below bl km.lt
  have kc := kc.below bl kc.lt
  have oA := oA.below bl (Nat.le_refl _)
  have oM := oM.below bl (Nat.le_refl _)
  have oC := oC.below bl (Nat.le_refl _)
  have gb := gb.trans (bl.mono gb.size)
  clear hw6 bl
  go_wp2_with first
    | ((with_reducible refine wpList_ldg rowM km HSm.out ?_ ?_ ?_); rotate_left; (rfl); (rfl))
  refine (valuesMM A3 c3 _ oM.rd).mono ?_
  rintro e w7 ⟨A7, c7, rfl, o7, b7⟩
  have ka := ka.below b7 ka.lt
  have kc := kc.below b7 kc.lt
  have kl := kl.below b7 kl.lt
  have oA := oA.below b7 (Nat.le_refl _)
  have oC := oC.below b7 (Nat.le_refl _)
  have gb := gb.trans (b7.mono gb.size)
  clear km oM b7
  go_wp2_with fail
  refine (ints29_any A7 (some ⟨w7.heap.size, 0, none⟩) 2 c7 2 2 (w7.heap.size + 1) [5, 7] [5, 7] _ (((o7.alloc _).rd.more (by simp))) (RdI.made w7 [5, 7] #[.int .i64 5, .int .i64 7] 3 (0, 0) rfl) (by omega)).mono ?_
  rintro e w8 ⟨rfl, q8, rfl⟩
  have b8 : Below w7.heap.size w7 ((w7.alloc (.cells #[.int .i64 5, .int .i64 7] 3)).drewN q8) := below_drewN ((Below.refl _ _).alloc (Nat.le_refl _) _) _
  have ka := ka.below b8 ka.lt
  have kc := kc.below b8 kc.lt
  have kl := kl.below b8 kl.lt
  have oA := oA.below b8 (Nat.le_refl _)
  have oC := oC.below b8 (Nat.le_refl _)
  have gb := gb.trans (b8.mono gb.size)
  generalize (w7.alloc (.cells #[.int .i64 5, .int .i64 7] 3)).drewN q8 = w8 at *
  clear o7 b8
  rw [decide_eq_true (show ([5, 7] : List Int) = [5, 7] from rfl)]
  go_wp2_with first
    | ((with_reducible refine wpList_ldg rowM ka HSa.out ?_ ?_ ?_); rotate_left; (rfl); (rfl))
    | ((with_reducible refine wpList_ldg rowM kc HSc.out ?_ ?_ ?_); rotate_left; (rfl); (rfl))
  refine (meetAC A1 A4 c1 c4 _ oA.rd oC.rd).mono ?_
  rintro e w9 ⟨A9, c9, rfl, o9, b9⟩
  have kl := kl.below b9 kl.lt
  have gb := gb.trans (b9.mono gb.size)
  clear ka kc oA oC b9
  go_wp2_with fail
  refine (valuesCC A9 c9 _ o9.rd).mono ?_
  rintro e w10 ⟨A10, c10, rfl, o10, b10⟩
  have kl := kl.below b10 kl.lt
  have gb := gb.trans (b10.mono gb.size)
  clear o9 b10
  go_wp2_with fail
  refine (ints29_any A10 (some ⟨w10.heap.size, 0, none⟩) 1 c10 1 1 (w10.heap.size + 1) [9] [9] _ (((o10.alloc _).rd.more (by simp))) (RdI.made w10 [9] #[.int .i64 9] 3 (0, 0) rfl) (by omega)).mono ?_
  rintro e w11 ⟨rfl, q11, rfl⟩
  have b11 : Below w10.heap.size w10 ((w10.alloc (.cells #[.int .i64 9] 3)).drewN q11) := below_drewN ((Below.refl _ _).alloc (Nat.le_refl _) _) _
  have kl := kl.below b11 kl.lt
  have gb := gb.trans (b11.mono gb.size)
  generalize (w10.alloc (.cells #[.int .i64 9] 3)).drewN q11 = w11 at *
  clear o10 b11
  rw [decide_eq_true (show ([9] : List Int) = [9] from rfl)]
  go_wp2_with first
    | ((with_reducible refine wpList_ldg rowLa kl (th_size _ _ _) ?_ ?_ ?_); rotate_left; (rfl); (rfl))
  go_ret
  exact ⟨rfl, gb⟩
end Go.Proofs.Ytocoohpekpkmkaa
