/- The walks of own and Put; the document's (printed by gen/regput.py). -/
import Derived.Test.YtocoohpekpkmkaaRegRight
import Derived.Test.YtocoohpekpkmkaaRegCopy
namespace Go.Proofs.Ytocoohpekpkmkaa
set_option linter.unusedVariables false
set_option linter.unusedSimpArgs false
open Go.RowKit
open Reg
theorem uc_set {U : List Int} (h : U.length = 8) (s : Value) {i : Nat} (hi : i < 8) (x : Int) : (uc U s).setIfInBounds i (.int .i64 x) = uc (U.set i x) s := by
  unfold uc
  rw [List.setIfInBounds_toArray, List.set_append_left _ _ (by rw [List.length_map]; omega), List.map_set]
theorem zeroM (w : World) : (Instr.build 31 #[]).run Try.prog w = .ok (.agg (uc z8 (.slice none 0 0))) w := by kernel_rfl
theorem zeroRM (w : World) : (Instr.build 25 #[]).run Try.prog w = .ok (.agg (uc z8 (.slice none 0 0))) w := by kernel_rfl
def zc : Array Value := #[.int .i64 0, .int .i64 0, .int .i64 0, .int .i64 0, .int .i64 0, .int .i64 0, .int .i64 0, .int .i64 0, .slice none 0 0]
theorem zc_eq : zc = uc z8 (.slice none 0 0) := by kernel_rfl
theorem zc_size : zc.size = 9 := rfl
theorem zc_one : zc.all (·.oneCell') = true := by simp [zc, Value.oneCell']
theorem z8_size (s : Value) : (uc z8 s).size = 9 := rfl
/-- a register that is read -/
def OwnEnd (B0 : Nat) (w : World) (R : List Int × List Vl) (e : Ending) (w' : World) : Prop := ∃ A m c, e = .returned (.agg (uc R.1 (.slice A m c))) ∧ RdV w' B0 A m R.2 ∧ m ≤ 100000 ∧ R.1.length = 8 ∧ Below w.heap.size w w'
/-- a register of the call's own, an error's number -/
def PutEnd (T : TypeId) (w : World) (R : (List Int × List Vl) × Int) (e : Ending) (w' : World) : Prop := ∃ A m c, e = .returned (.tuple #[.agg (uc R.1.1 (.slice A m c)), .int .i64 R.2]) ∧ OwnV T w' w.heap.size A m c R.1.2 ∧ Below w.heap.size w w'
set_option maxHeartbeats 1000000 in
theorem own29_any (U : List Int) (hU : U.length = 8) (A : Option Addr) (n c : Nat) (l : List Vl) (w : World) (B0 : Nat) (hl : RdV w B0 A n l) (hB0 : B0 ≤ w.heap.size) (hn : n ≤ 100000) :
    Calls Try.prog 47 #[.agg (uc U (.slice A n c))] w (OwnEnd B0 w (ownM U l)) := by
  obtain ⟨R, hR⟩ : ∃ R, R = ownM U l := ⟨_, rfl⟩
  rw [← hR]
  unfold ownM at hR
  have hr := fun (w' : World) (hb : Below w.heap.size w w') => right29_any U hU A n c l w' ((hl.below (hb.mono hB0)).size) hn
  generalize rightM U l = Q at *
  have HRR := Lib.hid hR
  clear hR
  cases Q
  all_goals
    have HR := Lib.hid hr
    have HU := Lib.hid hU
    have HSZ := Lib.hid (uc_size hU (.slice A n c))
    have H1C := Lib.hid (uc_one (U := U) (s := .slice A n c) rfl)
    have HRK := Lib.hid fun (w' : World) (hb : Below w.heap.size w w') => hl.below (hb.mono hB0)
    have HNB := Lib.hid hn
    clear hr hU hl hn
    go_enter Try.func47, Try.ntmps47
    go_upto_region 1 with fail
    refine nameW ?_
    intro wv hwv
    obtain ⟨B, hB⟩ : ∃ B, B = w.heap.size := ⟨_, rfl⟩
    rw [← hB]
    have kb : Blk wv B 31 (uc U (.slice A n c)) := by rw [hwv, hB]; exact (Blk.new w _ _).alloc _
    have kz : Blk wv (B + 1) 31 (uc z8 (.slice none 0 0)) := by
      have h := Blk.new (w.alloc (.cells (uc U (.slice A n c)) 31)) 31 (uc z8 (.slice none 0 0))
      have hz : uc z8 (.slice none 0 0) = #[.int .i64 0, .int .i64 0, .int .i64 0, .int .i64 0, .int .i64 0, .int .i64 0, .int .i64 0, .int .i64 0, .slice none 0 0] := by kernel_rfl
      rw [hz] at h ⊢
      rw [hwv, hB]
      simpa using h
    have gb : Below w.heap.size w wv := by rw [hwv]; exact ((Below.refl _ _).alloc (Nat.le_refl _) _).alloc (by simp) _
    have HB := Lib.hid hB
    clear hwv hB
    go_wp2_with ((with_reducible refine wpList_ld rowM kb HSZ.out ?_ ?_); rotate_left; (rfl))
    refine (HR.out wv gb).mono ?_
    rintro e w1 ⟨rfl, b1⟩
    have kb1 := kb.below b1 kb.lt
    have kz1 := kz.below b1 kz.lt
    have gb1 := gb.trans (b1.mono gb.size)
    have HSZ8 := Lib.hid (z8_size (.slice none 0 0))
    have H1Z := Lib.hid (uc_one (U := z8) (s := .slice none 0 0) rfl)
    have HZ := Lib.hid zeroM
    clear b1 kb kz gb
  · go_wp2_with ((with_reducible refine wpList_st (cs := zc) rowM kz1 zc_size HSZ8.out zc_one ?_ ?_ ?_); rotate_left; (rfl); (rfl); intro w3 k3 g3 z3)
    rw [zc_eq] at k3
    have gb3 := gb1.grown g3 gb1.size (fun q hq => by injection hq; have := HB.out; omega)
    exact bodyPost_ret (v := .agg (uc z8 (.slice none 0 0))) (results_blk rfl rowM k3 HSZ8.out rfl) rfl ⟨none, 0, 0, by rw [HRR.out]; rfl, by rw [HRR.out]; exact RdV.nil _ _ _, by omega, by rw [HRR.out]; rfl, gb3⟩
  · go_wp2_with first
      | ((with_reducible refine wpList_ld rowM kb1 HSZ.out ?_ ?_); rotate_left; (rfl))
      | ((with_reducible refine wpList_st rowM kz1 HSZ.out HSZ8.out H1C.out ?_ ?_ ?_); rotate_left; (rfl); (rfl); intro w3 k3 g3 z3)
    have gb3 := gb1.grown g3 gb1.size (fun q hq => by injection hq; have := HB.out; omega)
    exact bodyPost_ret (v := .agg (uc U (.slice A n c))) (results_blk rfl rowM k3 HSZ.out rfl) rfl ⟨A, n, c, by rw [HRR.out]; rfl, by rw [HRR.out]; exact HRK.out w3 gb3, HNB.out, by rw [HRR.out]; exact HU.out, gb3⟩
set_option maxHeartbeats 1000000 in
theorem rown29_any (U : List Int) (hU : U.length = 8) (A : Option Addr) (n c : Nat) (l : List Vl) (w : World) (B0 : Nat) (hl : RdV w B0 A n l) (hB0 : B0 ≤ w.heap.size) (hn : n ≤ 100000) :
    Calls Try.prog 55 #[.agg (uc U (.slice A n c))] w (OwnEnd B0 w (ownM U l)) := by
  obtain ⟨R, hR⟩ : ∃ R, R = ownM U l := ⟨_, rfl⟩
  rw [← hR]
  unfold ownM at hR
  have hr := fun (w' : World) (hb : Below w.heap.size w w') => rright29_any U hU A n c l w' ((hl.below (hb.mono hB0)).size) hn
  generalize rightM U l = Q at *
  have HRR := Lib.hid hR
  clear hR
  cases Q
  all_goals
    have HR := Lib.hid hr
    have HU := Lib.hid hU
    have HSZ := Lib.hid (uc_size hU (.slice A n c))
    have H1C := Lib.hid (uc_one (U := U) (s := .slice A n c) rfl)
    have HRK := Lib.hid fun (w' : World) (hb : Below w.heap.size w w') => hl.below (hb.mono hB0)
    have HNB := Lib.hid hn
    clear hr hU hl hn
    go_enter Try.func55, Try.ntmps55
    go_upto_region 1 with fail
    refine nameW ?_
    intro wv hwv
    obtain ⟨B, hB⟩ : ∃ B, B = w.heap.size := ⟨_, rfl⟩
    rw [← hB]
    have kb : Blk wv B 25 (uc U (.slice A n c)) := by rw [hwv, hB]; exact (Blk.new w _ _).alloc _
    have kz : Blk wv (B + 1) 25 (uc z8 (.slice none 0 0)) := by
      have h := Blk.new (w.alloc (.cells (uc U (.slice A n c)) 25)) 25 (uc z8 (.slice none 0 0))
      have hz : uc z8 (.slice none 0 0) = #[.int .i64 0, .int .i64 0, .int .i64 0, .int .i64 0, .int .i64 0, .int .i64 0, .int .i64 0, .int .i64 0, .slice none 0 0] := by kernel_rfl
      rw [hz] at h ⊢
      rw [hwv, hB]
      simpa using h
    have gb : Below w.heap.size w wv := by rw [hwv]; exact ((Below.refl _ _).alloc (Nat.le_refl _) _).alloc (by simp) _
    have HB := Lib.hid hB
    clear hwv hB
    go_wp2_with ((with_reducible refine wpList_ld rowRM kb HSZ.out ?_ ?_); rotate_left; (rfl))
    refine (HR.out wv gb).mono ?_
    rintro e w1 ⟨rfl, b1⟩
    have kb1 := kb.below b1 kb.lt
    have kz1 := kz.below b1 kz.lt
    have gb1 := gb.trans (b1.mono gb.size)
    have HSZ8 := Lib.hid (z8_size (.slice none 0 0))
    have H1Z := Lib.hid (uc_one (U := z8) (s := .slice none 0 0) rfl)
    have HZ := Lib.hid zeroRM
    clear b1 kb kz gb
  · go_wp2_with ((with_reducible refine wpList_st (cs := zc) rowRM kz1 zc_size HSZ8.out zc_one ?_ ?_ ?_); rotate_left; (rfl); (rfl); intro w3 k3 g3 z3)
    rw [zc_eq] at k3
    have gb3 := gb1.grown g3 gb1.size (fun q hq => by injection hq; have := HB.out; omega)
    exact bodyPost_ret (v := .agg (uc z8 (.slice none 0 0))) (results_blk rfl rowRM k3 HSZ8.out rfl) rfl ⟨none, 0, 0, by rw [HRR.out]; rfl, by rw [HRR.out]; exact RdV.nil _ _ _, by omega, by rw [HRR.out]; rfl, gb3⟩
  · go_wp2_with first
      | ((with_reducible refine wpList_ld rowRM kb1 HSZ.out ?_ ?_); rotate_left; (rfl))
      | ((with_reducible refine wpList_st rowRM kz1 HSZ.out HSZ8.out H1C.out ?_ ?_ ?_); rotate_left; (rfl); (rfl); intro w3 k3 g3 z3)
    have gb3 := gb1.grown g3 gb1.size (fun q hq => by injection hq; have := HB.out; omega)
    exact bodyPost_ret (v := .agg (uc U (.slice A n c))) (results_blk rfl rowRM k3 HSZ.out rfl) rfl ⟨A, n, c, by rw [HRR.out]; rfl, by rw [HRR.out]; exact HRK.out w3 gb3, HNB.out, by rw [HRR.out]; exact HU.out, gb3⟩
set_option maxRecDepth 100000 in
set_option maxHeartbeats 2000000 in
theorem put29_any (U : List Int) (hU : U.length = 8) (A : Option Addr) (n c : Nat) (l : List Vl) (nd v : Int) (w : World) (hl : RdV w w.heap.size A n l) (hn : n ≤ 100000) :
    Calls Try.prog 11 #[.agg (uc U (.slice A n c)), .int .i64 nd, .int .i64 v] w (PutEnd 49 w (putM U l nd v)) := by
  obtain ⟨R, hR⟩ : ∃ R, R = putM U l nd v := ⟨_, rfl⟩
  rw [← hR]
  unfold putM at hR
  have hr := fun (w' : World) (hb : Below w.heap.size w w') => right29_any U hU A n c l w' ((hl.below hb).size) hn
  have hm := fun w' => mayN_any nd v w'
  have hiu : rightM U l = true → U.all numOk = true := fun h => ((rightM_iff U l).1 h).1
  have him : mayN nd v = true → 0 ≤ nd ∧ nd < 8 := fun h => ⟨((mayN_iff _ _).1 h).1, ((mayN_iff _ _).1 h).2.1⟩
  generalize mayN nd v = N at *
  generalize rightM U l = Q at *
  have HR0 := Lib.hid hR
  have HRI := Lib.hid hr
  have HM := Lib.hid hm
  have HIU := Lib.hid hiu
  have HIM := Lib.hid him
  have HU := Lib.hid hU
  have HSZ := Lib.hid (uc_size hU (.slice A n c))
  have HL := Lib.hid (show (U.map (Value.int .i64)).length = 8 by rw [List.length_map, hU])
  have HNB := Lib.hid hn
  clear hR hr hm hU hl hn hiu him
  go_enter Try.func11, Try.ntmps11
  go_upto_region 1 with fail
  refine nameW ?_
  intro wv hwv
  obtain ⟨B, hB⟩ : ∃ B, B = w.heap.size := ⟨_, rfl⟩
  rw [← hB]
  have kb : Blk wv B 31 (uc U (.slice A n c)) := by rw [hwv, hB]; exact (Blk.new w _ _).alloc _
  have kz : Blk wv (B + 1) 31 (uc z8 (.slice none 0 0)) := by
    have h := Blk.new (w.alloc (.cells (uc U (.slice A n c)) 31)) 31 (uc z8 (.slice none 0 0))
    have hz : uc z8 (.slice none 0 0) = #[.int .i64 0, .int .i64 0, .int .i64 0, .int .i64 0, .int .i64 0, .int .i64 0, .int .i64 0, .int .i64 0, .slice none 0 0] := by kernel_rfl
    rw [hz] at h ⊢
    rw [hwv, hB]
    simpa using h
  have gb : Below w.heap.size w wv := by rw [hwv]; exact ((Below.refl _ _).alloc (Nat.le_refl _) _).alloc (by simp) _
  have HB := Lib.hid hB
  clear hwv hB
  have HSZ8 := Lib.hid (z8_size (.slice none 0 0))
  have H1Z := Lib.hid (uc_one (U := z8) (s := .slice none 0 0) rfl)
  have HZ := Lib.hid zeroM
  go_wp2_with ((with_reducible refine wpList_ld rowM kb HSZ.out ?_ ?_); rotate_left; (rfl))
  refine (HRI.out wv gb).mono ?_
  rintro e w1 ⟨rfl, b1⟩
  have kb1 := kb.below b1 kb.lt
  have kz1 := kz.below b1 kz.lt
  have gb1 := gb.trans (b1.mono gb.size)
  clear b1 kb kz gb HRI
  cases Q
  · have HR := Lib.hid (HR0.out.trans (if_pos (Or.inl rfl)))
    go_wp2_with ((with_reducible refine wpList_st (cs := zc) rowM kz1 zc_size HSZ8.out zc_one ?_ ?_ ?_); rotate_left; (rfl); (rfl); intro w3 k3 g3 z3)
    rw [zc_eq] at k3
    have gb3 := gb1.grown g3 gb1.size (fun q hq => by injection hq; have := HB.out; omega)
    exact bodyPost_ret (v := .tuple #[.agg (uc z8 (.slice none 0 0)), .int .i64 2]) (results_blk2 rfl rowM k3 HSZ8.out rfl rfl) rfl ⟨none, 0, 0, by rw [HR.out]; rfl, by rw [HR.out]; exact OwnV.nil _ _ _, gb3⟩

  go_wp2_with fail
  refine (HM.out _).mono ?_
  rintro e w1 ⟨rfl, rfl⟩
  cases N
  · have HR := Lib.hid (HR0.out.trans (if_pos (Or.inr rfl)))
    go_wp2_with ((with_reducible refine wpList_st (cs := zc) rowM kz1 zc_size HSZ8.out zc_one ?_ ?_ ?_); rotate_left; (rfl); (rfl); intro w3 k3 g3 z3)
    rw [zc_eq] at k3
    have gb3 := gb1.grown g3 gb1.size (fun q hq => by injection hq; have := HB.out; omega)
    exact bodyPost_ret (v := .tuple #[.agg (uc z8 (.slice none 0 0)), .int .i64 2]) (results_blk2 rfl rowM k3 HSZ8.out rfl rfl) rfl ⟨none, 0, 0, by rw [HR.out]; rfl, by rw [HR.out]; exact OwnV.nil _ _ _, gb3⟩

  have hR2 := HR0.out.trans (if_neg (by simp))
  obtain ⟨y, rfl⟩ := Int.eq_ofNat_of_zero_le (HIM.out (by first | rfl | trivial)).1
  have hy : y < 8 := by have := (HIM.out (by first | rfl | trivial)).2; omega
  have hub := all_numV (HIU.out (by first | rfl | trivial)) y
  have ty : w1.cell? ⟨B, y, none⟩ = some (.int .i64 (U.getD y 0)) := (kb1.cell y).trans (uc_at HU.out _ hy)
  have hte : U.getD (y : Int).toNat 0 = U.getD y 0 := rfl
  have hts : ((y : Int).toNat) = y := rfl
  rw [hte, hts] at hR2
  generalize hu : U.getD y 0 = u at *
  have hy0 : (0 : Int) ≤ (y : Int) := by omega
  have hy8 : (y : Int) < 8 := by omega
  by_cases ht : u = 1099511627776
  · have HR := Lib.hid (hR2.trans (if_pos ht))
    subst ht
    clear hR2 hub hu
    go_wp2_with ((with_reducible refine wpList_st (cs := zc) rowM kz1 zc_size HSZ8.out zc_one ?_ ?_ ?_); rotate_left; (rfl); (rfl); intro w3 k3 g3 z3)
    rw [zc_eq] at k3
    have gb3 := gb1.grown g3 gb1.size (fun q hq => by injection hq; have := HB.out; omega)
    exact bodyPost_ret (v := .tuple #[.agg (uc z8 (.slice none 0 0)), .int .i64 7]) (results_blk2 rfl rowM k3 HSZ8.out rfl rfl) rfl ⟨none, 0, 0, by rw [HR.out]; rfl, by rw [HR.out]; exact OwnV.nil _ _ _, gb3⟩

  have HR := Lib.hid (hR2.trans (if_neg ht))
  have hw : IntKind.i64.wrap (u + 1) = u + 1 := by rw [IntKind.wrap_i64]; omega
  have hd : decide (1099511627776 ≤ u) = false := decide_eq_false (by omega)
  have hd2 : (u == 1099511627776) = false := by simpa using ht
  have HUY := Lib.hid hu
  clear hR2 hub hu hte hts
  have fy := kb1.free y
  go_upto_region 6 with fail
  have kg0 := kb1
  have kzz := kz1
  have gbb := gb1
  have hBg : w.heap.size ≤ B := by have := HB.out; omega
  have hne : (B : Nat) ≠ B + 1 := by omega
  have kg2 := kg0.set_ y (.int .i64 (u + 1))
  rw [uc_set HU.out _ hy] at kg2
  have kz2 : Blk (w1.setCell ⟨B, y, none⟩ (.int .i64 (u + 1))) (B + 1) 31 (uc z8 (.slice none 0 0)) := by
    unfold Blk at *
    rw [← kzz]
    exact heap_setCell_other w1 _ _ _ (by (try simp); (try omega))
  have gb2 := gbb.setCell (p := ⟨B, y, none⟩) hBg (.int .i64 (u + 1))
  generalize w1.setCell ⟨B, y, none⟩ (.int .i64 (u + 1)) = w2 at *
  have HU2 := Lib.hid (show (U.set y (u + 1)).length = 8 by rw [List.length_set]; exact HU.out)
  have ty2 : w2.cell? ⟨B, y, none⟩ = some (.int .i64 (u + 1)) := by
    rw [kg2.cell, uc_at HU2.out _ hy, List.getD_eq_getElem?_getD, List.getElem?_set_self (by rw [HU.out]; exact hy)]
    rfl
  have c82 : w2.cell? ⟨B, 8, none⟩ = some (.slice A n c) := (kg2.cell 8).trans (uc_last HU2.out _)
  have f82 := kg2.free 8
  have h2s : B < w2.heap.size := kg2.lt
  clear kb1 kz1 gb1 ty
  go_upto_region 7 with fail
  have hBs : w.heap.size ≤ w2.heap.size := by omega
  refine nameW ?_
  intro w4 hw4
  obtain ⟨gn, hgn⟩ : ∃ gn, gn = w2.heap.size := ⟨_, rfl⟩
  rw [← hgn] at hw4
  have hgs : (w2.setCell ⟨B, 8, none⟩ (.slice (some ⟨gn, 0, none⟩) 1 1)).heap.size = gn := by rw [hgn]; simp
  have k3 : Blk w4 B 31 (uc (U.set y (u + 1)) (.slice (some ⟨gn, 0, none⟩) 1 1)) := by
    have h := (kg2.set_ 8 (.slice (some ⟨gn, 0, none⟩) 1 1)).alloc (.cells #[.int .i64 (y : Nat), .int .i64 (u + 1), .int .i64 v] 49)
    rw [uc_set8 HU2.out] at h
    rw [hw4]
    exact h
  have kz3 : Blk w4 (B + 1) 31 (uc z8 (.slice none 0 0)) := by
    have h : Blk (w2.setCell ⟨B, 8, none⟩ (.slice (some ⟨gn, 0, none⟩) 1 1)) (B + 1) 31 (uc z8 (.slice none 0 0)) := by
      unfold Blk at *
      rw [← kz2]
      exact heap_setCell_other _ _ _ _ (by (try simp); (try omega))
    rw [hw4]
    exact h.alloc _
  have kn : Blk w4 gn 49 #[.int .i64 (y : Nat), .int .i64 (u + 1), .int .i64 v] := by
    have h := Blk.new (w2.setCell ⟨B, 8, none⟩ (.slice (some ⟨gn, 0, none⟩) 1 1)) 49 #[.int .i64 (y : Nat), .int .i64 (u + 1), .int .i64 v]
    rw [hgs] at h
    rw [hw4]
    exact h
  have o4 : OwnV 49 w4 w.heap.size (some ⟨gn, 0, none⟩) 1 1 [((y : Int), u + 1, v)] :=
    ⟨rfl, rfl, .inr ⟨gn, 1, _, rfl, by omega, kn, Nat.le_refl _, by decide, rfl, rfl⟩⟩
  have gb4 : Below w.heap.size w w4 := by
    rw [hw4]
    exact (gb2.setCell (p := ⟨B, 8, none⟩) hBg (.slice (some ⟨gn, 0, none⟩) 1 1)).alloc (by rw [hgs]; omega) _
  have hgB : B + 1 < gn := by rw [hgn]; exact kz2.lt
  clear hw4 hgs kn hgn
  have HSZ4 := Lib.hid (uc_size HU2.out (.slice (some ⟨gn, 0, none⟩) 1 1))
  have H1C4 := Lib.hid (uc_one (U := U.set y (u + 1)) (s := .slice (some ⟨gn, 0, none⟩) 1 1) rfl)
  clear c82 f82 ty2 kg2 gb2 kz2
  go_wp2_with first
    | ((with_reducible refine wpList_ld rowM k3 HSZ4.out ?_ ?_); rotate_left; (rfl))
    | ((with_reducible refine wpList_st rowM kz3 HSZ4.out HSZ8.out H1C4.out ?_ ?_ ?_); rotate_left; (rfl); (rfl); intro w5 k5 g5 z5)
  have o5 := o4.grown g5 (.inr (by simp; omega))
  have gb5 := gb4.grown g5 gb4.size (fun q hq => by injection hq; have := HB.out; omega)
  exact bodyPost_ret (v := .tuple #[.agg (uc (U.set y (u + 1)) (.slice (some ⟨gn, 0, none⟩) 1 1)), .int .i64 0]) (results_blk2 rfl rowM k5 HSZ4.out rfl rfl) rfl ⟨some ⟨gn, 0, none⟩, 1, 1, by rw [HR.out], by rw [HR.out]; exact o5, gb5⟩
set_option maxRecDepth 100000 in
set_option maxHeartbeats 2000000 in
theorem rput29_any (U : List Int) (hU : U.length = 8) (A : Option Addr) (n c : Nat) (l : List Vl) (nd v : Int) (w : World) (hl : RdV w w.heap.size A n l) (hn : n ≤ 100000) :
    Calls Try.prog 12 #[.agg (uc U (.slice A n c)), .int .i64 nd, .int .i64 v] w (PutEnd 105 w (putM U l nd v)) := by
  obtain ⟨R, hR⟩ : ∃ R, R = putM U l nd v := ⟨_, rfl⟩
  rw [← hR]
  unfold putM at hR
  have hr := fun (w' : World) (hb : Below w.heap.size w w') => rright29_any U hU A n c l w' ((hl.below hb).size) hn
  have hm := fun w' => rmay29_any nd v w'
  have hiu : rightM U l = true → U.all numOk = true := fun h => ((rightM_iff U l).1 h).1
  have him : mayN nd v = true → 0 ≤ nd ∧ nd < 8 := fun h => ⟨((mayN_iff _ _).1 h).1, ((mayN_iff _ _).1 h).2.1⟩
  generalize mayN nd v = N at *
  generalize rightM U l = Q at *
  have HR0 := Lib.hid hR
  have HRI := Lib.hid hr
  have HM := Lib.hid hm
  have HIU := Lib.hid hiu
  have HIM := Lib.hid him
  have HU := Lib.hid hU
  have HSZ := Lib.hid (uc_size hU (.slice A n c))
  have HL := Lib.hid (show (U.map (Value.int .i64)).length = 8 by rw [List.length_map, hU])
  have HNB := Lib.hid hn
  clear hR hr hm hU hl hn hiu him
  go_enter Try.func12, Try.ntmps12
  go_upto_region 1 with fail
  refine nameW ?_
  intro wv hwv
  obtain ⟨B, hB⟩ : ∃ B, B = w.heap.size := ⟨_, rfl⟩
  rw [← hB]
  have kb : Blk wv B 25 (uc U (.slice A n c)) := by rw [hwv, hB]; exact (Blk.new w _ _).alloc _
  have kz : Blk wv (B + 1) 25 (uc z8 (.slice none 0 0)) := by
    have h := Blk.new (w.alloc (.cells (uc U (.slice A n c)) 25)) 25 (uc z8 (.slice none 0 0))
    have hz : uc z8 (.slice none 0 0) = #[.int .i64 0, .int .i64 0, .int .i64 0, .int .i64 0, .int .i64 0, .int .i64 0, .int .i64 0, .int .i64 0, .slice none 0 0] := by kernel_rfl
    rw [hz] at h ⊢
    rw [hwv, hB]
    simpa using h
  have gb : Below w.heap.size w wv := by rw [hwv]; exact ((Below.refl _ _).alloc (Nat.le_refl _) _).alloc (by simp) _
  have HB := Lib.hid hB
  clear hwv hB
  have HSZ8 := Lib.hid (z8_size (.slice none 0 0))
  have H1Z := Lib.hid (uc_one (U := z8) (s := .slice none 0 0) rfl)
  have HZ := Lib.hid zeroRM
  go_wp2_with ((with_reducible refine wpList_ld rowRM kb HSZ.out ?_ ?_); rotate_left; (rfl))
  refine (HRI.out wv gb).mono ?_
  rintro e w1 ⟨rfl, b1⟩
  have kb1 := kb.below b1 kb.lt
  have kz1 := kz.below b1 kz.lt
  have gb1 := gb.trans (b1.mono gb.size)
  clear b1 kb kz gb HRI
  cases Q
  · have HR := Lib.hid (HR0.out.trans (if_pos (Or.inl rfl)))
    go_wp2_with ((with_reducible refine wpList_st (cs := zc) rowRM kz1 zc_size HSZ8.out zc_one ?_ ?_ ?_); rotate_left; (rfl); (rfl); intro w3 k3 g3 z3)
    rw [zc_eq] at k3
    have gb3 := gb1.grown g3 gb1.size (fun q hq => by injection hq; have := HB.out; omega)
    exact bodyPost_ret (v := .tuple #[.agg (uc z8 (.slice none 0 0)), .int .i64 2]) (results_blk2 rfl rowRM k3 HSZ8.out rfl rfl) rfl ⟨none, 0, 0, by rw [HR.out]; rfl, by rw [HR.out]; exact OwnV.nil _ _ _, gb3⟩

  go_wp2_with fail
  refine (HM.out _).mono ?_
  rintro e w1 ⟨rfl, rfl⟩
  cases N
  · have HR := Lib.hid (HR0.out.trans (if_pos (Or.inr rfl)))
    go_wp2_with ((with_reducible refine wpList_st (cs := zc) rowRM kz1 zc_size HSZ8.out zc_one ?_ ?_ ?_); rotate_left; (rfl); (rfl); intro w3 k3 g3 z3)
    rw [zc_eq] at k3
    have gb3 := gb1.grown g3 gb1.size (fun q hq => by injection hq; have := HB.out; omega)
    exact bodyPost_ret (v := .tuple #[.agg (uc z8 (.slice none 0 0)), .int .i64 2]) (results_blk2 rfl rowRM k3 HSZ8.out rfl rfl) rfl ⟨none, 0, 0, by rw [HR.out]; rfl, by rw [HR.out]; exact OwnV.nil _ _ _, gb3⟩

  have hR2 := HR0.out.trans (if_neg (by simp))
  obtain ⟨y, rfl⟩ := Int.eq_ofNat_of_zero_le (HIM.out (by first | rfl | trivial)).1
  have hy : y < 8 := by have := (HIM.out (by first | rfl | trivial)).2; omega
  have hub := all_numV (HIU.out (by first | rfl | trivial)) y
  have ty : w1.cell? ⟨B, y, none⟩ = some (.int .i64 (U.getD y 0)) := (kb1.cell y).trans (uc_at HU.out _ hy)
  have hte : U.getD (y : Int).toNat 0 = U.getD y 0 := rfl
  have hts : ((y : Int).toNat) = y := rfl
  rw [hte, hts] at hR2
  generalize hu : U.getD y 0 = u at *
  have hy0 : (0 : Int) ≤ (y : Int) := by omega
  have hy8 : (y : Int) < 8 := by omega
  by_cases ht : u = 1099511627776
  · have HR := Lib.hid (hR2.trans (if_pos ht))
    subst ht
    clear hR2 hub hu
    go_wp2_with ((with_reducible refine wpList_st (cs := zc) rowRM kz1 zc_size HSZ8.out zc_one ?_ ?_ ?_); rotate_left; (rfl); (rfl); intro w3 k3 g3 z3)
    rw [zc_eq] at k3
    have gb3 := gb1.grown g3 gb1.size (fun q hq => by injection hq; have := HB.out; omega)
    exact bodyPost_ret (v := .tuple #[.agg (uc z8 (.slice none 0 0)), .int .i64 7]) (results_blk2 rfl rowRM k3 HSZ8.out rfl rfl) rfl ⟨none, 0, 0, by rw [HR.out]; rfl, by rw [HR.out]; exact OwnV.nil _ _ _, gb3⟩

  have HR := Lib.hid (hR2.trans (if_neg ht))
  have hw : IntKind.i64.wrap (u + 1) = u + 1 := by rw [IntKind.wrap_i64]; omega
  have hd : decide (1099511627776 ≤ u) = false := decide_eq_false (by omega)
  have hd2 : (u == 1099511627776) = false := by simpa using ht
  have HUY := Lib.hid hu
  clear hR2 hub hu hte hts
  have r0 := uc_range kb1
  have HSZU := Lib.hid (uc_size HU.out (.slice none 0 0))
  have H1C := Lib.hid (uc_one (U := U) (s := .slice none 0 0) rfl)
  have HBD := Lib.hid fun w => buildRM HU.out w
  go_upto_region 5 with fail
  have hBg1 : B + 1 < w1.heap.size := kz1.lt
  go_upto_region 6 with first
    | ((with_reducible refine wpList_ldm row8 r0 HL.out ?_ ?_); rotate_left; (rfl); rw [show (U.map (Value.int .i64)).toArray = uI U from rfl])
    | ((refine wpList_bdV (v := .agg (uc U (.slice none 0 0))) (w' := w1) rfl 25 #[(0, .tmp 26)] rfl ?_ ?_); (simp only [List.map_toArray, List.map_cons, List.map_nil]; exact HBD.out w1))
    | ((with_reducible refine wpList_st rowRM (Blk.new _ _ _) HSZU.out ?_ H1C.out ?_ ?_ ?_); (rfl); rotate_left; (rfl); (rfl); intro wq kq gq zq)
  have bq : Below w1.heap.size w1 wq := (((Below.refl _ _).alloc (by omega) _).grown gq (by simp) (fun q hq => by injection hq with hq; omega))
  have kzz := kz1.below bq (by omega)
  have gbb := gb1.trans (bq.mono (by have := gb1.size; omega))
  have hBg : w.heap.size ≤ w1.heap.size := by have := HB.out; omega
  have tyq : wq.cell? ⟨w1.heap.size, y, none⟩ = some (.int .i64 u) := by rw [kq.cell, uc_at HU.out _ hy, HUY.out]
  have fyq := kq.free y
  go_upto_region 7 with fail
  have kg2 := kq.set_ y (.int .i64 (u + 1))
  rw [uc_set HU.out _ hy] at kg2
  have kz2 : Blk (wq.setCell ⟨w1.heap.size, y, none⟩ (.int .i64 (u + 1))) (B + 1) 25 (uc z8 (.slice none 0 0)) := by
    unfold Blk at *
    rw [← kzz]
    exact heap_setCell_other wq _ _ _ (by (try simp); (try omega))
  have gb2 := gbb.setCell (p := ⟨w1.heap.size, y, none⟩) hBg (.int .i64 (u + 1))
  have hne : w1.heap.size ≠ B + 1 := by omega
  generalize wq.setCell ⟨w1.heap.size, y, none⟩ (.int .i64 (u + 1)) = w2 at *
  clear tyq fyq kq gq zq kzz gbb
  have HU2 := Lib.hid (show (U.set y (u + 1)).length = 8 by rw [List.length_set]; exact HU.out)
  have ty2 : w2.cell? ⟨w1.heap.size, y, none⟩ = some (.int .i64 (u + 1)) := by
    rw [kg2.cell, uc_at HU2.out _ hy, List.getD_eq_getElem?_getD, List.getElem?_set_self (by rw [HU.out]; exact hy)]
    rfl
  have c82 : w2.cell? ⟨w1.heap.size, 8, none⟩ = some (.slice none 0 0) := (kg2.cell 8).trans (uc_last HU2.out _)
  have f82 := kg2.free 8
  have h2s : w1.heap.size < w2.heap.size := kg2.lt
  clear kb1 kz1 gb1 ty
  go_upto_region 8 with fail
  have hBs : w.heap.size ≤ w2.heap.size := by omega
  refine nameW ?_
  intro w4 hw4
  obtain ⟨gn, hgn⟩ : ∃ gn, gn = w2.heap.size := ⟨_, rfl⟩
  rw [← hgn] at hw4
  have hgs : (w2.setCell ⟨w1.heap.size, 8, none⟩ (.slice (some ⟨gn, 0, none⟩) 1 1)).heap.size = gn := by rw [hgn]; simp
  have k3 : Blk w4 w1.heap.size 25 (uc (U.set y (u + 1)) (.slice (some ⟨gn, 0, none⟩) 1 1)) := by
    have h := (kg2.set_ 8 (.slice (some ⟨gn, 0, none⟩) 1 1)).alloc (.cells #[.int .i64 (y : Nat), .int .i64 (u + 1), .int .i64 v] 105)
    rw [uc_set8 HU2.out] at h
    rw [hw4]
    exact h
  have kz3 : Blk w4 (B + 1) 25 (uc z8 (.slice none 0 0)) := by
    have h : Blk (w2.setCell ⟨w1.heap.size, 8, none⟩ (.slice (some ⟨gn, 0, none⟩) 1 1)) (B + 1) 25 (uc z8 (.slice none 0 0)) := by
      unfold Blk at *
      rw [← kz2]
      exact heap_setCell_other _ _ _ _ (by (try simp); (try omega))
    rw [hw4]
    exact h.alloc _
  have kn : Blk w4 gn 105 #[.int .i64 (y : Nat), .int .i64 (u + 1), .int .i64 v] := by
    have h := Blk.new (w2.setCell ⟨w1.heap.size, 8, none⟩ (.slice (some ⟨gn, 0, none⟩) 1 1)) 105 #[.int .i64 (y : Nat), .int .i64 (u + 1), .int .i64 v]
    rw [hgs] at h
    rw [hw4]
    exact h
  have o4 : OwnV 105 w4 w.heap.size (some ⟨gn, 0, none⟩) 1 1 [((y : Int), u + 1, v)] :=
    ⟨rfl, rfl, .inr ⟨gn, 1, _, rfl, by omega, kn, Nat.le_refl _, by decide, rfl, rfl⟩⟩
  have gb4 : Below w.heap.size w w4 := by
    rw [hw4]
    exact (gb2.setCell (p := ⟨w1.heap.size, 8, none⟩) hBg (.slice (some ⟨gn, 0, none⟩) 1 1)).alloc (by rw [hgs]; omega) _
  have hgB : B + 1 < gn := by rw [hgn]; exact kz2.lt
  clear hw4 hgs kn hgn
  have HSZ4 := Lib.hid (uc_size HU2.out (.slice (some ⟨gn, 0, none⟩) 1 1))
  have H1C4 := Lib.hid (uc_one (U := U.set y (u + 1)) (s := .slice (some ⟨gn, 0, none⟩) 1 1) rfl)
  clear c82 f82 ty2 kg2 gb2 kz2
  go_wp2_with first
    | ((with_reducible refine wpList_ld rowRM k3 HSZ4.out ?_ ?_); rotate_left; (rfl))
    | ((with_reducible refine wpList_st rowRM kz3 HSZ4.out HSZ8.out H1C4.out ?_ ?_ ?_); rotate_left; (rfl); (rfl); intro w5 k5 g5 z5)
  have o5 := o4.grown g5 (.inr (by simp; omega))
  have gb5 := gb4.grown g5 gb4.size (fun q hq => by injection hq; have := HB.out; omega)
  exact bodyPost_ret (v := .tuple #[.agg (uc (U.set y (u + 1)) (.slice (some ⟨gn, 0, none⟩) 1 1)), .int .i64 0]) (results_blk2 rfl rowRM k5 HSZ4.out rfl rfl) rfl ⟨some ⟨gn, 0, none⟩, 1, 1, by rw [HR.out], by rw [HR.out]; exact o5, gb5⟩
end Go.Proofs.Ytocoohpekpkmkaa
