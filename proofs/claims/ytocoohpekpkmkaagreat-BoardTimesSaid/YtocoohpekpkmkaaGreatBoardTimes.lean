/- BoardTimes: a write stands ahead of all that its writer knew: joined with that it is the plan; the tally is one more; notes stay; for every input, with no panic (printed by gen/boardtimes.py). -/
import Derived.Test.YtocoohpekpkmkaaGreatBoWrote
import Derived.Test.YtocoohpekpkmkaaGreatRegNode
import Derived.Test.YtocoohpekpkmkaaGreatTallyLaw
import Derived.Test.YtocoohpekpkmkaaGreatRegRMeet
/- The walk of the document's Same of boards. -/
namespace Go.Proofs.YtocoohpekpkmkaaGreat
set_option linter.unusedVariables false
set_option linter.unusedSimpArgs false
set_option maxRecDepth 100000
open Go.RowKit
open Reg (La Vl)
structure WfB (b : Bd) : Prop where
  t : Wf b.t
  p : WfP b.p
  u : Wf b.u
def sameB (a b : Bd) : Bool := decide (a.t = b.t) && decide (a.p = b.p) && (decide (a.u = b.u) && decide (a.l = b.l))
theorem sameB_iff (a b : Bd) : sameB a b = true ↔ a = b := by
  obtain ⟨t, p, u, l⟩ := a
  obtain ⟨t', p', u', l'⟩ := b
  unfold sameB
  simp only [Bool.and_eq_true, decide_eq_true_eq, Bd.mk.injEq]
  constructor
  · rintro ⟨⟨h1, h2⟩, h3, h4⟩; exact ⟨h1, h2, h3, h4⟩
  · rintro ⟨h1, h2, h3, h4⟩; exact ⟨⟨h1, h2⟩, h3, h4⟩
set_option maxHeartbeats 800000 in
theorem bsame_any (a b : Bd) (ha : Bo.Shaped a) (hb : Bo.Shaped b) (wa : WfB a) (wb : WfB b) (q q2 : Value) (w : World) (hq : FrBo a q w) (hq2 : FrBo b q2 w) :
    Calls Tryz.prog 9 #[q, q2] w (GiveBo w (sameB a b)) := by
  obtain ⟨A, m, c, rfl, hr, hm⟩ := hq
  obtain ⟨A', m', c', rfl, hr', hm'⟩ := hq2
  obtain ⟨e1, h1⟩ : ∃ e, decide (a.t = b.t) = e := ⟨_, rfl⟩
  obtain ⟨e2, h2⟩ : ∃ e, decide (a.p = b.p) = e := ⟨_, rfl⟩
  obtain ⟨e3, h3⟩ : ∃ e, (decide (a.u = b.u) && decide (a.l = b.l)) = e := ⟨_, rfl⟩
  have HV := Lib.hid (show sameB a b = (e1 && e2 && e3) by unfold sameB; rw [h1, h2, h3])
  have HC := Lib.hid fun (w' : World) (hbb : Below w.heap.size w w') => (h3 ▸ sameF ha.u hb.u wa.u wb.u (⟨A, m, c, rfl, (hr.below hbb).size, hm⟩ : Fresh a.u a.l (.agg (uc a.u (.slice A m c))) w') (⟨A', m', c', rfl, (hr'.below hbb).size, hm'⟩ : Fresh b.u b.l (.agg (uc b.u (.slice A' m' c'))) w') : Calls Tryz.prog _ _ w' (GiveBo w' e3))
  have H1 := Lib.hid h1
  have H2 := Lib.hid h2
  have SA := Lib.hid ha
  have SB := Lib.hid hb
  have WA := Lib.hid wa
  have WB := Lib.hid wb
  have TA := Lib.hid (show (tc a.t).size = 16 by rw [tc_size, ha.t])
  have TB := Lib.hid (show (tc b.t).size = 16 by rw [tc_size, hb.t])
  have PA := Lib.hid (plA_size ha.p)
  have PB := Lib.hid (plA_size hb.p)
  have UA := Lib.hid (uc_size ha.u (.slice A m c))
  have UB := Lib.hid (uc_size hb.u (.slice A' m' c'))
  clear h1 h2 h3 ha hb wa wb hr hr' hm hm'
  go_enter Tryz.func9, Tryz.ntmps9
  go_upto_region 1 with fail
  refine nameW ?_
  intro wv hwv
  obtain ⟨g, hg⟩ : ∃ g, g = w.heap.size := ⟨_, rfl⟩
  rw [← hg]
  have ka : Blk wv g 32 (bc a (.slice A m c)) := by rw [hwv, hg]; exact (Blk.new w _ _).alloc _
  have kb : Blk wv (g + 1) 32 (bc b (.slice A' m' c')) := by
    have h := Blk.new (w.alloc (.cells (bc a (.slice A m c)) 32)) 32 (bc b (.slice A' m' c'))
    rw [hwv, hg]
    simpa using h
  have gb : Below w.heap.size w wv := by rw [hwv]; exact ((Below.refl _ _).alloc (Nat.le_refl _) _).alloc (by simp) _
  have pa : wv.rangeAt g 16 (plA a.p).toList := ka.plans SA.out
  have pb : wv.rangeAt (g + 1) 16 (plA b.p).toList := kb.plans SB.out
  have HPV := Lib.hid (HC.out wv gb)
  clear hwv hg HC
  cases e1
  case false =>
    go_wp2_with first
      | ((with_reducible refine wpList_ldr rowRT (ka.tal SA.out) TA.out ?_ ?_); rotate_left; (rfl))
      | ((with_reducible refine wpList_ldr rowRT (kb.tal SB.out) TB.out ?_ ?_); rotate_left; (rfl))
      | ((with_reducible refine wpList_eq twoR SA.out.t SB.out.t WA.out.t WB.out.t ?_ ?_ ?_ ?_); rotate_left; (rfl); (rfl); (rfl); rw [H1.out])
    go_ret
    exact ⟨by rw [HV.out]; rfl, gb⟩
  case true =>
  cases e2
  case false =>
    go_wp2_with first
      | ((with_reducible refine wpList_ldr rowRT (ka.tal SA.out) TA.out ?_ ?_); rotate_left; (rfl))
      | ((with_reducible refine wpList_ldr rowRT (kb.tal SB.out) TB.out ?_ ?_); rotate_left; (rfl))
      | ((with_reducible refine wpList_eq twoR SA.out.t SB.out.t WA.out.t WB.out.t ?_ ?_ ?_ ?_); rotate_left; (rfl); (rfl); (rfl); rw [H1.out])
      | ((with_reducible refine wpList_ldrg rowRPl pa PA.out ?_ ?_ ?_); rotate_left; (rfl); (rfl))
      | ((with_reducible refine wpList_ldrg rowRPl pb PB.out ?_ ?_ ?_); rotate_left; (rfl); (rfl))
      | ((with_reducible refine wpList_eqP SA.out.p SB.out.p WA.out.p WB.out.p ?_ ?_ ?_ ?_); rotate_left; (rfl); (rfl); (rfl); rw [H2.out])
    go_ret
    exact ⟨by rw [HV.out]; rfl, gb⟩
  case true =>
  go_wp2_with first
    | ((with_reducible refine wpList_ldr rowRT (ka.tal SA.out) TA.out ?_ ?_); rotate_left; (rfl))
    | ((with_reducible refine wpList_ldr rowRT (kb.tal SB.out) TB.out ?_ ?_); rotate_left; (rfl))
    | ((with_reducible refine wpList_eq twoR SA.out.t SB.out.t WA.out.t WB.out.t ?_ ?_ ?_ ?_); rotate_left; (rfl); (rfl); (rfl); rw [H1.out])
    | ((with_reducible refine wpList_ldrg rowRPl pa PA.out ?_ ?_ ?_); rotate_left; (rfl); (rfl))
    | ((with_reducible refine wpList_ldrg rowRPl pb PB.out ?_ ?_ ?_); rotate_left; (rfl); (rfl))
    | ((with_reducible refine wpList_eqP SA.out.p SB.out.p WA.out.p WB.out.p ?_ ?_ ?_ ?_); rotate_left; (rfl); (rfl); (rfl); rw [H2.out])
    | ((with_reducible refine wpList_ldrg rowRM (ka.notes SA.out) UA.out ?_ ?_ ?_); rotate_left; (rfl); (rfl))
    | ((with_reducible refine wpList_ldrg rowRM (kb.notes SB.out) UB.out ?_ ?_ ?_); rotate_left; (rfl); (rfl))
  refine HPV.out.mono ?_
  rintro e w2 ⟨rfl, b2⟩
  have gb := gb.trans (b2.mono gb.size)
  clear b2 pa pb ka kb
  go_wp2_with fail
  go_ret
  exact ⟨by rw [HV.out]; simp, gb⟩
end Go.Proofs.YtocoohpekpkmkaaGreat

/- The walk of board.Note. -/
namespace Go.Proofs.YtocoohpekpkmkaaGreat
set_option linter.unusedVariables false
set_option linter.unusedSimpArgs false
set_option maxRecDepth 100000
open Go.RowKit
open Reg (La Vl)
theorem bnote_bad {b : Bd} {x y : Int} (h : (Bo.rightB b && decide (0 ≤ y)) = false) : Bo.note b x y = (Bo.zero, 2) := by
  unfold Bo.note
  rw [if_pos]
  simp only [Bool.and_eq_false_iff, decide_eq_false_iff_not] at h
  rcases h with h | h
  · exact .inl h
  · exact .inr (by omega)
set_option maxHeartbeats 4000000 in
theorem bnote_any (b : Bd) (hs : Bo.Shaped b) (nd v : Int) (q : Value) (w : World) (hq : FrBo b q w) : Calls Tryz.prog 15 #[q, .int .i64 nd, .int .i64 v] w (GiveBdE 84 w (Bo.note b nd v).1 (Bo.note b nd v).2) := by
  obtain ⟨x, k, hx⟩ : ∃ x k, Bo.note b nd v = (x, k) := ⟨_, _, rfl⟩
  rw [hx]
  have HX := Lib.hid hx
  clear hx
  obtain ⟨A, m, c, rfl, hr, hm⟩ := hq
  obtain ⟨R, hR⟩ : ∃ R, R = Bo.rightB b := ⟨_, rfl⟩
  have HC1 := Lib.hid fun (w' : World) (hb : Below w.heap.size w w') => (hR ▸ boRight_any b hs (.agg (bc b (.slice A m c))) w' ⟨A, m, c, rfl, (hr.below hb).size, hm⟩ : Calls Tryz.prog _ _ w' (GiveBo w' R))
  have HC2 := Lib.hid fun (hr1 : Bo.rightB b = true) (w' : World) (hb : Below w.heap.size w w') => (Bo.own_of hr1 ▸ boOwn_any b hs (.agg (bc b (.slice A m c))) w' ⟨A, m, c, rfl, (hr.below hb).size, hm⟩ : Calls Tryz.prog _ _ w' (GiveBd 84 w' b))
  have HS := Lib.hid hs
  have h49 := Lib.hid (bc_size (s := .slice A m c) hs)
  have z49 := Lib.hid (bc_size (s := .slice none 0 0) Bo.zero_shaped)
  have o49 := Lib.hid (bc_one (b := b) (s := .slice A m c) rfl)
  have HR := Lib.hid hR
  clear hr hm hs hR
  obtain ⟨r1, hr1⟩ : ∃ r1, r1 = decide (v ≥ 0) := ⟨_, rfl⟩
  have H1 := Lib.hid hr1
  have bad : (R && r1) = false → x = Bo.zero ∧ k = 2 := fun h => by
    have := HX.out
    rw [bnote_bad (by rw [← HR.out]; rw [H1.out] at h; exact h)] at this
    injection this with h1 h2
    exact ⟨h1.symm, h2.symm⟩
  have BAD := Lib.hid bad
  clear bad hr1
  go_enter_defers Tryz.func15, Tryz.ntmps15
  go_upto_region 2 with fail
  refine nameW ?_
  intro wv hwv
  obtain ⟨B, hB⟩ : ∃ B, B = w.heap.size := ⟨_, rfl⟩
  rw [← hB]
  have k0 : Blk wv B 41 (bc b (.slice A m c)) := by rw [hwv, hB]; exact ((Blk.new w _ _).alloc _).alloc _
  have ke : Blk wv (B + 1) 41 (bc Bo.zero (.slice none 0 0)) := by
    have h := Blk.new (w.alloc (.cells (bc b (.slice A m c)) 41)) 41 (bc Bo.zero (.slice none 0 0))
    rw [zbo] at h ⊢
    rw [hwv, hB]
    exact (by simpa using h : Blk _ (w.heap.size + 1) _ _).alloc _
  have kf : Blk wv (B + 2) 50 #[.int .i64 0] := by
    have h := Blk.new ((w.alloc (.cells (bc b (.slice A m c)) 41)).alloc (.cells (bc Bo.zero (.slice none 0 0)) 41)) 50 #[.int .i64 0]
    rw [zbo] at h
    rw [hwv, hB]
    simpa using h
  have gb : Below B w wv := by rw [hwv, hB]; exact (((Below.refl _ _).alloc (Nat.le_refl _) _).alloc (by simp) _).alloc (by simp; omega) _
  have HB := Lib.hid hB
  clear hwv hB
  go_wp2_with ((with_reducible refine wpList_ld rowBo k0 h49.out ?_ ?_); rotate_left; (rfl))
  refine (HC1.out wv (by rw [← HB.out]; exact gb)).mono ?_
  rintro e w1 ⟨rfl, b1⟩
  have k0 := k0.below b1 k0.lt
  have ke := ke.below b1 ke.lt
  have kf := kf.below b1 kf.lt
  have gb := gb.trans (b1.mono (by have := gb.size; have := HB.out; omega))
  clear b1
  cases R
  case false =>
    go_wp2_with fail
    refine (bmust_bad 2 _).mono ?_
    rintro e w2 ⟨rfl, rfl⟩
    go_wp2_with fail
    obtain ⟨rfl, rfl⟩ := BAD.out (by simp)
    refine leaves_cons (f := 37) (args := #[.pointer (some ⟨B + 2, 0, none⟩)]) (by simp) (by simp [go_sem]) ?_
    refine (bcaught_panic _ _ _ _ _ (kf.cell 0) (kf.free 0)).mono ?_
    rintro e u' w4 ⟨rfl, rfl, rfl⟩
    have k4 := (kf.alloc (.cells #[.int .i64 2] 134)).set_ 0 (.int .i64 2)
    have e4 := (ke.alloc (.cells #[.int .i64 2] 134)).far (p := ⟨B + 2, 0, none⟩) (by show B + 1 ≠ B + 2; omega) (.int .i64 2)
    have c4 := k4.cell 0
    have g4 := (gb.alloc (by have := gb.size; have := HB.out; omega) (.cells #[.int .i64 2] 134)).setCell (p := ⟨B + 2, 0, none⟩) (by show B ≤ B + 2; omega) (.int .i64 2)
    exact ⟨.tuple #[.agg (bc Bo.zero (.slice none 0 0)), .int .i64 2], results_cc30 rfl rowBo e4 z49.out rfl rfl (by simp [go_sem, c4]), .agg (bc Bo.zero (.slice none 0 0)), rfl, ⟨none, 0, 0, rfl, OwnV.nil _ _ _, by omega⟩, by rw [← HB.out]; exact g4⟩
  case true =>
  cases r1
  case false =>
    have hv0 : decide (0 ≤ v) = false := H1.out.symm
    go_wp2_with fail
    refine (bmust_bad 2 _).mono ?_
    rintro e w2 ⟨rfl, rfl⟩
    go_wp2_with fail
    obtain ⟨rfl, rfl⟩ := BAD.out (by simp)
    refine leaves_cons (f := 37) (args := #[.pointer (some ⟨B + 2, 0, none⟩)]) (by simp) (by simp [go_sem]) ?_
    refine (bcaught_panic _ _ _ _ _ (kf.cell 0) (kf.free 0)).mono ?_
    rintro e u' w4 ⟨rfl, rfl, rfl⟩
    have k4 := (kf.alloc (.cells #[.int .i64 2] 134)).set_ 0 (.int .i64 2)
    have e4 := (ke.alloc (.cells #[.int .i64 2] 134)).far (p := ⟨B + 2, 0, none⟩) (by show B + 1 ≠ B + 2; omega) (.int .i64 2)
    have c4 := k4.cell 0
    have g4 := (gb.alloc (by have := gb.size; have := HB.out; omega) (.cells #[.int .i64 2] 134)).setCell (p := ⟨B + 2, 0, none⟩) (by show B ≤ B + 2; omega) (.int .i64 2)
    exact ⟨.tuple #[.agg (bc Bo.zero (.slice none 0 0)), .int .i64 2], results_cc30 rfl rowBo e4 z49.out rfl rfl (by simp [go_sem, c4]), .agg (bc Bo.zero (.slice none 0 0)), rfl, ⟨none, 0, 0, rfl, OwnV.nil _ _ _, by omega⟩, by rw [← HB.out]; exact g4⟩
  case true =>
  have hv0 : decide (0 ≤ v) = true := H1.out.symm
  clear BAD
  go_wp2_with fail
  refine (bmust_ok 2 _).mono ?_
  rintro e w2 ⟨rfl, rfl⟩
  go_wp2_with ((with_reducible refine wpList_ld rowBo k0 h49.out ?_ ?_); rotate_left; (rfl))
  refine (HC2.out HR.out.symm w1 (by rw [← HB.out]; exact gb)).mono ?_
  rintro e w2 ⟨_, rfl, ⟨A', m', c', rfl, o, hm'⟩, b1⟩
  have k0 := k0.below b1 k0.lt
  have ke := ke.below b1 ke.lt
  have kf := kf.below b1 kf.lt
  have gb := gb.trans (b1.mono (by have := gb.size; have := HB.out; omega))
  clear b1
  have HM := Lib.hid hm'
  have n49 := Lib.hid (bc_size (b := b) (s := .slice A' m' c') HS.out)
  have n1 := Lib.hid (bc_one (b := b) (s := .slice A' m' c') rfl)
  clear hm' HC1 HC2 h49 o49 hv0
  go_upto_region 4 with ((with_reducible refine wpList_st rowBo (Blk.new _ _ _) n49.out ?_ n1.out ?_ ?_ ?_); (rfl); rotate_left; (rfl); (rfl); intro w3 kx g3 z3)
  obtain ⟨X, hX⟩ : ∃ X, X = w2.heap.size := ⟨_, rfl⟩
  rw [← hX] at kx g3 ⊢
  have hXB : B + 2 < X := by have := kf.lt; omega
  have bx : Below w2.heap.size w2 w3 := new_below (hX ▸ g3)
  have k0 := k0.below bx k0.lt
  have ke := ke.below bx ke.lt
  have kf := kf.below bx kf.lt
  have o := o.below bx (Nat.le_refl _)
  have gb := gb.trans (bx.mono (by have := gb.size; have := HB.out; omega))
  clear bx
  clear g3 z3 hX
  obtain ⟨u', l', kt, ht⟩ : ∃ u' l' kt, Reg.putM b.u b.l nd v = ((u', l'), kt) := ⟨_, _, _, rfl⟩
  have had := putF (U := b.u) (l := b.l) HS.out.u nd v (q := .agg (uc b.u (.slice A' m' c'))) (w := w3) ⟨A', m', c', rfl, o.rd, HM.out⟩
  rw [ht] at had
  have HAD := Lib.hid had
  have HT := Lib.hid ht
  have u8 : u'.length = 8 := by
    have := putM_len8 (l := b.l) HS.out.u nd v
    rwa [ht] at this
  have U8 := Lib.hid u8
  have S9 := Lib.hid (uc_size HS.out.u (.slice A' m' c'))
  clear had ht u8
  go_wp2_with ((with_reducible refine wpList_ldr rowM (kx.notes HS.out) S9.out ?_ ?_); rotate_left; (rfl))
  refine HAD.out.mono ?_
  rintro e w4 ⟨_, rfl, ⟨A2, m2, c2, rfl, o2, hm2⟩, b1⟩
  have k0 := k0.below b1 k0.lt
  have ke := ke.below b1 ke.lt
  have kf := kf.below b1 kf.lt
  have kx := kx.below b1 kx.lt
  have gb := gb.trans (b1.mono (by have := gb.size; have := HB.out; omega))
  clear b1
  have HM2 := Lib.hid hm2
  clear HAD o hm2
  by_cases hkt : kt = 0
  case neg =>
    have HK := Lib.hid hkt
    go_wp2_with fail
    refine (gotM_bad (uc u' (.slice A2 m2 c2)) kt HK.out _).mono ?_
    rintro e w5 ⟨rfl, b1⟩
    have k0 := k0.below b1 k0.lt
    have ke := ke.below b1 ke.lt
    have kf := kf.below b1 kf.lt
    have gb := gb.trans (b1.mono (by have := gb.size; have := HB.out; omega))
    clear b1
    have hxk : x = Bo.zero ∧ k = kt := by
      have := HX.out
      unfold Bo.note at this
      rw [if_neg (by have := of_decide_eq_true H1.out.symm; rw [← HR.out]; simp; omega), if_pos (by rw [HT.out]; exact HK.out), HT.out] at this
      injection this with h1 h2
      exact ⟨h1.symm, h2.symm⟩
    obtain ⟨rfl, rfl⟩ := hxk
    clear HX HT hkt HK
    go_wp2_with fail
    refine leaves_cons (f := 37) (args := #[.pointer (some ⟨B + 2, 0, none⟩)]) (by simp) (by simp [go_sem]) ?_
    refine (bcaught_panic _ _ _ _ _ (kf.cell 0) (kf.free 0)).mono ?_
    rintro e u' w4 ⟨rfl, rfl, rfl⟩
    have k4 := (kf.alloc (.cells #[.int .i64 k] 134)).set_ 0 (.int .i64 k)
    have e4 := (ke.alloc (.cells #[.int .i64 k] 134)).far (p := ⟨B + 2, 0, none⟩) (by show B + 1 ≠ B + 2; omega) (.int .i64 k)
    have c4 := k4.cell 0
    have g4 := (gb.alloc (by have := gb.size; have := HB.out; omega) (.cells #[.int .i64 k] 134)).setCell (p := ⟨B + 2, 0, none⟩) (by show B ≤ B + 2; omega) (.int .i64 k)
    exact ⟨.tuple #[.agg (bc Bo.zero (.slice none 0 0)), .int .i64 k], results_cc30 rfl rowBo e4 z49.out rfl rfl (by simp [go_sem, c4]), .agg (bc Bo.zero (.slice none 0 0)), rfl, ⟨none, 0, 0, rfl, OwnV.nil _ _ _, by omega⟩, by rw [← HB.out]; exact g4⟩
  case pos =>
  subst hkt
  go_wp2_with fail
  refine (gotM_ok (uc u' (.slice A2 m2 c2)) (uc_size U8.out _) (uc_one rfl) _).mono ?_
  rintro e w5 ⟨rfl, b1⟩
  have k0 := k0.below b1 k0.lt
  have ke := ke.below b1 ke.lt
  have kf := kf.below b1 kf.lt
  have kx := kx.below b1 kx.lt
  have o2 := o2.below b1 (Nat.le_refl _)
  have gb := gb.trans (b1.mono (by have := gb.size; have := HB.out; omega))
  clear b1
  have hth := kx.there_ (o := 40) (n := 9) (by rw [n49.out]; omega)
  have SB := Lib.hid (uc_size U8.out (.slice A2 m2 c2))
  have OB := Lib.hid (uc_one (U := u') (s := .slice A2 m2 c2) rfl)
  go_upto_region 5 with ((with_reducible refine wpList_str rowM hth SB.out OB.out ?_ ?_ ?_); rotate_left; (rfl); (rfl); intro w9 hw9)
  have gx := cells_grown w5 X 40 (uc u' (.slice A2 m2 c2)).toList
  rw [← hw9] at gx
  have ke := ke.grown gx (fun h => by injection h; omega)
  have kf := kf.grown gx (fun h => by injection h; omega)
  have o := o2.grown gx (.inr (own_ne o2.2 kx (by decide)))
  have gb := gb.grown gx (by have := gb.size; have := HB.out; omega) (fun q hq => by injection hq; have := HB.out; omega)
  have kx := kx.setN HS.out (l := l') (s' := .slice A2 m2 c2) U8.out
  have kx : Blk w9 X 41 (bc { b with u := u', l := l' } (.slice A2 m2 c2)) := by rw [hw9]; exact kx
  have hxk : x = { b with u := u', l := l' } ∧ k = 0 := by
    have := HX.out
    unfold Bo.note at this
    rw [if_neg (by have := of_decide_eq_true H1.out.symm; rw [← HR.out]; simp; omega), if_neg (by rw [HT.out]; simp), HT.out] at this
    injection this with h1 h2
    exact ⟨h1.symm, h2.symm⟩
  have hs3 : Bo.Shaped x := by rw [hxk.1]; exact ⟨HS.out.t, HS.out.p, U8.out⟩
  have hl3 : x.l = l' := by rw [hxk.1]
  rw [← hxk.1] at kx
  obtain ⟨_, rfl⟩ := hxk
  have N49 := Lib.hid (bc_size (b := x) (s := .slice A2 m2 c2) hs3)
  have N1 := Lib.hid (bc_one (b := x) (s := .slice A2 m2 c2) rfl)
  have HL := Lib.hid hl3
  clear hs3 hl3 gx hth hw9 k0 o2
  have cf := kf.cell 0
  have ff := kf.free 0
  go_wp2_with first
    | ((with_reducible refine wpList_ld rowBo kx N49.out ?_ ?_); rotate_left; (rfl))
    | ((with_reducible refine wpList_st rowBo ke N49.out z49.out N1.out ?_ ?_ ?_); rotate_left; (rfl); (rfl); intro w10 k10 g10 z10; have kf := kf.grown g10 (fun h => by injection h; omega); have cf := kf.cell 0; have ff := kf.free 0)
  have o := o.grown g10 (.inr (own_ne o.2 ke (by decide)))
  have gb := gb.grown g10 (by have := gb.size; have := HB.out; omega) (fun q hq => by injection hq; have := HB.out; omega)
  refine leaves_cons (f := 37) (args := #[.pointer (some ⟨B + 2, 0, none⟩)]) (by simp) (by simp [go_sem]) ?_
  refine (bcaught_none _ _).mono ?_
  rintro e u' w11 ⟨rfl, rfl, rfl⟩
  have k12 := k10.far (p := ⟨B + 2, 0, none⟩) (by show B + 1 ≠ B + 2; omega) (.int .i64 0)
  have f12 := kf.set_ 0 (.int .i64 0)
  have c12 := f12.cell 0
  have o12 := o.setFar (p := ⟨B + 2, 0, none⟩) (own_ne o.2 kf (by decide)) (.int .i64 0)
  have g12 := gb.setCell (p := ⟨B + 2, 0, none⟩) (by show B ≤ B + 2; omega) (.int .i64 0)
  rw [← HL.out] at o12
  exact ⟨.tuple #[.agg (bc x (.slice A2 m2 c2)), .int .i64 0], results_cc30 rfl rowBo k12 N49.out rfl rfl (by simp [go_sem, c12]), .agg (bc x (.slice A2 m2 c2)), rfl, ⟨A2, m2, c2, rfl, o12, HM2.out⟩, by rw [← HB.out]; exact g12⟩
end Go.Proofs.YtocoohpekpkmkaaGreat

/- A right board's numbers are those of an int64. -/
namespace Go.Proofs.YtocoohpekpkmkaaGreat
set_option linter.unusedVariables false
set_option linter.unusedSimpArgs false
open Go.RowKit
open Reg (La Vl)
theorem right_wfB {b : Bd} (h : Bo.rightB b = true) : WfB b := by
  obtain ⟨h1, h2, h3, h4⟩ := (Bo.right_iff b).1 h
  refine ⟨right_wf h3, fun q hq => ?_, fun x hx => ?_⟩
  · have := (Bo.planB_iff q).1 (h1 q hq)
    obtain ⟨x, y, z⟩ := q
    show (Lit.int .i64 x).wf = true ∧ (Lit.int .i64 y).wf = true ∧ (Lit.int .i64 z).wf = true
    rcases this with e | e
    · injection e with e1 e2
      injection e2 with e2 e3
      subst e1 e2 e3
      exact ⟨wf_of (by omega) (by omega), wf_of (by omega) (by omega), wf_of (by omega) (by omega)⟩
    · simp only at e
      exact ⟨wf_of (by omega) (by omega), wf_of (by omega) (by omega), wf_of (by omega) (by omega)⟩
  · have hm := (Reg.rightM_iff b.u b.l).1 h4
    have := (Reg.numOk_iff x).1 (List.all_eq_true.1 hm.1 x hx)
    exact wf_of (by omega) (by omega)
theorem zero_wfB : WfB Bo.zero := right_wfB Bo.zero_right
/-- what was read of bytes is right, and gives the bytes -/
theorem getX_ok {xs : List UInt8} {b : Bd} (h : Bo.getX xs = .ok b) : Bo.rightB b = true ∧ bodyL b = xs := by
  unfold Bo.getX at h
  split at h
  · cases h
  split at h
  · cases h
  split at h
  · cases h
  split at h
  case isTrue hc =>
    injection h with h
    rw [← h]
    exact hc
  case isFalse => cases h
theorem getBo_right (bs : List UInt8) : Bo.rightB (getBo bs).1 = true := by
  unfold getBo
  cases hg : Bo.getE bs with
  | error y => exact Bo.zero_right
  | ok b =>
    unfold Bo.getE at hg
    split at hg
    · cases hg
    · split at hg
      · exact (getX_ok hg).1
      · cases hg
end Go.Proofs.YtocoohpekpkmkaaGreat

/- How boards read when they come in. -/
namespace Go.Proofs.YtocoohpekpkmkaaGreat
set_option linter.unusedVariables false
set_option linter.unusedSimpArgs false
open Go.ChangeShapes Go.WideShapes Go.ChangeAt Go.RowKit Go.Deep
open Reg (La Vl)
set_option maxRecDepth 100000
theorem cellsRPl : (Tryz.prog).cellsOf 27 = 24 := by kernel_rfl
theorem cellsRT : (Tryz.prog).cellsOf 24 = 16 := by kernel_rfl
theorem cellsRBo : (Tryz.prog).cellsOf 32 = 49 := by kernel_rfl
theorem cellsStp : (Tryz.prog).cellsOf 49 = 3 := by kernel_rfl
section
variable {H : Type} {enc : TypeId × Value → H} {W : World} {base : Nat} {sp : Nat → Bool} {held : Bool} {fuel : Nat} {cs : List Value} {x : DataW H × List MemPlace}
theorem rd_lac (hf : DataW.trod enc Tryz.prog W base sp held fuel 26 cs = some x) : ∃ d : La, cs = pc d ∧ (Lit.int .i64 d.1).wf = true ∧ (Lit.int .i64 d.2.1).wf = true ∧ (Lit.int .i64 d.2.2).wf = true := by
  have hl := rd_len Tryz.underlying26 cellsLa hf
  obtain ⟨_, _, g0⟩ := rd_field Tryz.underlying26 hf 0 3 0 1 rfl cellsI
  obtain ⟨_, _, g1⟩ := rd_field Tryz.underlying26 hf 1 3 1 1 rfl cellsI
  obtain ⟨_, _, g2⟩ := rd_field Tryz.underlying26 hf 2 3 2 1 rfl cellsI
  obtain ⟨x0, e0, h0⟩ := rd_int g0
  obtain ⟨x1, e1, h1⟩ := rd_int g1
  obtain ⟨x2, e2, h2⟩ := rd_int g2
  match cs, hl with
  | [a, b, c], _ =>
    simp at e0 e1 e2
    exact ⟨(x0, x1, x2), by rw [e0, e1, e2]; rfl, wf_of h0.1 h0.2, wf_of h1.1 h1.2, wf_of h2.1 h2.2⟩
theorem rd_arrP (hf : DataW.trod enc Tryz.prog W base sp held fuel 27 cs = some x) : ∃ p : List La, cs = plansC p ∧ p.length = 8 ∧ WfP p := by
  obtain ⟨xs, m, _, _, hl, hxl, hg⟩ := DataW.trod_array Tryz.underlying27 hf
  rw [cellsRPl] at hl
  rw [cellsLa] at hg
  have key : ∀ i, i < 8 → ∃ d : La, (cs.drop (i * 3)).take 3 = pc d ∧ (Lit.int .i64 d.1).wf = true ∧ (Lit.int .i64 d.2.1).wf = true ∧ (Lit.int .i64 d.2.2).wf = true := fun i hi => by
    have h := hg i hi
    rw [List.getElem?_eq_getElem (by omega)] at h
    exact rd_lac h
  have hex : ∀ i, ∃ d : La, i < 8 → (cs.drop (i * 3)).take 3 = pc d ∧ (Lit.int .i64 d.1).wf = true ∧ (Lit.int .i64 d.2.1).wf = true ∧ (Lit.int .i64 d.2.2).wf = true := fun i => by
    by_cases hi : i < 8
    · obtain ⟨d, h⟩ := key i hi
      exact ⟨d, fun _ => h⟩
    · exact ⟨(0, 0, 0), fun h => absurd h hi⟩
  refine ⟨(List.range 8).map fun i => (hex i).choose, ?_, by simp, fun z hz => ?_⟩
  · apply List.ext_getElem?
    intro j
    by_cases hj : j < 24
    · obtain ⟨i, r, hr, rfl⟩ : ∃ i r, r < 3 ∧ j = i * 3 + r := ⟨j / 3, j % 3, Nat.mod_lt _ (by omega), by omega⟩
      have hi : i < 8 := by omega
      rw [plansC_at _ i r (by simpa using hi) hr, List.getD_eq_getElem?_getD, List.getElem?_map, List.getElem?_range hi]
      show _ = (pc (hex i).choose)[r]?
      rw [← ((hex i).choose_spec hi).1, List.getElem?_take, if_pos hr, List.getElem?_drop]
    · rw [List.getElem?_eq_none (by omega), List.getElem?_eq_none (by rw [plansC_len]; simp; omega)]
  · obtain ⟨i, hi, rfl⟩ := List.mem_map.1 hz
    exact ((hex i).choose_spec (by simpa using hi)).2
theorem rd_talR (hf : DataW.trod enc Tryz.prog W base sp held fuel 24 cs = some x) : ∃ l : List Int, cs = l.map (Value.int .i64) ∧ l.length = 16 ∧ Wf l := by
  obtain ⟨⟨f0, f1, hu, t0, o0, t1, o1, _, _⟩, hc, _, _⟩ := twoR
  have hl := rd_len hu hc hf
  obtain ⟨_, _, g0⟩ := rd_field hu hf 0 22 0 8 (by simp [t0, o0]) cellsA
  obtain ⟨_, _, g1⟩ := rd_field hu hf 1 22 8 8 (by simp [t1, o1]) cellsA
  obtain ⟨l0, e0, n0, w0⟩ := rd_arr8 g0
  obtain ⟨l1, e1, n1, w1⟩ := rd_arr8 g1
  refine ⟨l0 ++ l1, ?_, by simp [n0, n1], fun z hz => ?_⟩
  · rw [List.map_append, ← e0, ← e1, List.drop_zero, List.take_of_length_le (l := cs.drop 8) (by simp; omega), List.take_append_drop]
  · rcases List.mem_append.1 hz with h | h
    · exact w0 z h
    · exact w1 z h
theorem rd_board (hf : DataW.trod enc Tryz.prog W base sp held fuel 32 cs = some x) : ∃ (b : Bd) (A : Option Addr) (n c : Nat), cs = (bc b (.slice A n c)).toList ∧ Bo.Shaped b ∧ WfB b ∧ RdV W W.heap.size A n b.l ∧ n ≤ maxLen := by
  have hl := rd_len Tryz.underlying32 cellsRBo hf
  obtain ⟨_, _, g0⟩ := rd_field Tryz.underlying32 hf 0 24 0 16 rfl cellsRT
  obtain ⟨_, _, g1⟩ := rd_field Tryz.underlying32 hf 1 27 16 24 rfl cellsRPl
  obtain ⟨_, _, g2⟩ := rd_field Tryz.underlying32 hf 2 30 40 9 rfl cellsRM
  obtain ⟨t, e0, h0, w0⟩ := rd_talR g0
  obtain ⟨p, e1, h1, w1⟩ := rd_arrP g1
  obtain ⟨U, A, n, c, l, e2, hU, wU, hr, hn⟩ := rd_many g2
  refine ⟨⟨t, p, U, l⟩, A, n, c, ?_, ⟨h0, h1, hU⟩, ⟨w0, w1, wU⟩, hr, hn⟩
  have hall : cs = (cs.drop 0).take 16 ++ ((cs.drop 16).take 24 ++ ((cs.drop 40).take 9 ++ [])) := by
    rw [← List.drop_eq_nil_of_le (i := 49) (Nat.le_of_eq hl), cut_row _ 40 9, cut_row _ 16 24, cut_row _ 0 16, List.drop_zero]
  rw [e0, e1, e2] at hall
  rw [hall]
  simp [bc, uc]
end
section
variable {H : Type} {enc : TypeId × Value → H} {W : World} {base : Nat} {sp : Nat → Bool} {held : Bool} {r : Reach} {b0 : Nat} {v : Value} {d : DataW H} {p : List MemPlace}
theorem open_board (hv : Value.okWide Tryz.prog W r b0 32 v) (h : DataW.Trod enc Tryz.prog W base sp held 32 v d p) :
    ∃ (b : Bd) (A : Option Addr) (n c : Nat), v = .agg (bc b (.slice A n c)) ∧ Bo.Shaped b ∧ WfB b ∧ RdV W W.heap.size A n b.l ∧ n ≤ maxLen := by
  obtain ⟨cs, rfl, hsz⟩ := okWide_struct Tryz.underlying32 hv
  obtain ⟨fuel, hf0⟩ := h
  have hf : DataW.trod enc Tryz.prog W base sp held fuel 32 cs.toList = some (d, p) := hf0
  obtain ⟨b, A, n, c, h1, h2⟩ := rd_board hf
  exact ⟨b, A, n, c, by rw [← Array.toArray_toList (xs := cs), h1], h2⟩
theorem open_stp (hv : Value.okWide Tryz.prog W r b0 49 v) (h : DataW.Trod enc Tryz.prog W base sp held 49 v d p) :
    ∃ x y z : Int, v = .agg #[.int .i64 x, .int .i64 y, .int .i64 z] ∧ (Lit.int .i64 x).wf = true ∧ (Lit.int .i64 y).wf = true ∧ (Lit.int .i64 z).wf = true := by
  obtain ⟨cs, rfl, hsz⟩ := okWide_struct Tryz.underlying49 hv
  obtain ⟨fuel, hf0⟩ := h
  have hf : DataW.trod enc Tryz.prog W base sp held fuel 49 cs.toList = some (d, p) := hf0
  have hl := rd_len Tryz.underlying49 cellsStp hf
  obtain ⟨_, _, g0⟩ := rd_field Tryz.underlying49 hf 0 3 0 1 rfl cellsI
  obtain ⟨_, _, g1⟩ := rd_field Tryz.underlying49 hf 1 3 1 1 rfl cellsI
  obtain ⟨_, _, g2⟩ := rd_field Tryz.underlying49 hf 2 3 2 1 rfl cellsI
  obtain ⟨x0, e0, h0⟩ := rd_int g0
  obtain ⟨x1, e1, h1⟩ := rd_int g1
  obtain ⟨x2, e2, h2⟩ := rd_int g2
  refine ⟨x0, x1, x2, ?_, wf_of h0.1 h0.2, wf_of h1.1 h1.2, wf_of h2.1 h2.2⟩
  congr 1
  apply Array.ext'
  generalize cs.toList = ls at *
  match ls, hl with
  | [a, b, c], _ =>
    simp at e0 e1 e2
    rw [e0, e1, e2]
end
end Go.Proofs.YtocoohpekpkmkaaGreat

/- The document's example of boards: numbers. -/
namespace Go.Proofs.YtocoohpekpkmkaaGreat
set_option linter.unusedVariables false
set_option linter.unusedSimpArgs false
set_option maxRecDepth 100000
open Go.RowKit
open Reg (La Vl)
def exBA : Bd := ⟨[0, 1, 0, 0, 0, 0, 0, 0, 0, 0, 0, 0, 0, 0, 0, 0], [(0, 0, 0), (0, 0, 0), (1, 1, 5), (0, 0, 0), (0, 0, 0), (0, 0, 0), (0, 0, 0), (0, 0, 0)], [0, 0, 0, 0, 0, 0, 0, 0], []⟩
def exBB : Bd := ⟨[0, 1, 0, 1, 0, 0, 0, 0, 0, 0, 0, 0, 0, 0, 0, 0], [(0, 0, 0), (0, 0, 0), (2, 3, 6), (0, 0, 0), (0, 0, 0), (0, 0, 0), (0, 0, 0), (0, 0, 0)], [0, 0, 0, 0, 0, 0, 0, 0], []⟩
theorem exA_wrote : Bo.wrote Bo.zero 1 2 5 = (exBA, 0) := Prod.ext ((sameB_iff _ _).1 (by decide +kernel)) (by decide +kernel)
theorem exB_wrote : Bo.wrote exBA 3 2 6 = (exBB, 0) := Prod.ext ((sameB_iff _ _).1 (by decide +kernel)) (by decide +kernel)
theorem exB_right : Bo.rightB exBB = true := by decide +kernel
theorem exB_put : putBo exBB = (Frame.frm (bodyL exBB), 0) := by unfold putBo; rw [if_pos exB_right]
def okIs (r : Except Nat Bd) (b : Bd) : Bool := match r with
  | .ok x => sameB x b
  | .error _ => false
theorem okIs_eq {r : Except Nat Bd} {b : Bd} (h : okIs r b = true) : r = .ok b := by
  cases r with
  | error y => cases h
  | ok x => rw [(sameB_iff x b).1 h]
theorem exB_getX : Bo.getX (bodyL exBB) = .ok exBB := okIs_eq (by decide +kernel)
theorem exB_len : (bodyL exBB).length ≤ 4096 := by decide +kernel
theorem exB_get : getBo (Frame.frm (bodyL exBB)) = (exBB, 0) := by
  have hd := Frame.dec_frm exB_len []
  rw [List.append_nil] at hd
  exact getBo_ok (by rw [getE_x hd, exB_getX])
end Go.Proofs.YtocoohpekpkmkaaGreat

/- The walk of the law's alive. -/
namespace Go.Proofs.YtocoohpekpkmkaaGreat
set_option linter.unusedVariables false
set_option linter.unusedSimpArgs false
set_option maxRecDepth 100000
open Go.RowKit
open Reg (La Vl)
theorem exBs : Bo.Shaped exBB := ⟨rfl, rfl, rfl⟩
theorem exAs : Bo.Shaped exBA := ⟨rfl, rfl, rfl⟩
theorem exB_val : Tally.valueL exBB.t = 2 := by decide +kernel
theorem exB_same : sameB exBB exBB = true := (sameB_iff _ _).2 rfl
theorem exBw : WfB exBB := ⟨by unfold Wf; decide +kernel, by unfold WfP; decide +kernel, by unfold Wf; decide +kernel⟩
set_option maxHeartbeats 4000000 in
theorem balive_any (w : World) : Calls Tryz.prog 6 #[] w (GiveBo w true) := by
  have HBD := Lib.hid fun (w : World) => (show (Instr.build 41 #[]).run Tryz.prog w = .ok (.agg (bc Bo.zero (.slice none 0 0))) w by kernel_rfl)
  obtain ⟨zz, hzz⟩ : ∃ zz, zz = Bo.zero := ⟨_, rfl⟩
  have hw1 := fun w => bwrote_any Bo.zero Bo.zero_shaped 1 2 5 (.agg (bc Bo.zero (.slice none 0 0))) w ⟨none, 0, 0, rfl, RdV.nil _ _ _, by omega⟩
  rw [exA_wrote] at hw1
  have HW1 := Lib.hid hw1
  clear hw1 hzz
  go_enter Tryz.func6, Tryz.ntmps6
  go_wp2_with ((refine wpList_bdV (v := .agg (bc Bo.zero (.slice none 0 0))) (w' := _) rfl 41 #[] rfl ?_ ?_); (simp only [List.map_toArray, List.map_nil]; exact HBD.out _))
  refine (HW1.out w).mono ?_
  rintro e w1 ⟨_, rfl, hA, gb⟩
  obtain ⟨A1, m1, c1, rfl, oA, hmA⟩ := hA
  have FA : FoBo 84 exBA (.agg (bc exBA (.slice A1 m1 c1))) w1 := ⟨A1, m1, c1, rfl, oA, hmA⟩
  have NA := Lib.hid (bc_size (s := .slice A1 m1 c1) exAs)
  have OA := Lib.hid (bc_one (b := exBA) (s := .slice A1 m1 c1) rfl)
  generalize hcA : bc exBA (.slice A1 m1 c1) = cA at *
  go_upto_region 2 with ((with_reducible refine wpList_st rowBo (Blk.new _ _ _) NA.out ?_ OA.out ?_ ?_ ?_); (rfl); rotate_left; (rfl); (rfl); intro w2 kA g2 z2)
  have bq : Below w1.heap.size w1 w2 := new_below g2
  have FA := FA.below bq
  have gb := gb.trans (bq.mono gb.size)
  clear g2 z2 bq oA
  have hw2 := bwrote_any exBA exAs 3 2 6 (.agg cA) w2 FA.fresh
  rw [exB_wrote] at hw2
  have HW2 := Lib.hid hw2
  clear hw2
  go_wp2_with ((with_reducible refine wpList_ld rowBo kA NA.out ?_ ?_); rotate_left; (rfl))
  refine HW2.out.mono ?_
  rintro e w3 ⟨_, rfl, hB, b3⟩
  have gb := gb.trans (b3.mono gb.size)
  obtain ⟨B1, n1, d1, rfl, oB, hmB⟩ := hB
  have FB : FoBo 84 exBB (.agg (bc exBB (.slice B1 n1 d1))) w3 := ⟨B1, n1, d1, rfl, oB, hmB⟩
  have N49 := Lib.hid (bc_size (s := .slice B1 n1 d1) exBs)
  have OB := Lib.hid (bc_one (b := exBB) (s := .slice B1 n1 d1) rfl)
  obtain ⟨cB, hcB⟩ : ∃ cB, cB = bc exBB (.slice B1 n1 d1) := ⟨_, rfl⟩
  rw [← hcB] at FB N49 OB ⊢
  have HCB := Lib.hid hcB
  clear kA b3 HW2 HW1 oB hcB FA
  go_upto_region 3 with ((with_reducible refine wpList_st rowBo (Blk.new _ _ _) N49.out ?_ OB.out ?_ ?_ ?_); (rfl); rotate_left; (rfl); (rfl); intro w4 kB g4 z4)
  obtain ⟨gB, hgB⟩ : ∃ gB, gB = w3.heap.size := ⟨_, rfl⟩
  rw [← hgB] at kB ⊢
  have bq : Below w3.heap.size w3 w4 := new_below g4
  have FB := FB.below bq
  have gb := gb.trans (bq.mono gb.size)
  clear g4 z4 bq hgB
  have hp := bput_any exBB exBs (.agg cB) w4 FB.fresh
  rw [exB_put] at hp
  have HP := Lib.hid hp
  clear hp
  go_wp2_with ((with_reducible refine wpList_ld rowBo kB N49.out ?_ ?_); rotate_left; (rfl))
  refine HP.out.mono ?_
  rintro e w5 ⟨AX, nX, cX, rfl, oX, b5⟩
  have kB := kB.below b5 kB.lt
  have FB := FB.below b5
  have gb := gb.trans (b5.mono gb.size)
  have hnx : nX ≤ 1000000 := by
    rw [oX.1]
    show (Frame.frm (bodyL exBB)).length ≤ 1000000
    rw [Frame.frm_length]
    have h1 := exB_len
    have h2 := Vint.enc_length (bodyL exBB).length
    omega
  have hcap := ownsRow_le oX.2
  clear b5 HP
  have hg := bget_any AX nX cX (Frame.frm (bodyL exBB)) w5 oX.rd hnx hcap.1 hcap.2
  rw [exB_get] at hg
  have HGT := Lib.hid hg
  clear hg hnx hcap oX
  generalize (Frame.frm (bodyL exBB)) = xsx at *
  go_wp2_with fail
  refine HGT.out.mono ?_
  rintro e w6 ⟨_, rfl, hC, b6⟩
  have kB := kB.below b6 kB.lt
  have FB := FB.below b6
  have gb := gb.trans (b6.mono gb.size)
  obtain ⟨C1, n2, d2, rfl, oC, hmC⟩ := hC
  have FC : FoBo 84 exBB (.agg (bc exBB (.slice C1 n2 d2))) w6 := ⟨C1, n2, d2, rfl, oC, hmC⟩
  have C49 := Lib.hid (bc_size (s := .slice C1 n2 d2) exBs)
  have OC := Lib.hid (bc_one (b := exBB) (s := .slice C1 n2 d2) rfl)
  obtain ⟨cC, hcC⟩ : ∃ cC, cC = bc exBB (.slice C1 n2 d2) := ⟨_, rfl⟩
  rw [← hcC] at FC C49 OC ⊢
  clear b6 HGT oC hcC
  go_upto_region 5 with ((with_reducible refine wpList_st rowBo (Blk.new _ _ _) C49.out ?_ OC.out ?_ ?_ ?_); (rfl); rotate_left; (rfl); (rfl); intro w9 kC g9 z9)
  obtain ⟨gC, hgC⟩ : ∃ gC, gC = w6.heap.size := ⟨_, rfl⟩
  rw [← hgC] at kC ⊢
  have bq : Below w6.heap.size w6 w9 := new_below g9
  have kB := kB.below bq kB.lt
  have FB := FB.below bq
  have FC := FC.below bq
  have gb := gb.trans (bq.mono gb.size)
  clear g9 z9 bq hgC
  have kB2 : Blk w9 gB 41 (bc exBB (.slice B1 n1 d1)) := by rw [← HCB.out]; exact kB
  have hQ := FB.fresh
  have hQC := FC.fresh
  refine wp_region_tail 34 (fun L v w => v 3 = .pointer (some ⟨gB, 0, none⟩) ∧ v 7 = .pointer (some ⟨gC, 0, none⟩) ∧ v 2 = .int .i64 0 ∧ v 4 = .int .i64 0 ∧ v 6 = .int .i64 0 ∧ v 8 = .int .i64 0 ∧ Below w9.heap.size w9 w ∧ (L 0 = true → v 29 = .int .i64 0) ∧ (L 1 = true → v 30 = .bool true) ∧ (L 2 = true → v 31 = .bool true) ∧ (L 3 = true → v 32 = .int .i64 0) ∧ (L 4 = true → v 33 = .bool true) ∧ (L 5 = true → v 34 = .bool true) ∧ (L 6 = true → v 35 = .bool true) ∧ (L 7 = true → v 36 = .pointer (some ⟨gB, 0, none⟩)) ∧ (L 8 = true → v 37 = .agg (tc exBB.t)) ∧ (L 9 = true → v 38 = .int .i64 2) ∧ (L 10 = true → v 39 = .bool true) ∧ (L 11 = true → v 40 = .bool true) ∧ (L 12 = true → v 41 = .bool true) ∧ (L 13 = true → v 42 = .pointer (some ⟨gB, 16, none⟩)) ∧ (L 14 = true → v 43 = .pointer (some ⟨gB, 22, none⟩)) ∧ (L 15 = true → v 44 = .agg #[.int .i64 2, .int .i64 3, .int .i64 6]) ∧ (L 16 = true → v 45 = .agg #[.int .i64 2, .int .i64 3, .int .i64 6]) ∧ (L 17 = true → v 46 = .bool true) ∧ (L 18 = true → v 47 = .bool true) ∧ (L 19 = true → v 48 = .bool true) ∧ (L 20 = true → v 49 = .int .i64 0) ∧ (L 21 = true → v 50 = .bool true) ∧ (L 22 = true → v 51 = .bool true) ∧ (L 23 = true → v 52 = .bool true) ∧ (L 24 = true → v 53 = .int .i64 0) ∧ (L 25 = true → v 54 = .bool true) ∧ (L 26 = true → v 55 = .bool true) ∧ (L 27 = true → v 56 = .bool true) ∧ (L 28 = true → v 57 = .agg cB) ∧ (L 29 = true → FoBo 121 exBB (v 58) w) ∧ (L 30 = true → v 59 = .agg cC) ∧ (L 31 = true → FoBo 121 exBB (v 60) w) ∧ (L 32 = true → v 61 = .bool true) ∧ (L 33 = true → v 62 = .bool true)) [29, 30, 31, 32, 33, 34, 35, 36, 37, 38, 39, 40, 41, 42, 43, 44, 45, 46, 47, 48, 49, 50, 51, 52, 53, 54, 55, 56, 57, 58, 59, 60, 61, 62] (by kernel_rfl) (by kernel_rfl) (by kernel_rfl) (by kernel_rfl) (by kernel_rfl) (by kernel_rfl) ?h0 ?hst ?hend
  case h0 =>
    intro L h0
    have h0 : ∀ i, i < 34 → L i = false := h0
    exact ⟨rfl, rfl, rfl, rfl, rfl, rfl, (Below.refl _ _).drew, offF h0 (i := 0) (by decide), offF h0 (i := 1) (by decide), offF h0 (i := 2) (by decide), offF h0 (i := 3) (by decide), offF h0 (i := 4) (by decide), offF h0 (i := 5) (by decide), offF h0 (i := 6) (by decide), offF h0 (i := 7) (by decide), offF h0 (i := 8) (by decide), offF h0 (i := 9) (by decide), offF h0 (i := 10) (by decide), offF h0 (i := 11) (by decide), offF h0 (i := 12) (by decide), offF h0 (i := 13) (by decide), offF h0 (i := 14) (by decide), offF h0 (i := 15) (by decide), offF h0 (i := 16) (by decide), offF h0 (i := 17) (by decide), offF h0 (i := 18) (by decide), offF h0 (i := 19) (by decide), offF h0 (i := 20) (by decide), offF h0 (i := 21) (by decide), offF h0 (i := 22) (by decide), offF h0 (i := 23) (by decide), offF h0 (i := 24) (by decide), offF h0 (i := 25) (by decide), offF h0 (i := 26) (by decide), offF h0 (i := 27) (by decide), offF h0 (i := 28) (by decide), offF h0 (i := 29) (by decide), offF h0 (i := 30) (by decide), offF h0 (i := 31) (by decide), offF h0 (i := 32) (by decide), offF h0 (i := 33) (by decide)⟩
  case hst =>
    show FactSteps _ _ _ _ [0, 1, 2, 3, 4, 5, 6, 7, 8, 9, 10, 11, 12, 13, 14, 15, 16, 17, 18, 19, 20, 21, 22, 23, 24, 25, 26, 27, 28, 29, 30, 31, 32, 33]
    refine @FactSteps.cons _ _ _ _ 0 _ [] _ rfl (by kernel_rfl) ?s0 ?_
    rotate_left
    refine @FactSteps.cons _ _ _ _ 1 _ [0] _ rfl (by kernel_rfl) ?s1 ?_
    rotate_left
    refine @FactSteps.cons _ _ _ _ 2 _ [1] _ rfl (by kernel_rfl) ?s2 ?_
    rotate_left
    refine @FactSteps.cons _ _ _ _ 3 _ [2] _ rfl (by kernel_rfl) ?s3 ?_
    rotate_left
    refine @FactSteps.cons _ _ _ _ 4 _ [3, 2] _ rfl (by kernel_rfl) ?s4 ?_
    rotate_left
    refine @FactSteps.cons _ _ _ _ 5 _ [2, 4] _ rfl (by kernel_rfl) ?s5 ?_
    rotate_left
    refine @FactSteps.cons _ _ _ _ 6 _ [5, 2] _ rfl (by kernel_rfl) ?s6 ?_
    rotate_left
    refine @FactSteps.cons _ _ _ _ 7 _ [6] _ rfl (by kernel_rfl) ?s7 ?_
    rotate_left
    refine @FactSteps.cons _ _ _ _ 8 _ [7, 6] _ rfl (by kernel_rfl) ?s8 ?_
    rotate_left
    refine @FactSteps.cons _ _ _ _ 9 _ [8, 6, 6] _ rfl (by kernel_rfl) ?s9 ?_
    rotate_left
    refine @FactSteps.cons _ _ _ _ 10 _ [9, 6] _ rfl (by kernel_rfl) ?s10 ?_
    rotate_left
    refine @FactSteps.cons _ _ _ _ 11 _ [6, 10] _ rfl (by kernel_rfl) ?s11 ?_
    rotate_left
    refine @FactSteps.cons _ _ _ _ 12 _ [11, 9] _ rfl (by kernel_rfl) ?s12 ?_
    rotate_left
    refine @FactSteps.cons _ _ _ _ 13 _ [12] _ rfl (by kernel_rfl) ?s13 ?_
    rotate_left
    refine @FactSteps.cons _ _ _ _ 14 _ [13, 12] _ rfl (by kernel_rfl) ?s14 ?_
    rotate_left
    refine @FactSteps.cons _ _ _ _ 15 _ [14, 12] _ rfl (by kernel_rfl) ?s15 ?_
    rotate_left
    refine @FactSteps.cons _ _ _ _ 16 _ [12] _ rfl (by kernel_rfl) ?s16 ?_
    rotate_left
    refine @FactSteps.cons _ _ _ _ 17 _ [15, 16, 12] _ rfl (by kernel_rfl) ?s17 ?_
    rotate_left
    refine @FactSteps.cons _ _ _ _ 18 _ [12, 17] _ rfl (by kernel_rfl) ?s18 ?_
    rotate_left
    refine @FactSteps.cons _ _ _ _ 19 _ [18, 12] _ rfl (by kernel_rfl) ?s19 ?_
    rotate_left
    refine @FactSteps.cons _ _ _ _ 20 _ [19] _ rfl (by kernel_rfl) ?s20 ?_
    rotate_left
    refine @FactSteps.cons _ _ _ _ 21 _ [20, 19] _ rfl (by kernel_rfl) ?s21 ?_
    rotate_left
    refine @FactSteps.cons _ _ _ _ 22 _ [19, 21] _ rfl (by kernel_rfl) ?s22 ?_
    rotate_left
    refine @FactSteps.cons _ _ _ _ 23 _ [22, 19] _ rfl (by kernel_rfl) ?s23 ?_
    rotate_left
    refine @FactSteps.cons _ _ _ _ 24 _ [23] _ rfl (by kernel_rfl) ?s24 ?_
    rotate_left
    refine @FactSteps.cons _ _ _ _ 25 _ [24, 23] _ rfl (by kernel_rfl) ?s25 ?_
    rotate_left
    refine @FactSteps.cons _ _ _ _ 26 _ [23, 25] _ rfl (by kernel_rfl) ?s26 ?_
    rotate_left
    refine @FactSteps.cons _ _ _ _ 27 _ [26, 23] _ rfl (by kernel_rfl) ?s27 ?_
    rotate_left
    refine @FactSteps.cons _ _ _ _ 28 _ [27] _ rfl (by kernel_rfl) ?s28 ?_
    rotate_left
    refine @FactSteps.cons _ _ _ _ 29 _ [28, 27, 27] _ rfl (by kernel_rfl) ?s29 ?_
    rotate_left
    refine @FactSteps.cons _ _ _ _ 30 _ [27] _ rfl (by kernel_rfl) ?s30 ?_
    rotate_left
    refine @FactSteps.cons _ _ _ _ 31 _ [30, 29, 27] _ rfl (by kernel_rfl) ?s31 ?_
    rotate_left
    refine @FactSteps.cons _ _ _ _ 32 _ [29, 31, 31, 27] _ rfl (by kernel_rfl) ?s32 ?_
    rotate_left
    refine @FactSteps.cons _ _ _ _ 33 _ [27, 32] _ rfl (by kernel_rfl) ?s33 ?_
    rotate_left
    exact FactSteps.nil
    case s0 =>
      rintro L a v w hv hg hL hd hcl ⟨e3, e7, e2, e4, e6, e8, hb, f0, f1, f2, f3, f4, f5, f6, f7, f8, f9, f10, f11, f12, f13, f14, f15, f16, f17, f18, f19, f20, f21, f22, f23, f24, f25, f26, f27, f28, f29, f30, f31, f32, f33⟩ K hK
      refine step_do rfl ?_
      clear hv
      go_simp
      exact hK.out _ _ ⟨e3, e7, e2, e4, e6, e8, hb, fun _ => rfl, f1, f2, f3, f4, f5, f6, f7, f8, f9, f10, f11, f12, f13, f14, f15, f16, f17, f18, f19, f20, f21, f22, f23, f24, f25, f26, f27, f28, f29, f30, f31, f32, f33⟩
    case s1 =>
      rintro L a v w hv hg hL hd hcl ⟨e3, e7, e2, e4, e6, e8, hb, f0, f1, f2, f3, f4, f5, f6, f7, f8, f9, f10, f11, f12, f13, f14, f15, f16, f17, f18, f19, f20, f21, f22, f23, f24, f25, f26, f27, f28, f29, f30, f31, f32, f33⟩ K hK
      have g0 := f0 (hd 0 (by decide))
      refine step_do rfl ?_
      clear hv
      go_simp
      exact hK.out _ _ ⟨e3, e7, e2, e4, e6, e8, hb, f0, fun _ => rfl, f2, f3, f4, f5, f6, f7, f8, f9, f10, f11, f12, f13, f14, f15, f16, f17, f18, f19, f20, f21, f22, f23, f24, f25, f26, f27, f28, f29, f30, f31, f32, f33⟩
    case s2 =>
      rintro L a v w hv hg hL hd hcl ⟨e3, e7, e2, e4, e6, e8, hb, f0, f1, f2, f3, f4, f5, f6, f7, f8, f9, f10, f11, f12, f13, f14, f15, f16, f17, f18, f19, f20, f21, f22, f23, f24, f25, f26, f27, f28, f29, f30, f31, f32, f33⟩ K hK
      have g1 := f1 (hd 1 (by decide))
      refine step_do rfl ?_
      clear hv
      go_simp
      exact hK.out _ _ ⟨e3, e7, e2, e4, e6, e8, hb, f0, f1, fun _ => rfl, f3, f4, f5, f6, f7, f8, f9, f10, f11, f12, f13, f14, f15, f16, f17, f18, f19, f20, f21, f22, f23, f24, f25, f26, f27, f28, f29, f30, f31, f32, f33⟩
    case s3 =>
      rintro L a v w hv hg hL hd hcl ⟨e3, e7, e2, e4, e6, e8, hb, f0, f1, f2, f3, f4, f5, f6, f7, f8, f9, f10, f11, f12, f13, f14, f15, f16, f17, f18, f19, f20, f21, f22, f23, f24, f25, f26, f27, f28, f29, f30, f31, f32, f33⟩ K hK
      have g2 := f2 (hd 2 (by decide))
      refine step_want (j := 2) (s := 31) (b := true) rfl rfl ((hv 31).trans (f2 (hd 2 (by decide)))) ?_
      clear hv
      go_simp
      exact hK.out _ _ ⟨e3, e7, e2, e4, e6, e8, hb, f0, f1, f2, fun _ => rfl, f4, f5, f6, f7, f8, f9, f10, f11, f12, f13, f14, f15, f16, f17, f18, f19, f20, f21, f22, f23, f24, f25, f26, f27, f28, f29, f30, f31, f32, f33⟩
    case s4 =>
      rintro L a v w hv hg hL hd hcl ⟨e3, e7, e2, e4, e6, e8, hb, f0, f1, f2, f3, f4, f5, f6, f7, f8, f9, f10, f11, f12, f13, f14, f15, f16, f17, f18, f19, f20, f21, f22, f23, f24, f25, f26, f27, f28, f29, f30, f31, f32, f33⟩ K hK
      have g2 := f2 (hd 2 (by decide))
      have g3 := f3 (hd 3 (by decide))
      refine step_want (j := 2) (s := 31) (b := true) rfl rfl ((hv 31).trans (f2 (hd 2 (by decide)))) ?_
      clear hv
      go_simp
      exact hK.out _ _ ⟨e3, e7, e2, e4, e6, e8, hb, f0, f1, f2, f3, fun _ => rfl, f5, f6, f7, f8, f9, f10, f11, f12, f13, f14, f15, f16, f17, f18, f19, f20, f21, f22, f23, f24, f25, f26, f27, f28, f29, f30, f31, f32, f33⟩
    case s5 =>
      rintro L a v w hv hg hL hd hcl ⟨e3, e7, e2, e4, e6, e8, hb, f0, f1, f2, f3, f4, f5, f6, f7, f8, f9, f10, f11, f12, f13, f14, f15, f16, f17, f18, f19, f20, f21, f22, f23, f24, f25, f26, f27, f28, f29, f30, f31, f32, f33⟩ K hK
      have g2 := f2 (hd 2 (by decide))
      have g4 := f4 (hd 4 (by decide))
      refine step_do rfl ?_
      clear hv
      go_simp
      exact hK.out _ _ ⟨e3, e7, e2, e4, e6, e8, hb, f0, f1, f2, f3, f4, fun _ => rfl, f6, f7, f8, f9, f10, f11, f12, f13, f14, f15, f16, f17, f18, f19, f20, f21, f22, f23, f24, f25, f26, f27, f28, f29, f30, f31, f32, f33⟩
    case s6 =>
      rintro L a v w hv hg hL hd hcl ⟨e3, e7, e2, e4, e6, e8, hb, f0, f1, f2, f3, f4, f5, f6, f7, f8, f9, f10, f11, f12, f13, f14, f15, f16, f17, f18, f19, f20, f21, f22, f23, f24, f25, f26, f27, f28, f29, f30, f31, f32, f33⟩ K hK
      have g2 := f2 (hd 2 (by decide))
      have g5 := f5 (hd 5 (by decide))
      refine step_do rfl ?_
      clear hv
      go_simp
      exact hK.out _ _ ⟨e3, e7, e2, e4, e6, e8, hb, f0, f1, f2, f3, f4, f5, fun _ => rfl, f7, f8, f9, f10, f11, f12, f13, f14, f15, f16, f17, f18, f19, f20, f21, f22, f23, f24, f25, f26, f27, f28, f29, f30, f31, f32, f33⟩
    case s7 =>
      rintro L a v w hv hg hL hd hcl ⟨e3, e7, e2, e4, e6, e8, hb, f0, f1, f2, f3, f4, f5, f6, f7, f8, f9, f10, f11, f12, f13, f14, f15, f16, f17, f18, f19, f20, f21, f22, f23, f24, f25, f26, f27, f28, f29, f30, f31, f32, f33⟩ K hK
      have g6 := f6 (hd 6 (by decide))
      refine step_want (j := 6) (s := 35) (b := true) rfl rfl ((hv 35).trans (f6 (hd 6 (by decide)))) ?_
      clear hv
      go_simp
      exact hK.out _ _ ⟨e3, e7, e2, e4, e6, e8, hb, f0, f1, f2, f3, f4, f5, f6, fun _ => rfl, f8, f9, f10, f11, f12, f13, f14, f15, f16, f17, f18, f19, f20, f21, f22, f23, f24, f25, f26, f27, f28, f29, f30, f31, f32, f33⟩
    case s8 =>
      rintro L a v w hv hg hL hd hcl ⟨e3, e7, e2, e4, e6, e8, hb, f0, f1, f2, f3, f4, f5, f6, f7, f8, f9, f10, f11, f12, f13, f14, f15, f16, f17, f18, f19, f20, f21, f22, f23, f24, f25, f26, f27, f28, f29, f30, f31, f32, f33⟩ K hK
      have g6 := f6 (hd 6 (by decide))
      have g7 := f7 (hd 7 (by decide))
      refine step_want (j := 6) (s := 35) (b := true) rfl rfl ((hv 35).trans (f6 (hd 6 (by decide)))) ?_
      refine wp_ldr rowT (.tmp 36) rfl ((hv 36).trans g7) ((kB2.below hb kB2.lt).tal exBs) rfl ?_
      exact hK.out _ _ ⟨e3, e7, e2, e4, e6, e8, hb, f0, f1, f2, f3, f4, f5, f6, f7, fun _ => rfl, f9, f10, f11, f12, f13, f14, f15, f16, f17, f18, f19, f20, f21, f22, f23, f24, f25, f26, f27, f28, f29, f30, f31, f32, f33⟩
    case s9 =>
      rintro L a v w hv hg hL hd hcl ⟨e3, e7, e2, e4, e6, e8, hb, f0, f1, f2, f3, f4, f5, f6, f7, f8, f9, f10, f11, f12, f13, f14, f15, f16, f17, f18, f19, f20, f21, f22, f23, f24, f25, f26, f27, f28, f29, f30, f31, f32, f33⟩ K hK
      have h8 := f8 (hd 8 (by decide))
      refine step_want (j := 6) (s := 35) (b := true) rfl rfl ((hv 35).trans (f6 (hd 6 (by decide)))) ?_
      clear hv
      go_simp
      refine (value_any exBB.t w rfl).mono ?_
      rintro e wy ⟨rfl, bb⟩
      rw [exB_val]
      exact hK.out _ _ ⟨e3, e7, e2, e4, e6, e8, (hb.trans (bb.mono hb.size)), f0, f1, f2, f3, f4, f5, f6, f7, f8, fun _ => rfl, f10, f11, f12, f13, f14, f15, f16, f17, f18, f19, f20, f21, f22, f23, f24, f25, f26, f27, f28, (fun h => (f29 h).below bb), f30, (fun h => (f31 h).below bb), f32, f33⟩
    case s10 =>
      rintro L a v w hv hg hL hd hcl ⟨e3, e7, e2, e4, e6, e8, hb, f0, f1, f2, f3, f4, f5, f6, f7, f8, f9, f10, f11, f12, f13, f14, f15, f16, f17, f18, f19, f20, f21, f22, f23, f24, f25, f26, f27, f28, f29, f30, f31, f32, f33⟩ K hK
      have g6 := f6 (hd 6 (by decide))
      refine step_want (j := 6) (s := 35) (b := true) rfl rfl ((hv 35).trans (f6 (hd 6 (by decide)))) ?_
      clear hv
      go_simp
      exact hK.out _ _ ⟨e3, e7, e2, e4, e6, e8, hb, f0, f1, f2, f3, f4, f5, f6, f7, f8, f9, fun _ => rfl, f11, f12, f13, f14, f15, f16, f17, f18, f19, f20, f21, f22, f23, f24, f25, f26, f27, f28, f29, f30, f31, f32, f33⟩
    case s11 =>
      rintro L a v w hv hg hL hd hcl ⟨e3, e7, e2, e4, e6, e8, hb, f0, f1, f2, f3, f4, f5, f6, f7, f8, f9, f10, f11, f12, f13, f14, f15, f16, f17, f18, f19, f20, f21, f22, f23, f24, f25, f26, f27, f28, f29, f30, f31, f32, f33⟩ K hK
      have g6 := f6 (hd 6 (by decide))
      have g10 := f10 (hd 10 (by decide))
      refine step_do rfl ?_
      clear hv
      go_simp
      exact hK.out _ _ ⟨e3, e7, e2, e4, e6, e8, hb, f0, f1, f2, f3, f4, f5, f6, f7, f8, f9, f10, fun _ => rfl, f12, f13, f14, f15, f16, f17, f18, f19, f20, f21, f22, f23, f24, f25, f26, f27, f28, f29, f30, f31, f32, f33⟩
    case s12 =>
      rintro L a v w hv hg hL hd hcl ⟨e3, e7, e2, e4, e6, e8, hb, f0, f1, f2, f3, f4, f5, f6, f7, f8, f9, f10, f11, f12, f13, f14, f15, f16, f17, f18, f19, f20, f21, f22, f23, f24, f25, f26, f27, f28, f29, f30, f31, f32, f33⟩ K hK
      have g11 := f11 (hd 11 (by decide))
      refine step_do rfl ?_
      clear hv
      go_simp
      exact hK.out _ _ ⟨e3, e7, e2, e4, e6, e8, hb, f0, f1, f2, f3, f4, f5, f6, f7, f8, f9, f10, f11, fun _ => rfl, f13, f14, f15, f16, f17, f18, f19, f20, f21, f22, f23, f24, f25, f26, f27, f28, f29, f30, f31, f32, f33⟩
    case s13 =>
      rintro L a v w hv hg hL hd hcl ⟨e3, e7, e2, e4, e6, e8, hb, f0, f1, f2, f3, f4, f5, f6, f7, f8, f9, f10, f11, f12, f13, f14, f15, f16, f17, f18, f19, f20, f21, f22, f23, f24, f25, f26, f27, f28, f29, f30, f31, f32, f33⟩ K hK
      have g12 := f12 (hd 12 (by decide))
      refine step_want (j := 12) (s := 41) (b := true) rfl rfl ((hv 41).trans (f12 (hd 12 (by decide)))) ?_
      clear hv
      go_simp
      exact hK.out _ _ ⟨e3, e7, e2, e4, e6, e8, hb, f0, f1, f2, f3, f4, f5, f6, f7, f8, f9, f10, f11, f12, fun _ => rfl, f14, f15, f16, f17, f18, f19, f20, f21, f22, f23, f24, f25, f26, f27, f28, f29, f30, f31, f32, f33⟩
    case s14 =>
      rintro L a v w hv hg hL hd hcl ⟨e3, e7, e2, e4, e6, e8, hb, f0, f1, f2, f3, f4, f5, f6, f7, f8, f9, f10, f11, f12, f13, f14, f15, f16, f17, f18, f19, f20, f21, f22, f23, f24, f25, f26, f27, f28, f29, f30, f31, f32, f33⟩ K hK
      have g12 := f12 (hd 12 (by decide))
      have g13 := f13 (hd 13 (by decide))
      refine step_want (j := 12) (s := 41) (b := true) rfl rfl ((hv 41).trans (f12 (hd 12 (by decide)))) ?_
      clear hv
      go_simp
      exact hK.out _ _ ⟨e3, e7, e2, e4, e6, e8, hb, f0, f1, f2, f3, f4, f5, f6, f7, f8, f9, f10, f11, f12, f13, fun _ => rfl, f15, f16, f17, f18, f19, f20, f21, f22, f23, f24, f25, f26, f27, f28, f29, f30, f31, f32, f33⟩
    case s15 =>
      rintro L a v w hv hg hL hd hcl ⟨e3, e7, e2, e4, e6, e8, hb, f0, f1, f2, f3, f4, f5, f6, f7, f8, f9, f10, f11, f12, f13, f14, f15, f16, f17, f18, f19, f20, f21, f22, f23, f24, f25, f26, f27, f28, f29, f30, f31, f32, f33⟩ K hK
      have g12 := f12 (hd 12 (by decide))
      have g14 := f14 (hd 14 (by decide))
      refine step_want (j := 12) (s := 41) (b := true) rfl rfl ((hv 41).trans (f12 (hd 12 (by decide)))) ?_
      refine wp_ldr rowLa (.tmp 43) rfl ((hv 43).trans g14) ((kB2.below hb kB2.lt).plan exBs (i := 2) (by decide) : w.rangeAt gB 22 (#[.int .i64 2, .int .i64 3, .int .i64 6] : Array Value).toList) rfl ?_
      exact hK.out _ _ ⟨e3, e7, e2, e4, e6, e8, hb, f0, f1, f2, f3, f4, f5, f6, f7, f8, f9, f10, f11, f12, f13, f14, fun _ => rfl, f16, f17, f18, f19, f20, f21, f22, f23, f24, f25, f26, f27, f28, f29, f30, f31, f32, f33⟩
    case s16 =>
      rintro L a v w hv hg hL hd hcl ⟨e3, e7, e2, e4, e6, e8, hb, f0, f1, f2, f3, f4, f5, f6, f7, f8, f9, f10, f11, f12, f13, f14, f15, f16, f17, f18, f19, f20, f21, f22, f23, f24, f25, f26, f27, f28, f29, f30, f31, f32, f33⟩ K hK
      have g12 := f12 (hd 12 (by decide))
      refine step_want (j := 12) (s := 41) (b := true) rfl rfl ((hv 41).trans (f12 (hd 12 (by decide)))) ?_
      clear hv
      go_simp
      exact hK.out _ _ ⟨e3, e7, e2, e4, e6, e8, hb, f0, f1, f2, f3, f4, f5, f6, f7, f8, f9, f10, f11, f12, f13, f14, f15, fun _ => rfl, f17, f18, f19, f20, f21, f22, f23, f24, f25, f26, f27, f28, f29, f30, f31, f32, f33⟩
    case s17 =>
      rintro L a v w hv hg hL hd hcl ⟨e3, e7, e2, e4, e6, e8, hb, f0, f1, f2, f3, f4, f5, f6, f7, f8, f9, f10, f11, f12, f13, f14, f15, f16, f17, f18, f19, f20, f21, f22, f23, f24, f25, f26, f27, f28, f29, f30, f31, f32, f33⟩ K hK
      have g12 := f12 (hd 12 (by decide))
      have g15 := f15 (hd 15 (by decide))
      have g16 := f16 (hd 16 (by decide))
      refine step_want (j := 12) (s := 41) (b := true) rfl rfl ((hv 41).trans (f12 (hd 12 (by decide)))) ?_
      clear hv
      go_simp
      exact hK.out _ _ ⟨e3, e7, e2, e4, e6, e8, hb, f0, f1, f2, f3, f4, f5, f6, f7, f8, f9, f10, f11, f12, f13, f14, f15, f16, fun _ => rfl, f18, f19, f20, f21, f22, f23, f24, f25, f26, f27, f28, f29, f30, f31, f32, f33⟩
    case s18 =>
      rintro L a v w hv hg hL hd hcl ⟨e3, e7, e2, e4, e6, e8, hb, f0, f1, f2, f3, f4, f5, f6, f7, f8, f9, f10, f11, f12, f13, f14, f15, f16, f17, f18, f19, f20, f21, f22, f23, f24, f25, f26, f27, f28, f29, f30, f31, f32, f33⟩ K hK
      have g12 := f12 (hd 12 (by decide))
      have g17 := f17 (hd 17 (by decide))
      refine step_do rfl ?_
      clear hv
      go_simp
      exact hK.out _ _ ⟨e3, e7, e2, e4, e6, e8, hb, f0, f1, f2, f3, f4, f5, f6, f7, f8, f9, f10, f11, f12, f13, f14, f15, f16, f17, fun _ => rfl, f19, f20, f21, f22, f23, f24, f25, f26, f27, f28, f29, f30, f31, f32, f33⟩
    case s19 =>
      rintro L a v w hv hg hL hd hcl ⟨e3, e7, e2, e4, e6, e8, hb, f0, f1, f2, f3, f4, f5, f6, f7, f8, f9, f10, f11, f12, f13, f14, f15, f16, f17, f18, f19, f20, f21, f22, f23, f24, f25, f26, f27, f28, f29, f30, f31, f32, f33⟩ K hK
      have g12 := f12 (hd 12 (by decide))
      have g18 := f18 (hd 18 (by decide))
      refine step_do rfl ?_
      clear hv
      go_simp
      exact hK.out _ _ ⟨e3, e7, e2, e4, e6, e8, hb, f0, f1, f2, f3, f4, f5, f6, f7, f8, f9, f10, f11, f12, f13, f14, f15, f16, f17, f18, fun _ => rfl, f20, f21, f22, f23, f24, f25, f26, f27, f28, f29, f30, f31, f32, f33⟩
    case s20 =>
      rintro L a v w hv hg hL hd hcl ⟨e3, e7, e2, e4, e6, e8, hb, f0, f1, f2, f3, f4, f5, f6, f7, f8, f9, f10, f11, f12, f13, f14, f15, f16, f17, f18, f19, f20, f21, f22, f23, f24, f25, f26, f27, f28, f29, f30, f31, f32, f33⟩ K hK
      have g19 := f19 (hd 19 (by decide))
      refine step_want (j := 19) (s := 48) (b := true) rfl rfl ((hv 48).trans (f19 (hd 19 (by decide)))) ?_
      clear hv
      go_simp
      exact hK.out _ _ ⟨e3, e7, e2, e4, e6, e8, hb, f0, f1, f2, f3, f4, f5, f6, f7, f8, f9, f10, f11, f12, f13, f14, f15, f16, f17, f18, f19, fun _ => rfl, f21, f22, f23, f24, f25, f26, f27, f28, f29, f30, f31, f32, f33⟩
    case s21 =>
      rintro L a v w hv hg hL hd hcl ⟨e3, e7, e2, e4, e6, e8, hb, f0, f1, f2, f3, f4, f5, f6, f7, f8, f9, f10, f11, f12, f13, f14, f15, f16, f17, f18, f19, f20, f21, f22, f23, f24, f25, f26, f27, f28, f29, f30, f31, f32, f33⟩ K hK
      have g19 := f19 (hd 19 (by decide))
      have g20 := f20 (hd 20 (by decide))
      refine step_want (j := 19) (s := 48) (b := true) rfl rfl ((hv 48).trans (f19 (hd 19 (by decide)))) ?_
      clear hv
      go_simp
      exact hK.out _ _ ⟨e3, e7, e2, e4, e6, e8, hb, f0, f1, f2, f3, f4, f5, f6, f7, f8, f9, f10, f11, f12, f13, f14, f15, f16, f17, f18, f19, f20, fun _ => rfl, f22, f23, f24, f25, f26, f27, f28, f29, f30, f31, f32, f33⟩
    case s22 =>
      rintro L a v w hv hg hL hd hcl ⟨e3, e7, e2, e4, e6, e8, hb, f0, f1, f2, f3, f4, f5, f6, f7, f8, f9, f10, f11, f12, f13, f14, f15, f16, f17, f18, f19, f20, f21, f22, f23, f24, f25, f26, f27, f28, f29, f30, f31, f32, f33⟩ K hK
      have g19 := f19 (hd 19 (by decide))
      have g21 := f21 (hd 21 (by decide))
      refine step_do rfl ?_
      clear hv
      go_simp
      exact hK.out _ _ ⟨e3, e7, e2, e4, e6, e8, hb, f0, f1, f2, f3, f4, f5, f6, f7, f8, f9, f10, f11, f12, f13, f14, f15, f16, f17, f18, f19, f20, f21, fun _ => rfl, f23, f24, f25, f26, f27, f28, f29, f30, f31, f32, f33⟩
    case s23 =>
      rintro L a v w hv hg hL hd hcl ⟨e3, e7, e2, e4, e6, e8, hb, f0, f1, f2, f3, f4, f5, f6, f7, f8, f9, f10, f11, f12, f13, f14, f15, f16, f17, f18, f19, f20, f21, f22, f23, f24, f25, f26, f27, f28, f29, f30, f31, f32, f33⟩ K hK
      have g19 := f19 (hd 19 (by decide))
      have g22 := f22 (hd 22 (by decide))
      refine step_do rfl ?_
      clear hv
      go_simp
      exact hK.out _ _ ⟨e3, e7, e2, e4, e6, e8, hb, f0, f1, f2, f3, f4, f5, f6, f7, f8, f9, f10, f11, f12, f13, f14, f15, f16, f17, f18, f19, f20, f21, f22, fun _ => rfl, f24, f25, f26, f27, f28, f29, f30, f31, f32, f33⟩
    case s24 =>
      rintro L a v w hv hg hL hd hcl ⟨e3, e7, e2, e4, e6, e8, hb, f0, f1, f2, f3, f4, f5, f6, f7, f8, f9, f10, f11, f12, f13, f14, f15, f16, f17, f18, f19, f20, f21, f22, f23, f24, f25, f26, f27, f28, f29, f30, f31, f32, f33⟩ K hK
      have g23 := f23 (hd 23 (by decide))
      refine step_want (j := 23) (s := 52) (b := true) rfl rfl ((hv 52).trans (f23 (hd 23 (by decide)))) ?_
      clear hv
      go_simp
      exact hK.out _ _ ⟨e3, e7, e2, e4, e6, e8, hb, f0, f1, f2, f3, f4, f5, f6, f7, f8, f9, f10, f11, f12, f13, f14, f15, f16, f17, f18, f19, f20, f21, f22, f23, fun _ => rfl, f25, f26, f27, f28, f29, f30, f31, f32, f33⟩
    case s25 =>
      rintro L a v w hv hg hL hd hcl ⟨e3, e7, e2, e4, e6, e8, hb, f0, f1, f2, f3, f4, f5, f6, f7, f8, f9, f10, f11, f12, f13, f14, f15, f16, f17, f18, f19, f20, f21, f22, f23, f24, f25, f26, f27, f28, f29, f30, f31, f32, f33⟩ K hK
      have g23 := f23 (hd 23 (by decide))
      have g24 := f24 (hd 24 (by decide))
      refine step_want (j := 23) (s := 52) (b := true) rfl rfl ((hv 52).trans (f23 (hd 23 (by decide)))) ?_
      clear hv
      go_simp
      exact hK.out _ _ ⟨e3, e7, e2, e4, e6, e8, hb, f0, f1, f2, f3, f4, f5, f6, f7, f8, f9, f10, f11, f12, f13, f14, f15, f16, f17, f18, f19, f20, f21, f22, f23, f24, fun _ => rfl, f26, f27, f28, f29, f30, f31, f32, f33⟩
    case s26 =>
      rintro L a v w hv hg hL hd hcl ⟨e3, e7, e2, e4, e6, e8, hb, f0, f1, f2, f3, f4, f5, f6, f7, f8, f9, f10, f11, f12, f13, f14, f15, f16, f17, f18, f19, f20, f21, f22, f23, f24, f25, f26, f27, f28, f29, f30, f31, f32, f33⟩ K hK
      have g23 := f23 (hd 23 (by decide))
      have g25 := f25 (hd 25 (by decide))
      refine step_do rfl ?_
      clear hv
      go_simp
      exact hK.out _ _ ⟨e3, e7, e2, e4, e6, e8, hb, f0, f1, f2, f3, f4, f5, f6, f7, f8, f9, f10, f11, f12, f13, f14, f15, f16, f17, f18, f19, f20, f21, f22, f23, f24, f25, fun _ => rfl, f27, f28, f29, f30, f31, f32, f33⟩
    case s27 =>
      rintro L a v w hv hg hL hd hcl ⟨e3, e7, e2, e4, e6, e8, hb, f0, f1, f2, f3, f4, f5, f6, f7, f8, f9, f10, f11, f12, f13, f14, f15, f16, f17, f18, f19, f20, f21, f22, f23, f24, f25, f26, f27, f28, f29, f30, f31, f32, f33⟩ K hK
      have g23 := f23 (hd 23 (by decide))
      have g26 := f26 (hd 26 (by decide))
      refine step_do rfl ?_
      clear hv
      go_simp
      exact hK.out _ _ ⟨e3, e7, e2, e4, e6, e8, hb, f0, f1, f2, f3, f4, f5, f6, f7, f8, f9, f10, f11, f12, f13, f14, f15, f16, f17, f18, f19, f20, f21, f22, f23, f24, f25, f26, fun _ => rfl, f28, f29, f30, f31, f32, f33⟩
    case s28 =>
      rintro L a v w hv hg hL hd hcl ⟨e3, e7, e2, e4, e6, e8, hb, f0, f1, f2, f3, f4, f5, f6, f7, f8, f9, f10, f11, f12, f13, f14, f15, f16, f17, f18, f19, f20, f21, f22, f23, f24, f25, f26, f27, f28, f29, f30, f31, f32, f33⟩ K hK
      refine step_want (j := 27) (s := 56) (b := true) rfl rfl ((hv 56).trans (f27 (hd 27 (by decide)))) ?_
      refine wp_ld rowBo (.tmp 3) rfl ((hv 3).trans e3) (kB.below hb kB.lt) N49.out ?_
      exact hK.out _ _ ⟨e3, e7, e2, e4, e6, e8, hb, f0, f1, f2, f3, f4, f5, f6, f7, f8, f9, f10, f11, f12, f13, f14, f15, f16, f17, f18, f19, f20, f21, f22, f23, f24, f25, f26, f27, fun _ => rfl, f29, f30, f31, f32, f33⟩
    case s29 =>
      rintro L a v w hv hg hL hd hcl ⟨e3, e7, e2, e4, e6, e8, hb, f0, f1, f2, f3, f4, f5, f6, f7, f8, f9, f10, f11, f12, f13, f14, f15, f16, f17, f18, f19, f20, f21, f22, f23, f24, f25, f26, f27, f28, f29, f30, f31, f32, f33⟩ K hK
      have h28 := f28 (hd 28 (by decide))
      refine step_want (j := 27) (s := 56) (b := true) rfl rfl ((hv 56).trans (f27 (hd 27 (by decide)))) ?_
      clear hv
      go_simp
      refine (boFrom_any exBB exBs _ w (hQ.below hb)).mono ?_
      rintro e wy ⟨q, rfl, hq, bb⟩
      exact hK.out _ _ ⟨e3, e7, e2, e4, e6, e8, (hb.trans (bb.mono hb.size)), f0, f1, f2, f3, f4, f5, f6, f7, f8, f9, f10, f11, f12, f13, f14, f15, f16, f17, f18, f19, f20, f21, f22, f23, f24, f25, f26, f27, f28, fun _ => hq, f30, (fun h => (f31 h).below bb), f32, f33⟩
    case s30 =>
      rintro L a v w hv hg hL hd hcl ⟨e3, e7, e2, e4, e6, e8, hb, f0, f1, f2, f3, f4, f5, f6, f7, f8, f9, f10, f11, f12, f13, f14, f15, f16, f17, f18, f19, f20, f21, f22, f23, f24, f25, f26, f27, f28, f29, f30, f31, f32, f33⟩ K hK
      refine step_want (j := 27) (s := 56) (b := true) rfl rfl ((hv 56).trans (f27 (hd 27 (by decide)))) ?_
      refine wp_ld rowBo (.tmp 7) rfl ((hv 7).trans e7) (kC.below hb kC.lt) C49.out ?_
      exact hK.out _ _ ⟨e3, e7, e2, e4, e6, e8, hb, f0, f1, f2, f3, f4, f5, f6, f7, f8, f9, f10, f11, f12, f13, f14, f15, f16, f17, f18, f19, f20, f21, f22, f23, f24, f25, f26, f27, f28, f29, fun _ => rfl, f31, f32, f33⟩
    case s31 =>
      rintro L a v w hv hg hL hd hcl ⟨e3, e7, e2, e4, e6, e8, hb, f0, f1, f2, f3, f4, f5, f6, f7, f8, f9, f10, f11, f12, f13, f14, f15, f16, f17, f18, f19, f20, f21, f22, f23, f24, f25, f26, f27, f28, f29, f30, f31, f32, f33⟩ K hK
      have h30 := f30 (hd 30 (by decide))
      refine step_want (j := 27) (s := 56) (b := true) rfl rfl ((hv 56).trans (f27 (hd 27 (by decide)))) ?_
      clear hv
      go_simp
      refine (boFrom_any exBB exBs _ w (hQC.below hb)).mono ?_
      rintro e wy ⟨q, rfl, hq, bb⟩
      exact hK.out _ _ ⟨e3, e7, e2, e4, e6, e8, (hb.trans (bb.mono hb.size)), f0, f1, f2, f3, f4, f5, f6, f7, f8, f9, f10, f11, f12, f13, f14, f15, f16, f17, f18, f19, f20, f21, f22, f23, f24, f25, f26, f27, f28, (fun h => (f29 h).below bb), f30, fun _ => hq, f32, f33⟩
    case s32 =>
      rintro L a v w hv hg hL hd hcl ⟨e3, e7, e2, e4, e6, e8, hb, f0, f1, f2, f3, f4, f5, f6, f7, f8, f9, f10, f11, f12, f13, f14, f15, f16, f17, f18, f19, f20, f21, f22, f23, f24, f25, f26, f27, f28, f29, f30, f31, f32, f33⟩ K hK
      have h29 := f29 (hd 29 (by decide))
      have h31 := f31 (hd 31 (by decide))
      refine step_want (j := 27) (s := 56) (b := true) rfl rfl ((hv 56).trans (f27 (hd 27 (by decide)))) ?_
      clear hv
      go_simp
      refine (bsame_any exBB exBB exBs exBs exBw exBw _ _ w h29.fresh h31.fresh).mono ?_
      rintro e wy ⟨rfl, bb⟩
      rw [exB_same]
      exact hK.out _ _ ⟨e3, e7, e2, e4, e6, e8, (hb.trans (bb.mono hb.size)), f0, f1, f2, f3, f4, f5, f6, f7, f8, f9, f10, f11, f12, f13, f14, f15, f16, f17, f18, f19, f20, f21, f22, f23, f24, f25, f26, f27, f28, (fun h => (f29 h).below bb), f30, (fun h => (f31 h).below bb), fun _ => rfl, f33⟩
    case s33 =>
      rintro L a v w hv hg hL hd hcl ⟨e3, e7, e2, e4, e6, e8, hb, f0, f1, f2, f3, f4, f5, f6, f7, f8, f9, f10, f11, f12, f13, f14, f15, f16, f17, f18, f19, f20, f21, f22, f23, f24, f25, f26, f27, f28, f29, f30, f31, f32, f33⟩ K hK
      have g27 := f27 (hd 27 (by decide))
      refine step_do rfl ?_
      clear hv
      go_simp
      exact hK.out _ _ ⟨e3, e7, e2, e4, e6, e8, hb, f0, f1, f2, f3, f4, f5, f6, f7, f8, f9, f10, f11, f12, f13, f14, f15, f16, f17, f18, f19, f20, f21, f22, f23, f24, f25, f26, f27, f28, f29, f30, f31, f32, fun _ => rfl⟩
  case hend =>
  rintro L v wx hall ⟨e3, e7, e2, e4, e6, e8, hb, f0, f1, f2, f3, f4, f5, f6, f7, f8, f9, f10, f11, f12, f13, f14, f15, f16, f17, f18, f19, f20, f21, f22, f23, f24, f25, f26, f27, f28, f29, f30, f31, f32, f33⟩
  have hL : ∀ i, i < 34 → L i = true := hall
  have f0 := f0 (hL 0 (by decide))
  have f1 := f1 (hL 1 (by decide))
  have f2 := f2 (hL 2 (by decide))
  have f3 := f3 (hL 3 (by decide))
  have f4 := f4 (hL 4 (by decide))
  have f5 := f5 (hL 5 (by decide))
  have f6 := f6 (hL 6 (by decide))
  have f7 := f7 (hL 7 (by decide))
  have f8 := f8 (hL 8 (by decide))
  have f9 := f9 (hL 9 (by decide))
  have f10 := f10 (hL 10 (by decide))
  have f11 := f11 (hL 11 (by decide))
  have f12 := f12 (hL 12 (by decide))
  have f13 := f13 (hL 13 (by decide))
  have f14 := f14 (hL 14 (by decide))
  have f15 := f15 (hL 15 (by decide))
  have f16 := f16 (hL 16 (by decide))
  have f17 := f17 (hL 17 (by decide))
  have f18 := f18 (hL 18 (by decide))
  have f19 := f19 (hL 19 (by decide))
  have f20 := f20 (hL 20 (by decide))
  have f21 := f21 (hL 21 (by decide))
  have f22 := f22 (hL 22 (by decide))
  have f23 := f23 (hL 23 (by decide))
  have f24 := f24 (hL 24 (by decide))
  have f25 := f25 (hL 25 (by decide))
  have f26 := f26 (hL 26 (by decide))
  have f27 := f27 (hL 27 (by decide))
  have f28 := f28 (hL 28 (by decide))
  have f29 := f29 (hL 29 (by decide))
  have f30 := f30 (hL 30 (by decide))
  have f31 := f31 (hL 31 (by decide))
  have f32 := f32 (hL 32 (by decide))
  have f33 := f33 (hL 33 (by decide))
  simp only [finA, List.foldl_cons, List.foldl_nil, Act.put, List.setIfInBounds_toArray, List.set_cons_succ, List.set_cons_zero, f0, f1, f2, f3, f4, f5, f6, f7, f8, f10, f11, f12, f13, f14, f15, f16, f17, f18, f19, f20, f21, f22, f23, f24, f25, f26, f27, f28, f30, f33, f9, f32]
  have bb := hb
  have gb := gb.trans (bb.mono gb.size)
  clear e3 e7 e2 e4 e6 e8 f0 f1 f2 f3 f4 f5 f6 f7 f8 f9 f10 f11 f12 f13 f14 f15 f16 f17 f18 f19 f20 f21 f22 f23 f24 f25 f26 f27 f28 f29 f30 f31 f32 f33 hL hall hb bb
  show wpList _ _ _ [_] _ _
  go_wp2_with fail
  go_ret
  exact ⟨rfl, gb⟩
end Go.Proofs.YtocoohpekpkmkaaGreat

/- What comes of a write or a note has the right shape, and numbers of an int64. -/
namespace Go.Proofs.YtocoohpekpkmkaaGreat
set_option linter.unusedVariables false
set_option linter.unusedSimpArgs false
open Go.RowKit
open Reg (La Vl)
theorem writeL_wf (l : La) (n v : Int) : (Lit.int .i64 (Reg.writeL l n v).1.1).wf = true ∧ (Lit.int .i64 (Reg.writeL l n v).1.2.1).wf = true ∧ (Lit.int .i64 (Reg.writeL l n v).1.2.2).wf = true := by
  unfold Reg.writeL
  split
  · exact ⟨wf_of (by simp) (by simp), wf_of (by simp) (by simp), wf_of (by simp) (by simp)⟩
  · split
    · exact ⟨wf_of (by simp) (by simp), wf_of (by simp) (by simp), wf_of (by simp) (by simp)⟩
    · rename_i h1 h2
      have h1 : Reg.mayN n v = true := by simpa using h1
      have := (Reg.mayN_iff n v).1 h1
      exact ⟨wf_of (by show _ ≤ max l.1 0 + 1; omega) (by show max l.1 0 + 1 ≤ _; omega), wf_of (by show _ ≤ n; omega) (by show n ≤ _; omega), wf_of (by show _ ≤ v; omega) (by show v ≤ _; omega)⟩
theorem wrote_shaped {b : Bd} (hs : Bo.Shaped b) (x y z : Int) : Bo.Shaped (Bo.wrote b x y z).1 := by
  unfold Bo.wrote
  split
  · exact Bo.zero_shaped
  · split
    · exact Bo.zero_shaped
    · split
      · exact Bo.zero_shaped
      · exact ⟨(Tally.add_len hs.t x 1).1, by rw [List.length_set]; exact hs.p, hs.u⟩
theorem note_shaped {b : Bd} (hs : Bo.Shaped b) (x v : Int) : Bo.Shaped (Bo.note b x v).1 := by
  unfold Bo.note
  split
  · exact Bo.zero_shaped
  · split
    · exact Bo.zero_shaped
    · exact ⟨hs.t, hs.p, putM_len8 hs.u _ _ _⟩
theorem wrote_wfB {b : Bd} (hs : Bo.Shaped b) (hw : WfB b) (x y z : Int) : WfB (Bo.wrote b x y z).1 := by
  unfold Bo.wrote
  split
  · exact zero_wfB
  · split
    · exact zero_wfB
    · split
      · exact zero_wfB
      · refine ⟨right_wf (Tally.add_len hs.t x 1).2, fun q hq => ?_, hw.u⟩
        rcases List.mem_or_eq_of_mem_set hq with h | h
        · exact hw.p q h
        · rw [h]; exact writeL_wf _ _ _
theorem note_wfB {b : Bd} (hs : Bo.Shaped b) (hw : WfB b) (x v : Int) : WfB (Bo.note b x v).1 := by
  unfold Bo.note
  split
  · exact zero_wfB
  · split
    · exact zero_wfB
    · exact ⟨hw.t, hw.p, putM_wf hs.u hw.u _ _ _⟩
theorem wrote_len {b : Bd} (x y z : Int) (h : b.l.length ≤ 100000) : (Bo.wrote b x y z).1.l.length ≤ 100000 := by
  unfold Bo.wrote
  split
  · exact Nat.zero_le _
  · split
    · exact Nat.zero_le _
    · split
      · exact Nat.zero_le _
      · exact h
end Go.Proofs.YtocoohpekpkmkaaGreat

/- What two boards know together, in plain words. -/
namespace Go.Proofs.YtocoohpekpkmkaaGreat
set_option linter.unusedVariables false
set_option linter.unusedSimpArgs false
open Reg (La Vl)
namespace Reg
/-- a right register is that of its nodes -/
theorem right_of_nodes {U : List Int} {l : List Vl} (hU : U.length = 8) (h : rightM U l = true) : ∃ f, GoodF f ∧ U = repU f ∧ l = repL f := by
  have hf := right_facts h
  obtain ⟨h1, h2⟩ := (rightM_iff U l).1 h
  have hval : ∀ v, v ∈ l → -1099511627776 ≤ v.2.2 ∧ v.2.2 ≤ 1099511627776 := fun v hv => by
    obtain ⟨k, hk, hkv⟩ := List.getElem_of_mem hv
    have h3 := h2 k hk
    unfold goodV at h3
    rw [show l.getD k (0, 0, 0) = v by rw [List.getD_eq_getElem?_getD, List.getElem?_eq_getElem hk, ← hkv]; rfl] at h3
    simp only [Bool.and_eq_true] at h3
    have := (mayN_iff _ _).1 h3.1.1
    omega
  obtain ⟨f, hfd⟩ : ∃ f : Nat → Nd, f = fun n => (U.getD n 0, (l.find? (fun v => v.1 == (n : Int))).map (fun v => v.2)) := ⟨_, rfl⟩
  have hfs : ∀ n (x : Int × Int), (f n).2 = some x ↔ ((n : Int), x.1, x.2) ∈ l := fun n x => by
    rw [hfd]
    simp only [Option.map_eq_some_iff]
    constructor
    · rintro ⟨v, hv, rfl⟩
      have e1 := List.mem_of_find?_eq_some hv
      have e2 := List.find?_some hv
      have e3 : v.1 = (n : Int) := by simpa using e2
      rw [← e3]
      exact e1
    · intro hm
      have hv := ofV_mem hf.up hm
      unfold ofV at hv
      simp only at hv
      cases hq : l.find? (fun v => v.1 == (n : Int)) with
      | none =>
        have := List.find?_eq_none.1 hq _ hm
        simp at this
      | some v =>
        rw [hq, Option.getD_some] at hv
        exact ⟨v, rfl, by rw [hv]⟩
  have hgood : GoodF f := fun n hn => by
    refine ⟨by rw [hfd]; exact all_numV h1 n, fun q v hq => ?_⟩
    have hm := (hfs n (q, v)).1 hq
    have a := hf.seq _ hm
    have b := hval _ hm
    simp only [Int.toNat_natCast] at a b
    rw [hfd]
    exact ⟨a.1, a.2, b.1, b.2⟩
  refine ⟨f, hgood, ?_, ?_⟩
  · apply List.ext_getElem?
    intro i
    by_cases hi : i < 8
    · unfold repU
      rw [List.getElem?_map, List.getElem?_range hi, hfd, List.getElem?_eq_getElem (by omega)]
      simp [List.getD_eq_getElem?_getD, List.getElem?_eq_getElem (show i < U.length by omega)]
    · rw [List.getElem?_eq_none (by omega), List.getElem?_eq_none (by rw [repU_len]; omega)]
  · refine perm_sorted ((List.perm_ext_iff_of_nodup ?_ ?_).2 fun v => ?_) (hf.up.imp fun {a b} h => by omega) (repL_up f)
    · exact hf.up.imp fun {a b} h e => by rw [e] at h; omega
    · exact (repL_up f).imp fun {a b} h e => by rw [e] at h; omega
    · rw [mem_repL]
      constructor
      · intro hv
        have hn := hf.node v hv
        refine ⟨v.1.toNat, by omega, (hfs _ _).2 ?_, by omega⟩
        have : ((v.1.toNat : Int)) = v.1 := by omega
        rw [this]
        exact hv
      · rintro ⟨n, hn, e1, e2⟩
        have := (hfs n v.2).1 e1
        rw [← e2] at this
        exact this
section
variable {U V W : List Int} {l m k : List Vl}
def maxU (U V : List Int) : List Int := (List.range 8).map (fun i => max (U.getD i 0) (V.getD i 0))
theorem maxU_len (U V : List Int) : (maxU U V).length = 8 := by simp [maxU]
theorem meet_rightM (hU : U.length = 8) (hV : V.length = 8) (h : rightM U l = true) (h' : rightM V m = true) : rightM (maxU U V) (meetL U V l m) = true := by
  obtain ⟨f, hf, rfl, rfl⟩ := right_of_nodes hU h
  obtain ⟨g, hg, rfl, rfl⟩ := right_of_nodes hV h'
  unfold maxU
  rw [meet_rep_U, meet_rep_L hf hg]
  exact right_rep fun n hn => meetN_good (hf n hn) (hg n hn)
theorem meet_selfM (hU : U.length = 8) (h : rightM U l = true) : maxU U U = U ∧ meetL U U l l = l := by
  obtain ⟨f, hf, rfl, rfl⟩ := right_of_nodes hU h
  unfold maxU
  rw [meet_rep_U, meet_rep_L hf hf]
  exact rep_congr fun n hn => meetN_self _
theorem meet_commM (hU : U.length = 8) (hV : V.length = 8) (h : rightM U l = true) (h' : rightM V m = true) : maxU U V = maxU V U ∧ meetL U V l m = meetL V U m l := by
  obtain ⟨f, hf, rfl, rfl⟩ := right_of_nodes hU h
  obtain ⟨g, hg, rfl, rfl⟩ := right_of_nodes hV h'
  unfold maxU
  rw [meet_rep_U, meet_rep_L hf hg, meet_rep_U, meet_rep_L hg hf]
  exact rep_congr fun n hn => meetN_comm (hf n hn) (hg n hn)
theorem meet_assocM (hU : U.length = 8) (hV : V.length = 8) (hW : W.length = 8) (h : rightM U l = true) (h' : rightM V m = true) (h2 : rightM W k = true) :
    maxU (maxU U V) W = maxU U (maxU V W) ∧ meetL (maxU U V) W (meetL U V l m) k = meetL U (maxU V W) l (meetL V W m k) := by
  obtain ⟨f, hf, rfl, rfl⟩ := right_of_nodes hU h
  obtain ⟨g, hg, rfl, rfl⟩ := right_of_nodes hV h'
  obtain ⟨e, he, rfl, rfl⟩ := right_of_nodes hW h2
  have hfg : GoodF fun n => meetN (f n) (g n) := fun n hn => meetN_good (hf n hn) (hg n hn)
  have hge : GoodF fun n => meetN (g n) (e n) := fun n hn => meetN_good (hg n hn) (he n hn)
  unfold maxU
  rw [meet_rep_U f g, meet_rep_L hf hg, meet_rep_U g e, meet_rep_L hg he, meet_rep_U _ e, meet_rep_L hfg he, meet_rep_U f, meet_rep_L hf hge]
  exact rep_congr fun n hn => meetN_assoc (hf n hn) (hg n hn) (he n hn)
end
end Reg
namespace Bo
theorem joinP_plan {a b : La} (h : planB a = true) (h' : planB b = true) : planB (Reg.joinL a b) = true := by
  unfold Reg.joinL
  split <;> assumption
theorem join_eq {a b : Bd} (ha : rightB a = true) (hb : rightB b = true) : join a b = ⟨Tally.joinL a.t b.t, List.zipWith Reg.joinL a.p b.p, Reg.maxU a.u b.u, Reg.meetL a.u b.u a.l b.l⟩ := by
  unfold join
  rw [own_of ha, own_of hb]
  rfl
theorem join_shaped {a b : Bd} (ha : Shaped a) (hb : Shaped b) : Shaped (join a b) := by
  have h1 := own_shaped ha
  have h2 := own_shaped hb
  refine ⟨join_len h1.t h2.t, ?_, by simp [join]⟩
  show (List.zipWith Reg.joinL (own a).p (own b).p).length = 8
  rw [List.length_zipWith, h1.p, h2.p]
  rfl
theorem join_own (a b : Bd) : join a b = join (own a) (own b) := by
  unfold join
  rw [own_of (own_right a), own_of (own_right b)]
theorem meetL_val {U V : List Int} {l m : List Vl} (ha : Reg.RightF U l) (hb : Reg.RightF V m) (h1 : ∀ v ∈ l, 0 ≤ v.2.2) (h2 : ∀ v ∈ m, 0 ≤ v.2.2) : ∀ v ∈ Reg.meetL U V l m, 0 ≤ v.2.2 := fun v hv => by
  rcases (Reg.mem_meetL ha hb v).1 hv with h | h
  · exact h1 v h.1
  · exact h2 v h.1
theorem join_right {a b : Bd} (ha : Shaped a) (hb : Shaped b) : rightB (join a b) = true := by
  rw [join_own]
  have sa := own_shaped ha
  have sb := own_shaped hb
  have ra := own_right a
  have rb := own_right b
  generalize own a = x at *
  generalize own b = y at *
  rw [join_eq ra rb]
  obtain ⟨p1, v1, t1, m1⟩ := (right_iff x).1 ra
  obtain ⟨p2, v2, t2, m2⟩ := (right_iff y).1 rb
  refine (right_iff _).2 ⟨fun q hq => ?_, meetL_val (Reg.right_facts m1) (Reg.right_facts m2) v1 v2, Go.Proofs.YtocoohpekpkmkaaGreat.join_right sa.t sb.t, Reg.meet_rightM sa.u sb.u m1 m2⟩
  obtain ⟨i, hi, rfl⟩ := List.getElem_of_mem hq
  rw [List.length_zipWith] at hi
  rw [List.getElem_zipWith]
  exact joinP_plan (p1 _ (List.getElem_mem _)) (p2 _ (List.getElem_mem _))
section
variable {a b c : Bd}
theorem zip_comm (p q : List La) : List.zipWith Reg.joinL p q = List.zipWith Reg.joinL q p := List.zipWith_comm_of_comm (fun x y => Reg.join_comm x y)
theorem zip_self : ∀ p : List La, List.zipWith Reg.joinL p p = p
  | [] => rfl
  | a :: l => by rw [List.zipWith_cons_cons, Reg.join_self, zip_self l]
theorem zip_assoc : ∀ p q r : List La, List.zipWith Reg.joinL (List.zipWith Reg.joinL p q) r = List.zipWith Reg.joinL p (List.zipWith Reg.joinL q r)
  | [], _, _ => rfl
  | _ :: _, [], _ => rfl
  | _ :: _, _ :: _, [] => rfl
  | a :: p, b :: q, c :: r => by
    simp only [List.zipWith_cons_cons]
    rw [Reg.join_assoc, zip_assoc p q r]
theorem join_comm (ha : Shaped a) (hb : Shaped b) (ra : rightB a = true) (rb : rightB b = true) : join a b = join b a := by
  rw [join_eq ra rb, join_eq rb ra]
  obtain ⟨p1, v1, t1, m1⟩ := (right_iff a).1 ra
  obtain ⟨p2, v2, t2, m2⟩ := (right_iff b).1 rb
  obtain ⟨e1, e2⟩ := Reg.meet_commM ha.u hb.u m1 m2
  rw [Go.Proofs.YtocoohpekpkmkaaGreat.join_comm hb.t ha.t, zip_comm a.p b.p, e1, e2]
theorem tally_self {t : List Int} (h : t.length = 16) (r : Tally.rightB t = true) : Tally.joinL t t = t := ext16 (join_len h h) h fun i hi => by
  rw [join_at h h hi, Tally.own_own _ r]
  have := mx_or (t.getD i 0) (t.getD i 0)
  omega
theorem join_self (ha : Shaped a) (ra : rightB a = true) : join a a = a := by
  rw [join_eq ra ra]
  obtain ⟨p1, v1, t1, m1⟩ := (right_iff a).1 ra
  obtain ⟨e1, e2⟩ := Reg.meet_selfM ha.u m1
  rw [tally_self ha.t t1, zip_self, e1, e2]
theorem join_assoc (ha : Shaped a) (hb : Shaped b) (hc : Shaped c) (ra : rightB a = true) (rb : rightB b = true) (rc : rightB c = true) : join (join a b) c = join a (join b c) := by
  rw [join_eq (join_right ha hb) rc, join_eq ra (join_right hb hc), join_eq ra rb, join_eq rb rc]
  obtain ⟨p1, v1, t1, m1⟩ := (right_iff a).1 ra
  obtain ⟨p2, v2, t2, m2⟩ := (right_iff b).1 rb
  obtain ⟨p3, v3, t3, m3⟩ := (right_iff c).1 rc
  obtain ⟨e1, e2⟩ := Reg.meet_assocM ha.u hb.u hc.u m1 m2 m3
  simp only
  rw [Go.Proofs.YtocoohpekpkmkaaGreat.join_assoc ha.t hb.t hc.t, zip_assoc, e1, e2]
end
/-- what a writer wrote, told apart -/
theorem wrote_ok {b x : Bd} {n m v : Int} (h : wrote b n m v = (x, 0)) : rightB b = true ∧ (0 ≤ n ∧ n ≤ 7) ∧ (0 ≤ m ∧ m ≤ 7) ∧ (0 ≤ v ∧ v ≤ 1000) ∧ ∃ t q, Tally.addL b.t n 1 = (t, 0) ∧ Reg.writeL (b.p.getD m.toNat (0, 0, 0)) n v = (q, 0) ∧ x = ⟨t, b.p.set m.toNat q, b.u, b.l⟩ := by
  unfold wrote at h
  split at h
  · injection h with _ h; cases h
  · rename_i hc
    simp only [not_or, Bool.not_eq_false] at hc
    obtain ⟨h1, h2, h3, h4⟩ := hc
    split at h
    · rename_i e; injection h with _ h; exact absurd h e
    · split at h
      · rename_i e; injection h with _ h; exact absurd h e
      · rename_i e1 e2
        injection h with h _
        refine ⟨h1, (Reg.inB_iff _ _ _).1 h2, (Reg.inB_iff _ _ _).1 h3, (Reg.inB_iff _ _ _).1 h4, _, _, Prod.ext rfl (by simpa using e1), Prod.ext rfl (by simpa using e2), h.symm⟩
theorem writeL_ok {q w : La} {n v : Int} (h : Reg.writeL q n v = (w, 0)) : w = (max q.1 0 + 1, n, v) ∧ q.1 < 1099511627776 := by
  unfold Reg.writeL at h
  split at h
  · injection h with _ h; cases h
  · split at h
    · injection h with _ h; cases h
    · injection h with h _
      exact ⟨h.symm, by omega⟩
theorem wrote_right {b x : Bd} {n m v : Int} (h : wrote b n m v = (x, 0)) (hs : Shaped b) : rightB x = true := by
  obtain ⟨hr, hn, hm, hv, t, q, ht, hq, rfl⟩ := wrote_ok h
  obtain ⟨p1, v1, t1, m1⟩ := (right_iff b).1 hr
  refine (right_iff _).2 ⟨fun z hz => ?_, v1, ?_, m1⟩
  · rcases List.mem_or_eq_of_mem_set hz with h | h
    · exact p1 z h
    · obtain ⟨hw, hl⟩ := writeL_ok hq
      rw [h, hw]
      refine (planB_iff _).2 (.inr ?_)
      have hg : (b.p.getD m.toNat (0, 0, 0)).1 < 1099511627776 := hl
      simp only
      omega
  · have := (Tally.add_len hs.t n 1).2
    rwa [ht] at this
theorem wrote_join {b x : Bd} {n m v : Int} (h : wrote b n m v = (x, 0)) (hs : Shaped b) : join x b = x := by
  have rx := wrote_right h hs
  obtain ⟨hr, hn, hm, hv, t, q, ht, hq, rfl⟩ := wrote_ok h
  obtain ⟨p1, v1, t1, m1⟩ := (right_iff b).1 hr
  rw [join_eq rx hr]
  obtain ⟨e1, e2⟩ := Reg.meet_selfM hs.u m1
  simp only
  have htl : t.length = 16 := by
    have := (Tally.add_len hs.t n 1).1
    rwa [ht] at this
  have htr : Tally.rightB t = true := by
    have := (Tally.add_len hs.t n 1).2
    rwa [ht] at this
  have hT : Tally.joinL t b.t = t := ext16 (join_len htl hs.t) htl fun i hi => by
    rw [join_at htl hs.t hi, Tally.own_own _ htr, Tally.own_own _ t1]
    have he : t = b.t.set (Tally.slot n 1) (b.t.getD (Tally.slot n 1) 0 + Tally.amt 1) := by
      unfold Tally.addL at ht
      split at ht
      · split at ht
        · injection ht with _ ht; cases ht
        · injection ht with ht _; exact ht.symm
      · injection ht with _ ht; cases ht
    have hsl : Tally.slot n 1 < 16 := by unfold Tally.slot; rw [if_neg (by omega)]; omega
    have hA : Tally.amt 1 = 1 := rfl
    have h1 := add_at (a := Tally.amt 1) hs.t hsl i
    rw [← he] at h1
    have h2 := mx_or (t.getD i 0) (b.t.getD i 0)
    omega
  have hP : List.zipWith Reg.joinL (b.p.set m.toNat q) b.p = b.p.set m.toNat q := by
    apply List.ext_getElem?
    intro i
    by_cases hi : i < 8
    · rw [List.getElem?_zipWith, List.getElem?_set]
      have hbi : b.p[i]? = some (b.p.getD i (0, 0, 0)) := by rw [List.getD_eq_getElem?_getD, List.getElem?_eq_getElem (by rw [hs.p]; exact hi)]; rfl
      by_cases e : m.toNat = i
      · subst e
        rw [if_pos rfl, if_pos (by rw [hs.p]; exact hi), hbi]
        show some (Reg.joinL q _) = some q
        unfold Reg.joinL
        rw [if_pos (Reg.write_newer hq).1]
      · rw [if_neg e, hbi]
        show some (Reg.joinL _ _) = some _
        rw [Reg.join_self]
    · rw [List.getElem?_eq_none (by rw [List.length_zipWith, List.length_set, hs.p]; omega), List.getElem?_eq_none (by rw [List.length_set, hs.p]; omega)]
  rw [hT, hP, e1, e2]
theorem note_ok {b x : Bd} {n v : Int} (h : note b n v = (x, 0)) : rightB b = true ∧ 0 ≤ v ∧ ∃ u l, Reg.putM b.u b.l n v = ((u, l), 0) ∧ x = ⟨b.t, b.p, u, l⟩ := by
  unfold note at h
  split at h
  · injection h with _ h; cases h
  · rename_i hc
    simp only [not_or, Bool.not_eq_false, Int.not_lt] at hc
    split at h
    · rename_i e; injection h with _ h; exact absurd h e
    · rename_i e
      injection h with h _
      exact ⟨hc.1, hc.2, _, _, Prod.ext rfl (by simpa using e), h.symm⟩
end Bo
end Go.Proofs.YtocoohpekpkmkaaGreat

/- The walks of board.Join and of its parts. -/
namespace Go.Proofs.YtocoohpekpkmkaaGreat
set_option linter.unusedVariables false
set_option linter.unusedSimpArgs false
set_option maxRecDepth 100000
open Go.RowKit
open Reg (La Vl)
/-- the end of a call that turns the board of a block -/
def TurnB (T : TypeId) (g : Nat) (w : World) (b : Bd) (s : Value) (e : Ending) (w' : World) : Prop := e = .returned (.tuple #[]) ∧ Blk w' g T (bc b s) ∧ w.grownBy w' (some g)
def TurnN (T T2 : TypeId) (g : Nat) (w : World) (b : Bd) (e : Ending) (w' : World) : Prop := ∃ A m c, TurnB T g w b (.slice A m c) e w' ∧ OwnV T2 w' 0 A m c b.l ∧ m ≤ 100000
theorem grows_trans {a w w' : World} {row : Option Nat} (h : a.grownBy w row) (k : w.grownBy w' row) : a.grownBy w' row :=
  ⟨k.os.trans h.os, k.tape.trans h.tape, k.output.trans h.output, Nat.le_trans h.size k.size, fun i hi hr => (k.block i (Nat.lt_of_lt_of_le hi h.size) hr).trans (h.block i hi hr)⟩
theorem grows_below {a w w' : World} {row : Option Nat} (h : a.grownBy w row) (hb : Below w.heap.size w w') : a.grownBy w' row :=
  grows_trans h ⟨hb.os, hb.tape, hb.output, hb.size, fun i hi _ => hb.block i hi⟩
theorem new_grows (w : World) (o : Obj) (row : Option Nat) : w.grownBy (w.alloc o) row := World.grownBy_alloc w o row
set_option maxHeartbeats 1600000 in
theorem joinWrites_any (b o : Bd) (hs : Bo.Shaped b) (ho : Bo.Shaped o) (s so : Value) (g : Nat) (w0 : World) (kg : Blk w0 g 41 (bc b s)) :
    Calls Tryz.prog 20 #[.pointer (some ⟨g, 0, none⟩), .agg (bc o so)] w0 (TurnB 41 g w0 { b with t := Tally.joinL b.t o.t } s) := by
  have HS := Lib.hid hs
  have HO := Lib.hid ho
  have S16 := Lib.hid (show (tc b.t).size = 16 by rw [tc_size, hs.t])
  have O16 := Lib.hid (show (tc o.t).size = 16 by rw [tc_size, ho.t])
  have HC := Lib.hid fun w => join_any b.t o.t w hs.t ho.t
  obtain ⟨t', ht⟩ : ∃ t', t' = Tally.joinL b.t o.t := ⟨_, rfl⟩
  have T16 := Lib.hid (show t'.length = 16 by rw [ht]; exact join_len hs.t ho.t)
  have N16 := Lib.hid (show (tc t').size = 16 by rw [tc_size, T16.out])
  have N1 := Lib.hid (tc_one t')
  rw [← ht] at HC ⊢
  have b49 := Lib.hid (bc_size (s := s) hs)
  clear hs ho ht
  go_enter Tryz.func20, Tryz.ntmps20
  go_upto_region 1 with fail
  refine nameW ?_
  intro wv hwv
  obtain ⟨g2, hg2⟩ : ∃ g2, g2 = w0.heap.size := ⟨_, rfl⟩
  rw [← hg2]
  have k0 : Blk wv g 41 (bc b s) := by rw [hwv]; exact kg.alloc _
  have k1 : Blk wv g2 41 (bc o so) := by rw [hwv, hg2]; exact Blk.new w0 _ _
  have gg : w0.grownBy wv (some g) := by rw [hwv]; exact new_grows _ _ _
  clear hwv hg2 kg
  refine wp_region_tail 8 (fun L v w => v 0 = .pointer (some ⟨g, 0, none⟩) ∧ v 3 = .pointer (some ⟨g2, 0, none⟩) ∧ Below wv.heap.size wv w ∧ (L 0 = true → v 4 = .pointer (some ⟨g, 0, none⟩)) ∧ (L 1 = true → v 5 = .pointer (some ⟨g, 0, none⟩)) ∧ (L 2 = true → v 6 = .pointer (some ⟨g, 0, none⟩)) ∧ (L 3 = true → v 7 = .pointer (some ⟨g, 0, none⟩)) ∧ (L 4 = true → v 8 = .agg (tc b.t)) ∧ (L 5 = true → v 9 = .pointer (some ⟨g2, 0, none⟩)) ∧ (L 6 = true → v 10 = .agg (tc o.t)) ∧ (L 7 = true → v 11 = .agg (tc t'))) [4, 5, 6, 7, 8, 9, 10, 11] (by kernel_rfl) (by kernel_rfl) (by kernel_rfl) (by kernel_rfl) (by kernel_rfl) (by kernel_rfl) ?h0 ?hst ?hend
  case h0 =>
    intro L h0
    have h0 : ∀ i, i < 8 → L i = false := h0
    exact ⟨rfl, rfl, (Below.refl _ _).drew, offF h0 (i := 0) (by decide), offF h0 (i := 1) (by decide), offF h0 (i := 2) (by decide), offF h0 (i := 3) (by decide), offF h0 (i := 4) (by decide), offF h0 (i := 5) (by decide), offF h0 (i := 6) (by decide), offF h0 (i := 7) (by decide)⟩
  case hst =>
    show FactSteps _ _ _ _ [0, 1, 2, 3, 4, 5, 6, 7]
    refine @FactSteps.cons _ _ _ _ 0 _ [] _ rfl (by kernel_rfl) ?s0 ?_
    rotate_left
    refine @FactSteps.cons _ _ _ _ 1 _ [] _ rfl (by kernel_rfl) ?s1 ?_
    rotate_left
    refine @FactSteps.cons _ _ _ _ 2 _ [1] _ rfl (by kernel_rfl) ?s2 ?_
    rotate_left
    refine @FactSteps.cons _ _ _ _ 3 _ [2] _ rfl (by kernel_rfl) ?s3 ?_
    rotate_left
    refine @FactSteps.cons _ _ _ _ 4 _ [3] _ rfl (by kernel_rfl) ?s4 ?_
    rotate_left
    refine @FactSteps.cons _ _ _ _ 5 _ [] _ rfl (by kernel_rfl) ?s5 ?_
    rotate_left
    refine @FactSteps.cons _ _ _ _ 6 _ [5] _ rfl (by kernel_rfl) ?s6 ?_
    rotate_left
    refine @FactSteps.cons _ _ _ _ 7 _ [4, 6] _ rfl (by kernel_rfl) ?s7 ?_
    rotate_left
    exact FactSteps.nil
    case s0 =>
      rintro L a v w hv hg hL hd hcl ⟨e0, e3, hb, f0, f1, f2, f3, f4, f5, f6, f7⟩ K hK
      refine step_do rfl ?_
      clear hv
      go_simp
      exact hK.out _ _ ⟨e0, e3, hb, fun _ => rfl, f1, f2, f3, f4, f5, f6, f7⟩
    case s1 =>
      rintro L a v w hv hg hL hd hcl ⟨e0, e3, hb, f0, f1, f2, f3, f4, f5, f6, f7⟩ K hK
      refine step_do rfl ?_
      clear hv
      go_simp
      exact hK.out _ _ ⟨e0, e3, hb, f0, fun _ => rfl, f2, f3, f4, f5, f6, f7⟩
    case s2 =>
      rintro L a v w hv hg hL hd hcl ⟨e0, e3, hb, f0, f1, f2, f3, f4, f5, f6, f7⟩ K hK
      have g1 := f1 (hd 1 (by decide))
      refine step_do rfl ?_
      clear hv
      go_simp
      exact hK.out _ _ ⟨e0, e3, hb, f0, f1, fun _ => rfl, f3, f4, f5, f6, f7⟩
    case s3 =>
      rintro L a v w hv hg hL hd hcl ⟨e0, e3, hb, f0, f1, f2, f3, f4, f5, f6, f7⟩ K hK
      have g2 := f2 (hd 2 (by decide))
      refine step_do rfl ?_
      clear hv
      go_simp
      exact hK.out _ _ ⟨e0, e3, hb, f0, f1, f2, fun _ => rfl, f4, f5, f6, f7⟩
    case s4 =>
      rintro L a v w hv hg hL hd hcl ⟨e0, e3, hb, f0, f1, f2, f3, f4, f5, f6, f7⟩ K hK
      have g3 := f3 (hd 3 (by decide))
      refine step_do rfl ?_
      refine wp_ldr rowT (.tmp 7) rfl ((hv 7).trans g3) ((k0.below hb k0.lt).tal HS.out) S16.out ?_
      exact hK.out _ _ ⟨e0, e3, hb, f0, f1, f2, f3, fun _ => rfl, f5, f6, f7⟩
    case s5 =>
      rintro L a v w hv hg hL hd hcl ⟨e0, e3, hb, f0, f1, f2, f3, f4, f5, f6, f7⟩ K hK
      refine step_do rfl ?_
      clear hv
      go_simp
      exact hK.out _ _ ⟨e0, e3, hb, f0, f1, f2, f3, f4, fun _ => rfl, f6, f7⟩
    case s6 =>
      rintro L a v w hv hg hL hd hcl ⟨e0, e3, hb, f0, f1, f2, f3, f4, f5, f6, f7⟩ K hK
      have g5 := f5 (hd 5 (by decide))
      refine step_do rfl ?_
      refine wp_ldr rowT (.tmp 9) rfl ((hv 9).trans g5) ((k1.below hb k1.lt).tal HO.out) O16.out ?_
      exact hK.out _ _ ⟨e0, e3, hb, f0, f1, f2, f3, f4, f5, fun _ => rfl, f7⟩
    case s7 =>
      rintro L a v w hv hg hL hd hcl ⟨e0, e3, hb, f0, f1, f2, f3, f4, f5, f6, f7⟩ K hK
      have h4 := f4 (hd 4 (by decide))
      have h6 := f6 (hd 6 (by decide))
      refine step_do rfl ?_
      clear hv
      go_simp
      refine (HC.out _).mono ?_
      rintro e wy ⟨rfl, bb⟩
      exact hK.out _ _ ⟨e0, e3, (hb.trans (bb.mono hb.size)), f0, f1, f2, f3, f4, f5, f6, fun _ => rfl⟩
  case hend =>
  rintro L v w3 hall ⟨e0, e3, hb, f0, f1, f2, f3, f4, f5, f6, f7⟩
  have hL : ∀ i, i < 8 → L i = true := hall
  have f0 := f0 (hL 0 (by decide))
  have f1 := f1 (hL 1 (by decide))
  have f2 := f2 (hL 2 (by decide))
  have f3 := f3 (hL 3 (by decide))
  have f4 := f4 (hL 4 (by decide))
  have f5 := f5 (hL 5 (by decide))
  have f6 := f6 (hL 6 (by decide))
  have f7 := f7 (hL 7 (by decide))
  simp only [finA, List.foldl_cons, List.foldl_nil, Act.put, List.setIfInBounds_toArray, List.set_cons_succ, List.set_cons_zero, f0, f1, f2, f3, f4, f5, f6, f7]
  have k0 := k0.below hb k0.lt
  have gg := grows_below gg hb
  have hth := k0.there_ (o := 0) (n := 16) (by rw [b49.out]; omega)
  clear e0 e3 f0 f1 f2 f3 f4 f5 f6 f7 hL hall hb k1 HC
  show wpList _ _ _ [_, _, _] _ _
  go_wp2_with ((with_reducible refine wpList_str rowT hth N16.out N1.out ?_ ?_ ?_); rotate_left; (rfl); (rfl); intro w4 hw4)
  go_end0
  have gx := cells_grown w3 g 0 (tc t').toList
  have kx := k0.setT HS.out T16.out
  rw [← hw4] at gx kx
  exact ⟨rfl, kx, grows_trans gg gx⟩
set_option maxHeartbeats 1600000 in
theorem joinNotes_any (b o : Bd) (hs : Bo.Shaped b) (ho : Bo.Shaped o) (hr : Reg.rightM b.u b.l = true) (hor : Reg.rightM o.u o.l = true) (A A2 : Option Addr) (m c m2 c2 : Nat) (g : Nat) (w0 : World) (kg : Blk w0 g 41 (bc b (.slice A m c)))
    (hb1 : RdV w0 w0.heap.size A m b.l) (hb2 : RdV w0 w0.heap.size A2 m2 o.l) (hm : m ≤ 100000) (hm2 : m2 ≤ 100000) :
    Calls Tryz.prog 22 #[.pointer (some ⟨g, 0, none⟩), .agg (bc o (.slice A2 m2 c2))] w0 (TurnN 41 84 g w0 { b with u := Reg.maxU b.u o.u, l := Reg.meetL b.u o.u b.l o.l }) := by
  have HS := Lib.hid hs
  have HO := Lib.hid ho
  have S9 := Lib.hid (uc_size hs.u (.slice A m c))
  have O9 := Lib.hid (uc_size ho.u (.slice A2 m2 c2))
  obtain ⟨u', hu'⟩ : ∃ u', u' = Reg.maxU b.u o.u := ⟨_, rfl⟩
  obtain ⟨l', hl'⟩ : ∃ l', l' = Reg.meetL b.u o.u b.l o.l := ⟨_, rfl⟩
  have U8 := Lib.hid (show u'.length = 8 by rw [hu']; exact Reg.maxU_len _ _)
  have L8 := Lib.hid (show l'.length ≤ 8 by rw [hl']; exact Reg.meetL_len _ _ _ _)
  have hc := fun (w' : World) (hbb : Below w0.heap.size w0 w') => meet29_any b.u o.u hs.u ho.u A A2 m c m2 c2 b.l o.l w' (hb1.below hbb).size (hb2.below hbb).size hm hm2
  have e1 : Reg.ownM b.u b.l = (b.u, b.l) := by unfold Reg.ownM; rw [if_pos hr]
  have e2 : Reg.ownM o.u o.l = (o.u, o.l) := by unfold Reg.ownM; rw [if_pos hor]
  rw [e1, e2] at hc
  have hc' : ∀ w', Below w0.heap.size w0 w' → Calls Tryz.prog 61 #[.agg (uc b.u (.slice A m c)), .agg (uc o.u (.slice A2 m2 c2))] w' (CopyV 84 w' u' l') := by
    rw [hu', hl']
    exact hc
  have HC := Lib.hid hc'
  rw [← hu', ← hl']
  have b49 := Lib.hid (bc_size (s := .slice A m c) hs)
  clear hs ho hc hc' e1 e2 hu' hl' hb1 hb2 hr hor
  go_enter Tryz.func22, Tryz.ntmps22
  go_upto_region 1 with fail
  refine nameW ?_
  intro wv hwv
  obtain ⟨g2, hg2⟩ : ∃ g2, g2 = w0.heap.size := ⟨_, rfl⟩
  rw [← hg2]
  have k0 : Blk wv g 41 (bc b (.slice A m c)) := by rw [hwv]; exact kg.alloc _
  have k1 : Blk wv g2 41 (bc o (.slice A2 m2 c2)) := by rw [hwv, hg2]; exact Blk.new w0 _ _
  have gg : w0.grownBy wv (some g) := by rw [hwv]; exact new_grows _ _ _
  have hB : Below w0.heap.size w0 wv := by rw [hwv]; exact (Below.refl _ _).alloc (Nat.le_refl _) _
  clear hwv hg2 kg
  refine wp_region_tail 8 (fun L v w => v 0 = .pointer (some ⟨g, 0, none⟩) ∧ v 3 = .pointer (some ⟨g2, 0, none⟩) ∧ Below wv.heap.size wv w ∧ (L 0 = true → v 4 = .pointer (some ⟨g, 0, none⟩)) ∧ (L 1 = true → v 5 = .pointer (some ⟨g, 0, none⟩)) ∧ (L 2 = true → v 6 = .pointer (some ⟨g, 0, none⟩)) ∧ (L 3 = true → v 7 = .pointer (some ⟨g, 40, none⟩)) ∧ (L 4 = true → v 8 = .agg (uc b.u (.slice A m c))) ∧ (L 5 = true → v 9 = .pointer (some ⟨g2, 40, none⟩)) ∧ (L 6 = true → v 10 = .agg (uc o.u (.slice A2 m2 c2))) ∧ (L 7 = true → ∃ A3 m3 c3, v 11 = .agg (uc u' (.slice A3 m3 c3)) ∧ OwnV 84 w 0 A3 m3 c3 l')) [4, 5, 6, 7, 8, 9, 10, 11] (by kernel_rfl) (by kernel_rfl) (by kernel_rfl) (by kernel_rfl) (by kernel_rfl) (by kernel_rfl) ?h0 ?hst ?hend
  case h0 =>
    intro L h0
    have h0 : ∀ i, i < 8 → L i = false := h0
    exact ⟨rfl, rfl, (Below.refl _ _).drew, offF h0 (i := 0) (by decide), offF h0 (i := 1) (by decide), offF h0 (i := 2) (by decide), offF h0 (i := 3) (by decide), offF h0 (i := 4) (by decide), offF h0 (i := 5) (by decide), offF h0 (i := 6) (by decide), offF h0 (i := 7) (by decide)⟩
  case hst =>
    show FactSteps _ _ _ _ [0, 1, 2, 3, 4, 5, 6, 7]
    refine @FactSteps.cons _ _ _ _ 0 _ [] _ rfl (by kernel_rfl) ?s0 ?_
    rotate_left
    refine @FactSteps.cons _ _ _ _ 1 _ [] _ rfl (by kernel_rfl) ?s1 ?_
    rotate_left
    refine @FactSteps.cons _ _ _ _ 2 _ [1] _ rfl (by kernel_rfl) ?s2 ?_
    rotate_left
    refine @FactSteps.cons _ _ _ _ 3 _ [2] _ rfl (by kernel_rfl) ?s3 ?_
    rotate_left
    refine @FactSteps.cons _ _ _ _ 4 _ [3] _ rfl (by kernel_rfl) ?s4 ?_
    rotate_left
    refine @FactSteps.cons _ _ _ _ 5 _ [] _ rfl (by kernel_rfl) ?s5 ?_
    rotate_left
    refine @FactSteps.cons _ _ _ _ 6 _ [5] _ rfl (by kernel_rfl) ?s6 ?_
    rotate_left
    refine @FactSteps.cons _ _ _ _ 7 _ [4, 6] _ rfl (by kernel_rfl) ?s7 ?_
    rotate_left
    exact FactSteps.nil
    case s0 =>
      rintro L a v w hv hg hL hd hcl ⟨e0, e3, hb, f0, f1, f2, f3, f4, f5, f6, f7⟩ K hK
      refine step_do rfl ?_
      clear hv
      go_simp
      exact hK.out _ _ ⟨e0, e3, hb, fun _ => rfl, f1, f2, f3, f4, f5, f6, f7⟩
    case s1 =>
      rintro L a v w hv hg hL hd hcl ⟨e0, e3, hb, f0, f1, f2, f3, f4, f5, f6, f7⟩ K hK
      refine step_do rfl ?_
      clear hv
      go_simp
      exact hK.out _ _ ⟨e0, e3, hb, f0, fun _ => rfl, f2, f3, f4, f5, f6, f7⟩
    case s2 =>
      rintro L a v w hv hg hL hd hcl ⟨e0, e3, hb, f0, f1, f2, f3, f4, f5, f6, f7⟩ K hK
      have g1 := f1 (hd 1 (by decide))
      refine step_do rfl ?_
      clear hv
      go_simp
      exact hK.out _ _ ⟨e0, e3, hb, f0, f1, fun _ => rfl, f3, f4, f5, f6, f7⟩
    case s3 =>
      rintro L a v w hv hg hL hd hcl ⟨e0, e3, hb, f0, f1, f2, f3, f4, f5, f6, f7⟩ K hK
      have g2 := f2 (hd 2 (by decide))
      refine step_do rfl ?_
      clear hv
      go_simp
      exact hK.out _ _ ⟨e0, e3, hb, f0, f1, f2, fun _ => rfl, f4, f5, f6, f7⟩
    case s4 =>
      rintro L a v w hv hg hL hd hcl ⟨e0, e3, hb, f0, f1, f2, f3, f4, f5, f6, f7⟩ K hK
      have g3 := f3 (hd 3 (by decide))
      refine step_do rfl ?_
      refine wp_ldr rowM (.tmp 7) rfl ((hv 7).trans g3) ((k0.below hb k0.lt).notes HS.out) S9.out ?_
      exact hK.out _ _ ⟨e0, e3, hb, f0, f1, f2, f3, fun _ => rfl, f5, f6, f7⟩
    case s5 =>
      rintro L a v w hv hg hL hd hcl ⟨e0, e3, hb, f0, f1, f2, f3, f4, f5, f6, f7⟩ K hK
      refine step_do rfl ?_
      clear hv
      go_simp
      exact hK.out _ _ ⟨e0, e3, hb, f0, f1, f2, f3, f4, fun _ => rfl, f6, f7⟩
    case s6 =>
      rintro L a v w hv hg hL hd hcl ⟨e0, e3, hb, f0, f1, f2, f3, f4, f5, f6, f7⟩ K hK
      have g5 := f5 (hd 5 (by decide))
      refine step_do rfl ?_
      refine wp_ldr rowM (.tmp 9) rfl ((hv 9).trans g5) ((k1.below hb k1.lt).notes HO.out) O9.out ?_
      exact hK.out _ _ ⟨e0, e3, hb, f0, f1, f2, f3, f4, f5, fun _ => rfl, f7⟩
    case s7 =>
      rintro L a v w hv hg hL hd hcl ⟨e0, e3, hb, f0, f1, f2, f3, f4, f5, f6, f7⟩ K hK
      have h4 := f4 (hd 4 (by decide))
      have h6 := f6 (hd 6 (by decide))
      refine step_do rfl ?_
      clear hv
      go_simp
      refine (HC.out _ (hB.trans (hb.mono hB.size))).mono ?_
      rintro e wy ⟨A3, m3, c3, rfl, o3, bb⟩
      exact hK.out _ _ ⟨e0, e3, (hb.trans (bb.mono hb.size)), f0, f1, f2, f3, f4, f5, f6, fun _ => ⟨A3, m3, c3, rfl, o3.mono (Nat.zero_le _)⟩⟩
  case hend =>
  rintro L v w3 hall ⟨e0, e3, hb, f0, f1, f2, f3, f4, f5, f6, f7⟩
  have hL : ∀ i, i < 8 → L i = true := hall
  have f0 := f0 (hL 0 (by decide))
  have f1 := f1 (hL 1 (by decide))
  have f2 := f2 (hL 2 (by decide))
  have f3 := f3 (hL 3 (by decide))
  have f4 := f4 (hL 4 (by decide))
  have f5 := f5 (hL 5 (by decide))
  have f6 := f6 (hL 6 (by decide))
  have f7 := f7 (hL 7 (by decide))
  obtain ⟨A3, m3, c3, e7, o3⟩ := f7
  simp only [finA, List.foldl_cons, List.foldl_nil, Act.put, List.setIfInBounds_toArray, List.set_cons_succ, List.set_cons_zero, f0, f1, f2, f3, f4, f5, f6, e7]
  have k0 := k0.below hb k0.lt
  have gg := grows_below gg hb
  have hth := k0.there_ (o := 40) (n := 9) (by rw [b49.out]; omega)
  have N9 := Lib.hid (uc_size U8.out (.slice A3 m3 c3))
  have N1 := Lib.hid (uc_one (U := u') (s := .slice A3 m3 c3) rfl)
  clear e0 e3 f0 f1 f2 f3 f4 f5 f6 hL hall e7 hb k1 HC
  show wpList _ _ _ [_, _, _] _ _
  go_wp2_with ((with_reducible refine wpList_str rowM hth N9.out N1.out ?_ ?_ ?_); rotate_left; (rfl); (rfl); intro w4 hw4)
  go_end0
  have gx := cells_grown w3 g 40 (uc u' (.slice A3 m3 c3)).toList
  have kx := k0.setN HS.out (l := l') (s' := .slice A3 m3 c3) U8.out
  rw [← hw4] at gx kx
  have o4 := o3.grown gx (.inr (own_ne o3.2 k0 (by decide)))
  exact ⟨A3, m3, c3, ⟨rfl, kx, grows_trans gg gx⟩, o4, by have := o4.1; have := L8.out; omega⟩
theorem mixP_len {p q : List La} (hp : p.length = 8) (hq : q.length = 8) (k : Nat) (hk : k ≤ 8) : ((List.zipWith Reg.joinL p q).take k ++ p.drop k).length = 8 := by
  rw [List.length_append, List.length_take, List.length_drop, List.length_zipWith, hp, hq]
  omega
theorem mixP_at {p q : List La} (hp : p.length = 8) (hq : q.length = 8) {k : Nat} (hk : k < 8) : ((List.zipWith Reg.joinL p q).take k ++ p.drop k).getD k (0, 0, 0) = p.getD k (0, 0, 0) := by
  rw [List.getD_eq_getElem?_getD, List.getElem?_append_right (by rw [List.length_take, List.length_zipWith, hp, hq]; omega), List.length_take, List.length_zipWith, hp, hq, List.getElem?_drop, List.getD_eq_getElem?_getD]
  congr 2
  omega
theorem mixP_set {p q : List La} (hp : p.length = 8) (hq : q.length = 8) {k : Nat} (hk : k < 8) : ((List.zipWith Reg.joinL p q).take k ++ p.drop k).set k (Reg.joinL (p.getD k (0, 0, 0)) (q.getD k (0, 0, 0))) = (List.zipWith Reg.joinL p q).take (k + 1) ++ p.drop (k + 1) := by
  have hz : (List.zipWith Reg.joinL p q).length = 8 := by rw [List.length_zipWith, hp, hq]; rfl
  have h1 : ((List.zipWith Reg.joinL p q).take k).length = k := by rw [List.length_take, hz]; omega
  have h2 : p.drop k = p.getD k (0, 0, 0) :: p.drop (k + 1) := by
    rw [List.drop_eq_getElem_cons (by omega), List.getD_eq_getElem?_getD, List.getElem?_eq_getElem (by omega)]
    rfl
  have h3 : (List.zipWith Reg.joinL p q).take (k + 1) = (List.zipWith Reg.joinL p q).take k ++ [Reg.joinL (p.getD k (0, 0, 0)) (q.getD k (0, 0, 0))] := by
    rw [take_snoc _ (by omega), List.getElem_zipWith, List.getD_eq_getElem?_getD, List.getD_eq_getElem?_getD, List.getElem?_eq_getElem (by omega), List.getElem?_eq_getElem (by omega)]
    rfl
  rw [List.set_append_right _ _ (by omega), h1, Nat.sub_self, h2, List.set_cons_zero, h3, List.append_assoc]
  rfl
theorem v3_pc (p : La) : v3 p = .agg (pc p).toArray := rfl
set_option maxHeartbeats 1600000 in
theorem joinPlans_any (b o : Bd) (hs : Bo.Shaped b) (ho : Bo.Shaped o) (s so : Value) (g : Nat) (w0 : World) (kg : Blk w0 g 41 (bc b s)) :
    Calls Tryz.prog 21 #[.pointer (some ⟨g, 0, none⟩), .agg (bc o so)] w0 (TurnB 41 g w0 { b with p := List.zipWith Reg.joinL b.p o.p } s) := by
  have HS := Lib.hid hs
  have HO := Lib.hid ho
  have O24 := Lib.hid (plA_size ho.p)
  clear hs ho
  go_enter Tryz.func21, Tryz.ntmps21
  go_upto_region 1 with fail
  refine nameW ?_
  intro wv hwv
  obtain ⟨g2, hg2⟩ : ∃ g2, g2 = w0.heap.size := ⟨_, rfl⟩
  rw [← hg2]
  have k0 : Blk wv g 41 (bc b s) := by rw [hwv]; exact kg.alloc _
  have k1 : Blk wv g2 41 (bc o so) := by rw [hwv, hg2]; exact Blk.new w0 _ _
  have gg : w0.grownBy wv (some g) := by rw [hwv]; exact new_grows _ _ _
  have hgl : g < w0.heap.size := kg.lt
  have HGL := Lib.hid hgl
  clear hwv hg2 kg hgl
  have hpl : wv.rangeAt g2 16 (plA o.p).toList := k1.plans HO.out
  go_wp2_with first
    | ((with_reducible refine wpList_ldr rowPl hpl O24.out ?_ ?_); rotate_left; (rfl))
  go_loopw [8] (fun i wr => ∃ k : Nat, k ≤ 8 ∧ i = .int .i64 (k : Nat) ∧ Blk wr g 41 (bc { b with p := (List.zipWith Reg.joinL b.p o.p).take k ++ b.p.drop k } s) ∧ w0.grownBy wr (some g)) (fun i _ => 8 - (intOf i).toNat)
  case atStart => exact ⟨0, by omega, rfl, by rw [List.take_zero, List.drop_zero, List.nil_append]; exact k0, gg⟩
  case round =>
    clear k0 k1 gg hpl
    obtain ⟨k, hk, rfl, k0, gg⟩ := hrel
    by_cases hlt : k < 8
    · have hk0 : (0 : Int) ≤ (k : Int) := by omega
      have hk1 : (k : Int) < 8 := by omega
      have hix := fun w' => run_indexP w' o.p HO.out.p k hlt
      have hat := mixP_at HS.out.p HO.out.p hlt
      have hst := mixP_set HS.out.p HO.out.p hlt
      obtain ⟨q, hq⟩ : ∃ q, q = o.p.getD k (0, 0, 0) := ⟨_, rfl⟩
      obtain ⟨p, hp⟩ : ∃ p, p = b.p.getD k (0, 0, 0) := ⟨_, rfl⟩
      rw [← hq] at hix hst
      rw [← hp] at hat hst
      obtain ⟨z, hz⟩ : ∃ z, z = Reg.joinL p q := ⟨_, rfl⟩
      have hc := fun w => join29_any p q w
      rw [← hz] at hst hc
      obtain ⟨x, y, u⟩ := q
      unfold v3 at hix
      simp only at hix
      have HIX := Lib.hid hix
      have HST := Lib.hid hst
      have HC := Lib.hid (show ∀ w, Calls Tryz.prog 60 #[.agg (pc p).toArray, .agg #[.int .i64 x, .int .i64 y, .int .i64 u]] w fun e w' => e = .returned (.agg (pc z).toArray) ∧ Below w.heap.size w w' from hc)
      have hss : Bo.Shaped { b with p := (List.zipWith Reg.joinL b.p o.p).take k ++ b.p.drop k } := ⟨HS.out.t, mixP_len HS.out.p HO.out.p k hk, HS.out.u⟩
      obtain ⟨b0, hb0⟩ : ∃ b0 : Bd, b0 = { b with p := (List.zipWith Reg.joinL b.p o.p).take k ++ b.p.drop k } := ⟨_, rfl⟩
      rw [← hb0] at k0 hss
      have HAT := Lib.hid (show b0.p.getD k (0, 0, 0) = p by rw [hb0]; exact hat)
      have HSB := Lib.hid (show ({ b0 with p := b0.p.set k z } : Bd) = { b with p := (List.zipWith Reg.joinL b.p o.p).take (k + 1) ++ b.p.drop (k + 1) } by rw [hb0]; simp only; rw [hst])
      have HSS := Lib.hid hss
      have SZ := Lib.hid (show (pc z).toArray.size = 3 from rfl)
      have OZ := Lib.hid (show (pc z).toArray.all (·.oneCell') = true from th_one _ _ _)
      have B49 := Lib.hid (bc_size (s := s) hss)
      clear hix hst hq hp hat hc hz hss hb0 HST
      go_upto_region 4 with first
        | ((with_reducible refine wpList_ix (HIX.out _) ?_ ?_ ?_); rotate_left; (rfl); (rfl))
        | ((with_reducible refine wpList_st (cs := #[.int .i64 x, .int .i64 y, .int .i64 u]) rowLa (Blk.new _ _ _) (th_size _ _ _) ?_ (th_one _ _ _) ?_ ?_ ?_); (rfl); rotate_left; (rfl); (rfl); intro w3 kq g3 z3)
      have bq : Below wr.heap.size wr w3 := new_below g3
      have k0 := k0.below bq k0.lt
      have gg := grows_below gg bq
      generalize hX : wr.heap.size = X at kq
      clear g3 z3 bq hX
      refine wp_region_tail 12 (fun L v w => v 5 = .pointer (some ⟨X, 0, none⟩) ∧ v 0 = .pointer (some ⟨g, 0, none⟩) ∧ v 4 = .int .i64 (k : Nat) ∧ Below w3.heap.size w3 w ∧ (L 0 = true → v 12 = .pointer (some ⟨g, 0, none⟩)) ∧ (L 1 = true → v 13 = .int .i64 (k : Nat)) ∧ (L 2 = true → v 14 = .pointer (some ⟨g, 0, none⟩)) ∧ (L 3 = true → v 15 = .int .i64 (k : Nat)) ∧ (L 4 = true → v 16 = .pointer (some ⟨g, 0, none⟩)) ∧ (L 5 = true → v 17 = .pointer (some ⟨g, 16, none⟩)) ∧ (L 6 = true → v 18 = .pointer (some ⟨g, 16 + k * 3, none⟩)) ∧ (L 7 = true → v 19 = .agg (pc p).toArray) ∧ (L 8 = true → v 20 = .agg #[.int .i64 x, .int .i64 y, .int .i64 u]) ∧ (L 9 = true → v 21 = .agg (pc z).toArray) ∧ (L 10 = true → v 22 = .pointer (some ⟨g, 0, none⟩)) ∧ (L 11 = true → v 23 = .pointer (some ⟨g, 16, none⟩))) [12, 13, 14, 15, 16, 17, 18, 19, 20, 21, 22, 23] (by kernel_rfl) (by kernel_rfl) (by kernel_rfl) (by kernel_rfl) (by kernel_rfl) (by kernel_rfl) ?h0 ?hst ?hend
      case h0 =>
        intro L h0
        have h0 : ∀ i, i < 12 → L i = false := h0
        exact ⟨rfl, rfl, rfl, (Below.refl _ _).drew, offF h0 (i := 0) (by decide), offF h0 (i := 1) (by decide), offF h0 (i := 2) (by decide), offF h0 (i := 3) (by decide), offF h0 (i := 4) (by decide), offF h0 (i := 5) (by decide), offF h0 (i := 6) (by decide), offF h0 (i := 7) (by decide), offF h0 (i := 8) (by decide), offF h0 (i := 9) (by decide), offF h0 (i := 10) (by decide), offF h0 (i := 11) (by decide)⟩
      case hst =>
        show FactSteps _ _ _ _ [0, 1, 2, 3, 4, 5, 6, 7, 8, 9, 10, 11]
        refine @FactSteps.cons _ _ _ _ 0 _ [] _ rfl (by kernel_rfl) ?s0 ?_
        rotate_left
        refine @FactSteps.cons _ _ _ _ 1 _ [] _ rfl (by kernel_rfl) ?s1 ?_
        rotate_left
        refine @FactSteps.cons _ _ _ _ 2 _ [] _ rfl (by kernel_rfl) ?s2 ?_
        rotate_left
        refine @FactSteps.cons _ _ _ _ 3 _ [] _ rfl (by kernel_rfl) ?s3 ?_
        rotate_left
        refine @FactSteps.cons _ _ _ _ 4 _ [2] _ rfl (by kernel_rfl) ?s4 ?_
        rotate_left
        refine @FactSteps.cons _ _ _ _ 5 _ [4] _ rfl (by kernel_rfl) ?s5 ?_
        rotate_left
        refine @FactSteps.cons _ _ _ _ 6 _ [5, 3] _ rfl (by kernel_rfl) ?s6 ?_
        rotate_left
        refine @FactSteps.cons _ _ _ _ 7 _ [6] _ rfl (by kernel_rfl) ?s7 ?_
        rotate_left
        refine @FactSteps.cons _ _ _ _ 8 _ [] _ rfl (by kernel_rfl) ?s8 ?_
        rotate_left
        refine @FactSteps.cons _ _ _ _ 9 _ [7, 8] _ rfl (by kernel_rfl) ?s9 ?_
        rotate_left
        refine @FactSteps.cons _ _ _ _ 10 _ [0] _ rfl (by kernel_rfl) ?s10 ?_
        rotate_left
        refine @FactSteps.cons _ _ _ _ 11 _ [10] _ rfl (by kernel_rfl) ?s11 ?_
        rotate_left
        exact FactSteps.nil
        case s0 =>
          rintro L a v w hv hg hL hd hcl ⟨e5, e0, e4, hb, f0, f1, f2, f3, f4, f5, f6, f7, f8, f9, f10, f11⟩ K hK
          refine step_do rfl ?_
          clear hv
          go_simp
          exact hK.out _ _ ⟨e5, e0, e4, hb, fun _ => rfl, f1, f2, f3, f4, f5, f6, f7, f8, f9, f10, f11⟩
        case s1 =>
          rintro L a v w hv hg hL hd hcl ⟨e5, e0, e4, hb, f0, f1, f2, f3, f4, f5, f6, f7, f8, f9, f10, f11⟩ K hK
          refine step_do rfl ?_
          clear hv
          go_simp
          exact hK.out _ _ ⟨e5, e0, e4, hb, f0, fun _ => rfl, f2, f3, f4, f5, f6, f7, f8, f9, f10, f11⟩
        case s2 =>
          rintro L a v w hv hg hL hd hcl ⟨e5, e0, e4, hb, f0, f1, f2, f3, f4, f5, f6, f7, f8, f9, f10, f11⟩ K hK
          refine step_do rfl ?_
          clear hv
          go_simp
          exact hK.out _ _ ⟨e5, e0, e4, hb, f0, f1, fun _ => rfl, f3, f4, f5, f6, f7, f8, f9, f10, f11⟩
        case s3 =>
          rintro L a v w hv hg hL hd hcl ⟨e5, e0, e4, hb, f0, f1, f2, f3, f4, f5, f6, f7, f8, f9, f10, f11⟩ K hK
          refine step_do rfl ?_
          clear hv
          go_simp
          exact hK.out _ _ ⟨e5, e0, e4, hb, f0, f1, f2, fun _ => rfl, f4, f5, f6, f7, f8, f9, f10, f11⟩
        case s4 =>
          rintro L a v w hv hg hL hd hcl ⟨e5, e0, e4, hb, f0, f1, f2, f3, f4, f5, f6, f7, f8, f9, f10, f11⟩ K hK
          have g2 := f2 (hd 2 (by decide))
          refine step_do rfl ?_
          clear hv
          go_simp
          exact hK.out _ _ ⟨e5, e0, e4, hb, f0, f1, f2, f3, fun _ => rfl, f5, f6, f7, f8, f9, f10, f11⟩
        case s5 =>
          rintro L a v w hv hg hL hd hcl ⟨e5, e0, e4, hb, f0, f1, f2, f3, f4, f5, f6, f7, f8, f9, f10, f11⟩ K hK
          have g4 := f4 (hd 4 (by decide))
          refine step_do rfl ?_
          clear hv
          go_simp
          exact hK.out _ _ ⟨e5, e0, e4, hb, f0, f1, f2, f3, f4, fun _ => rfl, f6, f7, f8, f9, f10, f11⟩
        case s6 =>
          rintro L a v w hv hg hL hd hcl ⟨e5, e0, e4, hb, f0, f1, f2, f3, f4, f5, f6, f7, f8, f9, f10, f11⟩ K hK
          have g3 := f3 (hd 3 (by decide))
          have g5 := f5 (hd 5 (by decide))
          refine step_do rfl ?_
          clear hv
          go_simp
          exact hK.out _ _ ⟨e5, e0, e4, hb, f0, f1, f2, f3, f4, f5, fun _ => rfl, f7, f8, f9, f10, f11⟩
        case s7 =>
          rintro L a v w hv hg hL hd hcl ⟨e5, e0, e4, hb, f0, f1, f2, f3, f4, f5, f6, f7, f8, f9, f10, f11⟩ K hK
          have g6 := f6 (hd 6 (by decide))
          refine step_do rfl ?_
          have hpl : w.rangeAt g (16 + k * 3) (pc p).toArray.toList := by have := (k0.below hb k0.lt).plan HSS.out hlt; rw [HAT.out] at this; exact this
          refine wp_ldr rowLa (.tmp 18) rfl ((hv 18).trans g6) hpl rfl ?_
          exact hK.out _ _ ⟨e5, e0, e4, hb, f0, f1, f2, f3, f4, f5, f6, fun _ => rfl, f8, f9, f10, f11⟩
        case s8 =>
          rintro L a v w hv hg hL hd hcl ⟨e5, e0, e4, hb, f0, f1, f2, f3, f4, f5, f6, f7, f8, f9, f10, f11⟩ K hK
          refine step_do rfl ?_
          refine wp_ld rowLa (.tmp 5) rfl ((hv 5).trans e5) (kq.below hb kq.lt) (th_size _ _ _) ?_
          exact hK.out _ _ ⟨e5, e0, e4, hb, f0, f1, f2, f3, f4, f5, f6, f7, fun _ => rfl, f9, f10, f11⟩
        case s9 =>
          rintro L a v w hv hg hL hd hcl ⟨e5, e0, e4, hb, f0, f1, f2, f3, f4, f5, f6, f7, f8, f9, f10, f11⟩ K hK
          have h7 := f7 (hd 7 (by decide))
          have h8 := f8 (hd 8 (by decide))
          refine step_do rfl ?_
          clear hv
          go_simp
          refine (HC.out _).mono ?_
          rintro e wy ⟨rfl, bb⟩
          exact hK.out _ _ ⟨e5, e0, e4, (hb.trans (bb.mono hb.size)), f0, f1, f2, f3, f4, f5, f6, f7, f8, fun _ => rfl, f10, f11⟩
        case s10 =>
          rintro L a v w hv hg hL hd hcl ⟨e5, e0, e4, hb, f0, f1, f2, f3, f4, f5, f6, f7, f8, f9, f10, f11⟩ K hK
          have g0 := f0 (hd 0 (by decide))
          refine step_do rfl ?_
          clear hv
          go_simp
          exact hK.out _ _ ⟨e5, e0, e4, hb, f0, f1, f2, f3, f4, f5, f6, f7, f8, f9, fun _ => rfl, f11⟩
        case s11 =>
          rintro L a v w hv hg hL hd hcl ⟨e5, e0, e4, hb, f0, f1, f2, f3, f4, f5, f6, f7, f8, f9, f10, f11⟩ K hK
          have g10 := f10 (hd 10 (by decide))
          refine step_do rfl ?_
          clear hv
          go_simp
          exact hK.out _ _ ⟨e5, e0, e4, hb, f0, f1, f2, f3, f4, f5, f6, f7, f8, f9, f10, fun _ => rfl⟩
      case hend =>
      rintro L v w4 hall ⟨e5, e0, e4, hb, f0, f1, f2, f3, f4, f5, f6, f7, f8, f9, f10, f11⟩
      have hL : ∀ i, i < 12 → L i = true := hall
      have f0 := f0 (hL 0 (by decide))
      have f1 := f1 (hL 1 (by decide))
      have f2 := f2 (hL 2 (by decide))
      have f3 := f3 (hL 3 (by decide))
      have f4 := f4 (hL 4 (by decide))
      have f5 := f5 (hL 5 (by decide))
      have f6 := f6 (hL 6 (by decide))
      have f7 := f7 (hL 7 (by decide))
      have f8 := f8 (hL 8 (by decide))
      have f9 := f9 (hL 9 (by decide))
      have f10 := f10 (hL 10 (by decide))
      have f11 := f11 (hL 11 (by decide))
      simp only [finA, List.foldl_cons, List.foldl_nil, Act.put, List.setIfInBounds_toArray, List.set_cons_succ, List.set_cons_zero, f0, f1, f2, f3, f4, f5, f6, f7, f8, f10, f11, f9]
      have k0 := k0.below hb k0.lt
      have gg := grows_below gg hb
      have hth := k0.there_ (o := 16 + k * 3) (n := 3) (by rw [B49.out]; omega)
      clear e5 e0 e4 f0 f1 f2 f3 f4 f5 f6 f7 f8 f9 f10 f11 hL hall hb kq HC HIX
      show wpList _ _ _ [_, _] _ _
      go_wp2_with ((with_reducible refine wpList_str rowLa hth SZ.out OZ.out ?_ ?_ ?_); rotate_left; (rfl); (rfl); intro w5 hw5)
      go_roundw
      case rel =>
        have gx := cells_grown w4 g (16 + k * 3) (pc z).toArray.toList
        have kx := k0.setP HSS.out hlt z
        rw [HSB.out] at kx
        exact ⟨k + 1, by omega, by go_num, by first | exact kx | (rw [hw5]; exact kx), by first | exact grows_trans gg gx | (rw [hw5]; exact grows_trans gg gx)⟩
      case measure => simp [intOf]; omega
    · obtain rfl : k = 8 := by omega
      go_wp2_with fail
      go_end0
      refine ⟨rfl, ?_, gg⟩
      have hl : (List.zipWith Reg.joinL b.p o.p).length = 8 := by rw [List.length_zipWith, HS.out.p, HO.out.p]; rfl
      rw [List.take_of_length_le (by omega), List.drop_eq_nil_of_le (by rw [HS.out.p]; exact Nat.le_refl _), List.append_nil] at k0
      exact k0
/-- what each of the three parts makes of it -/
def Bo.stage (x y : Bd) : Nat → Bd
  | 0 => x
  | 1 => { x with t := Tally.joinL x.t y.t }
  | 2 => { x with t := Tally.joinL x.t y.t, p := List.zipWith Reg.joinL x.p y.p }
  | _ => ⟨Tally.joinL x.t y.t, List.zipWith Reg.joinL x.p y.p, Reg.maxU x.u y.u, Reg.meetL x.u y.u x.l y.l⟩
theorem stage_shaped {x y : Bd} (hx : Bo.Shaped x) (hy : Bo.Shaped y) (k : Nat) (hk : k ≤ 2) : Bo.Shaped (Bo.stage x y k) := by
  have h1 := join_len hx.t hy.t
  have h2 : (List.zipWith Reg.joinL x.p y.p).length = 8 := by rw [List.length_zipWith, hx.p, hy.p]; rfl
  obtain rfl | rfl | rfl : k = 0 ∨ k = 1 ∨ k = 2 := by omega
  · exact hx
  · exact ⟨h1, hx.p, hx.u⟩
  · exact ⟨h1, h2, hx.u⟩
theorem run_fn0 (w : World) : (Instr.index 71 (.agg #[.func (.func 20) #[] #[], .func (.func 21) #[] #[], .func (.func 22) #[] #[]]) (.int .i64 0)).run Tryz.prog w = .ok (.func (.func 20) #[] #[]) w := by kernel_rfl
theorem run_fn1 (w : World) : (Instr.index 71 (.agg #[.func (.func 20) #[] #[], .func (.func 21) #[] #[], .func (.func 22) #[] #[]]) (.int .i64 1)).run Tryz.prog w = .ok (.func (.func 21) #[] #[]) w := by kernel_rfl
theorem run_fn2 (w : World) : (Instr.index 71 (.agg #[.func (.func 20) #[] #[], .func (.func 21) #[] #[], .func (.func 22) #[] #[]]) (.int .i64 2)).run Tryz.prog w = .ok (.func (.func 22) #[] #[]) w := by kernel_rfl
theorem boJoin_any (a b : Bd) (ha : Bo.Shaped a) (hb' : Bo.Shaped b) (q q2 : Value) (w0 : World) (hq : FrBo a q w0) (hq2 : FrBo b q2 w0) : Calls Tryz.prog 7 #[q, q2] w0 (GiveBd 84 w0 (Bo.join a b)) := by
  obtain ⟨A, m, c, rfl, hr, hm⟩ := hq
  obtain ⟨A2, m2, c2, rfl, hr2, hm2⟩ := hq2
  obtain ⟨CA, hCA⟩ : ∃ CA, CA = bc a (.slice A m c) := ⟨_, rfl⟩
  obtain ⟨CB, hCB⟩ : ∃ CB, CB = bc b (.slice A2 m2 c2) := ⟨_, rfl⟩
  have hoa := fun (w' : World) (h : Below w0.heap.size w0 w') => boOwn_any a ha (.agg (bc a (.slice A m c))) w' ⟨A, m, c, rfl, (hr.below h).size, hm⟩
  have hob := fun (w' : World) (h : Below w0.heap.size w0 w') => boOwn_any b hb' (.agg (bc b (.slice A2 m2 c2))) w' ⟨A2, m2, c2, rfl, (hr2.below h).size, hm2⟩
  rw [← hCA] at hoa ⊢
  rw [← hCB] at hob ⊢
  have SA := Lib.hid (show CA.size = 49 by rw [hCA]; exact bc_size ha)
  have SB := Lib.hid (show CB.size = 49 by rw [hCB]; exact bc_size hb')
  obtain ⟨x, hx⟩ : ∃ x, x = Bo.own a := ⟨_, rfl⟩
  obtain ⟨y, hy⟩ : ∃ y, y = Bo.own b := ⟨_, rfl⟩
  have HX := Lib.hid (show Bo.Shaped x by rw [hx]; exact Bo.own_shaped ha)
  have HY := Lib.hid (show Bo.Shaped y by rw [hy]; exact Bo.own_shaped hb')
  have RX := Lib.hid (show Bo.rightB x = true by rw [hx]; exact Bo.own_right a)
  have RY := Lib.hid (show Bo.rightB y = true by rw [hy]; exact Bo.own_right b)
  have HJ := Lib.hid (show Bo.join a b = Bo.stage x y 3 by rw [Bo.join_own, ← hx, ← hy, Bo.join_eq RX.out RY.out]; rfl)
  rw [HJ.out]
  rw [← hx] at hoa
  rw [← hy] at hob
  have HOA := Lib.hid hoa
  have HOB := Lib.hid hob
  have z49 := Lib.hid (bc_size (s := .slice none 0 0) Bo.zero_shaped)
  clear hoa hob hCA hCB hx hy hr hr2 hm hm2 ha hb'
  go_enter Tryz.func7, Tryz.ntmps7
  go_upto_region 1 with fail
  refine nameW ?_
  intro wv hwv
  obtain ⟨g, hg⟩ : ∃ g, g = w0.heap.size := ⟨_, rfl⟩
  obtain ⟨g1, hg1⟩ : ∃ g1, g1 = g + 1 := ⟨_, rfl⟩
  obtain ⟨g2, hg2⟩ : ∃ g2, g2 = g1 + 1 := ⟨_, rfl⟩
  have k0 : Blk wv g 41 CA := by rw [hwv, hg]; exact ((Blk.new w0 _ _).alloc _).alloc _
  have k1 : Blk wv g1 41 CB := by
    have h := Blk.new (w0.alloc (.cells CA 41)) 41 CB
    rw [hwv, hg1, hg]
    exact (by simpa using h : Blk _ (w0.heap.size + 1) _ _).alloc _
  have kz : Blk wv g2 41 (bc Bo.zero (.slice none 0 0)) := by
    have h := Blk.new ((w0.alloc (.cells CA 41)).alloc (.cells CB 41)) 41 (bc Bo.zero (.slice none 0 0))
    rw [zbo] at h ⊢
    rw [hwv, hg2, hg1, hg]
    simpa using h
  have gb : Below w0.heap.size w0 wv := by rw [hwv]; exact (((Below.refl _ _).alloc (Nat.le_refl _) _).alloc (by simp) _).alloc (by simp; omega) _
  rw [← hg, ← hg1, ← hg2]
  have HG := Lib.hid hg
  have HN := Lib.hid (show g ≠ g1 ∧ g ≠ g2 ∧ g1 ≠ g2 ∧ w0.heap.size ≤ g ∧ w0.heap.size ≤ g1 ∧ w0.heap.size ≤ g2 by omega)
  clear hwv hg hg1 hg2
  refine wp_region_tail 4 (fun L v w => v 2 = .pointer (some ⟨g, 0, none⟩) ∧ v 3 = .pointer (some ⟨g1, 0, none⟩) ∧ Below wv.heap.size wv w ∧ (L 0 = true → v 7 = .agg CA) ∧ (L 1 = true → FoBo 84 x (v 8) w) ∧ (L 2 = true → v 9 = .agg CB) ∧ (L 3 = true → FoBo 84 y (v 10) w)) [7, 8, 9, 10] (by kernel_rfl) (by kernel_rfl) (by kernel_rfl) (by kernel_rfl) (by kernel_rfl) (by kernel_rfl) ?h0 ?hst ?hend
  case h0 =>
    intro L h0
    have h0 : ∀ i, i < 4 → L i = false := h0
    exact ⟨rfl, rfl, (Below.refl _ _).drew, offF h0 (i := 0) (by decide), offF h0 (i := 1) (by decide), offF h0 (i := 2) (by decide), offF h0 (i := 3) (by decide)⟩
  case hst =>
    show FactSteps _ _ _ _ [0, 1, 2, 3]
    refine @FactSteps.cons _ _ _ _ 0 _ [] _ rfl (by kernel_rfl) ?s0 ?_
    rotate_left
    refine @FactSteps.cons _ _ _ _ 1 _ [0] _ rfl (by kernel_rfl) ?s1 ?_
    rotate_left
    refine @FactSteps.cons _ _ _ _ 2 _ [] _ rfl (by kernel_rfl) ?s2 ?_
    rotate_left
    refine @FactSteps.cons _ _ _ _ 3 _ [2, 1] _ rfl (by kernel_rfl) ?s3 ?_
    rotate_left
    exact FactSteps.nil
    case s0 =>
      rintro L a v w hv hg hL hd hcl ⟨e2, e3, hb, f0, f1, f2, f3⟩ K hK
      refine step_do rfl ?_
      refine wp_ld rowBo (.tmp 2) rfl ((hv 2).trans e2) (k0.below hb k0.lt) SA.out ?_
      exact hK.out _ _ ⟨e2, e3, hb, fun _ => rfl, f1, f2, f3⟩
    case s1 =>
      rintro L a v w hv hg hL hd hcl ⟨e2, e3, hb, f0, f1, f2, f3⟩ K hK
      have h0 := f0 (hd 0 (by decide))
      refine step_do rfl ?_
      clear hv
      go_simp
      refine (HOA.out w (gb.trans (hb.mono gb.size))).mono ?_
      rintro e wy ⟨q, rfl, hq, bb⟩
      exact hK.out _ _ ⟨e2, e3, (hb.trans (bb.mono hb.size)), f0, fun _ => hq, f2, (fun h => (f3 h).below bb)⟩
    case s2 =>
      rintro L a v w hv hg hL hd hcl ⟨e2, e3, hb, f0, f1, f2, f3⟩ K hK
      refine step_do rfl ?_
      refine wp_ld rowBo (.tmp 3) rfl ((hv 3).trans e3) (k1.below hb k1.lt) SB.out ?_
      exact hK.out _ _ ⟨e2, e3, hb, f0, f1, fun _ => rfl, f3⟩
    case s3 =>
      rintro L a v w hv hg hL hd hcl ⟨e2, e3, hb, f0, f1, f2, f3⟩ K hK
      have h2 := f2 (hd 2 (by decide))
      refine step_do rfl ?_
      clear hv
      go_simp
      refine (HOB.out w (gb.trans (hb.mono gb.size))).mono ?_
      rintro e wy ⟨q, rfl, hq, bb⟩
      exact hK.out _ _ ⟨e2, e3, (hb.trans (bb.mono hb.size)), f0, (fun h => (f1 h).below bb), f2, fun _ => hq⟩
  case hend =>
  rintro L v w1 hall ⟨e2, e3, hb, f0, f1, f2, f3⟩
  have hL : ∀ i, i < 4 → L i = true := hall
  have f0 := f0 (hL 0 (by decide))
  have f1 := f1 (hL 1 (by decide))
  have f2 := f2 (hL 2 (by decide))
  have f3 := f3 (hL 3 (by decide))
  obtain ⟨A, m, c, e8, o8, m8⟩ := f1
  obtain ⟨A2, m2, c2, e10, o10, m10⟩ := f3
  simp only [finA, List.foldl_cons, List.foldl_nil, Act.put, List.setIfInBounds_toArray, List.set_cons_succ, List.set_cons_zero, f0, f2, e8, e10]
  have k0 := k0.below hb k0.lt
  have k1 := k1.below hb k1.lt
  have kz := kz.below hb kz.lt
  have gb := gb.trans (hb.mono gb.size)
  have X49 := Lib.hid (bc_size (s := .slice A m c) HX.out)
  have X1 := Lib.hid (bc_one (b := x) (s := .slice A m c) rfl)
  have Y49 := Lib.hid (bc_size (s := .slice A2 m2 c2) HY.out)
  have Y1 := Lib.hid (bc_one (b := y) (s := .slice A2 m2 c2) rfl)
  have M8 := Lib.hid m8
  have M10 := Lib.hid m10
  clear e2 e3 f0 f2 hL hall e8 e10 hb m8 m10
  have ⟨n1, n2, n3, l0, l1, l2⟩ := HN.out
  have e8g := own_ne o8.2 k0 (by decide)
  have e8h := own_ne o8.2 k1 (by decide)
  have e10g := own_ne o10.2 k0 (by decide)
  have e10h := own_ne o10.2 k1 (by decide)
  show wpList _ _ _ [_, _] _ _
  go_upto_region 2 with first
    | ((with_reducible refine wpList_st rowBo k0 X49.out SA.out X1.out ?_ ?_ ?_); rotate_left; (rfl); (rfl); intro w2 k0 ga gaz; have k1 := k1.grown ga (fun h => by injection h; omega))
    | ((with_reducible refine wpList_st rowBo k1 Y49.out SB.out Y1.out ?_ ?_ ?_); rotate_left; (rfl); (rfl); intro w3 k1 gc gcz)
  have k0 := k0.grown gc (fun h => by injection h; omega)
  have kz := (kz.grown ga (fun h => by injection h; omega)).grown gc (fun h => by injection h; omega)
  have o8 := (o8.grown ga (.inr e8g)).grown gc (.inr e8h)
  have o10 := (o10.grown ga (.inr e10g)).grown gc (.inr e10h)
  have gb := (gb.grown ga gb.size (fun q hq => by injection hq; omega)).grown gc (by have := gb.size; have := ga.size; omega) (fun q hq => by injection hq; omega)
  clear e8g e8h e10g e10h ga gc gaz gcz
  go_wp2_with fail
  go_loopw [12] (fun i wr => ∃ (k : Nat) (A m c : _), k ≤ 3 ∧ i = .int .i64 (k : Nat) ∧ Blk wr g 41 (bc (Bo.stage x y k) (.slice A m c)) ∧ OwnV 84 wr 0 A m c (Bo.stage x y k).l ∧ m ≤ 100000 ∧ Blk wr g1 41 (bc y (.slice A2 m2 c2)) ∧ OwnV 84 wr 0 A2 m2 c2 y.l ∧ Blk wr g2 41 (bc Bo.zero (.slice none 0 0)) ∧ Below w0.heap.size w0 wr) (fun i _ => 3 - (intOf i).toNat)
  case atStart => exact ⟨0, A, m, c, by omega, rfl, k0, o8, M8.out, k1, o10, kz, gb⟩
  case round =>
    clear k0 o8 k1 o10 kz gb
    obtain ⟨k, A, m, c, hk, rfl, k0, o8, hm, k1, o10, kz, gb⟩ := hrel
    have HM := Lib.hid hm
    clear hm
    by_cases hlt : k < 3
    · obtain rfl | rfl | rfl : k = 0 ∨ k = 1 ∨ k = 2 := by omega
      · have HC := Lib.hid fun (w : World) (h : Blk w g 41 (bc x (.slice A m c))) => joinWrites_any x y HX.out HY.out (.slice A m c) (.slice A2 m2 c2) g w h
        go_wp2_with first
          | ((with_reducible refine wpList_ix (run_fn0 _) ?_ ?_ ?_); rotate_left; (rfl); (rfl))
          | ((with_reducible refine wpList_ld rowBo k1 Y49.out ?_ ?_); rotate_left; (rfl))
        refine (HC.out _ k0).mono ?_
        rintro e w4 ⟨rfl, kx, gx⟩
        have ⟨n1, n2, n3, l0, l1, l2⟩ := HN.out
        have k1x := k1.grown gx (fun h => by injection h; omega)
        have kzx := kz.grown gx (fun h => by injection h; omega)
        have o10x := o10.grown gx (.inr (own_ne o10.2 k0 (by decide)))
        have gbx := gb.grown gx gb.size (fun q hq => by injection hq; omega)
        have o8x := o8.grown gx (.inr (own_ne o8.2 k0 (by decide)))
        have HH := Lib.hid (And.intro kx (And.intro o8x (And.intro k1x (And.intro o10x (And.intro kzx gbx)))))
        clear kx gx k1x kzx o10x gbx o8x k0 o8 k1 o10 kz gb HC
        go_wp2_with fail
        go_roundw
        case rel => exact ⟨1, A, m, c, by omega, by go_num, HH.out.1, HH.out.2.1, HM.out, HH.out.2.2.1, HH.out.2.2.2.1, HH.out.2.2.2.2.1, HH.out.2.2.2.2.2⟩
        case measure => simp [intOf]
      · have HC := Lib.hid fun (w : World) (h : Blk w g 41 (bc (Bo.stage x y 1) (.slice A m c))) => joinPlans_any (Bo.stage x y 1) y (stage_shaped HX.out HY.out 1 (by omega)) HY.out (.slice A m c) (.slice A2 m2 c2) g w h
        go_wp2_with first
          | ((with_reducible refine wpList_ix (run_fn1 _) ?_ ?_ ?_); rotate_left; (rfl); (rfl))
          | ((with_reducible refine wpList_ld rowBo k1 Y49.out ?_ ?_); rotate_left; (rfl))
        refine (HC.out _ k0).mono ?_
        rintro e w4 ⟨rfl, kx, gx⟩
        have ⟨n1, n2, n3, l0, l1, l2⟩ := HN.out
        have k1x := k1.grown gx (fun h => by injection h; omega)
        have kzx := kz.grown gx (fun h => by injection h; omega)
        have o10x := o10.grown gx (.inr (own_ne o10.2 k0 (by decide)))
        have gbx := gb.grown gx gb.size (fun q hq => by injection hq; omega)
        have o8x := o8.grown gx (.inr (own_ne o8.2 k0 (by decide)))
        have HH := Lib.hid (And.intro kx (And.intro o8x (And.intro k1x (And.intro o10x (And.intro kzx gbx)))))
        clear kx gx k1x kzx o10x gbx o8x k0 o8 k1 o10 kz gb HC
        go_wp2_with fail
        go_roundw
        case rel => exact ⟨2, A, m, c, by omega, by go_num, HH.out.1, HH.out.2.1, HM.out, HH.out.2.2.1, HH.out.2.2.2.1, HH.out.2.2.2.2.1, HH.out.2.2.2.2.2⟩
        case measure => simp [intOf]
      · have RN := Lib.hid (show Reg.rightM (Bo.stage x y 2).u (Bo.stage x y 2).l = true from ((Bo.right_iff x).1 RX.out).2.2.2)
        have RN2 := Lib.hid (show Reg.rightM y.u y.l = true from ((Bo.right_iff y).1 RY.out).2.2.2)
        have HC := Lib.hid fun (w : World) (h : Blk w g 41 (bc (Bo.stage x y 2) (.slice A m c))) (h1 : RdV w w.heap.size A m (Bo.stage x y 2).l) (h2 : RdV w w.heap.size A2 m2 y.l) => joinNotes_any (Bo.stage x y 2) y (stage_shaped HX.out HY.out 2 (by omega)) HY.out RN.out RN2.out A A2 m c m2 c2 g w h h1 h2 HM.out M10.out
        go_wp2_with first
          | ((with_reducible refine wpList_ix (run_fn2 _) ?_ ?_ ?_); rotate_left; (rfl); (rfl))
          | ((with_reducible refine wpList_ld rowBo k1 Y49.out ?_ ?_); rotate_left; (rfl))
        refine (HC.out _ k0 o8.rd o10.rd).mono ?_
        rintro e w4 ⟨A3, m3, c3, ⟨rfl, kx, gx⟩, o3, hm3⟩
        have ⟨n1, n2, n3, l0, l1, l2⟩ := HN.out
        have k1x := k1.grown gx (fun h => by injection h; omega)
        have kzx := kz.grown gx (fun h => by injection h; omega)
        have o10x := o10.grown gx (.inr (own_ne o10.2 k0 (by decide)))
        have gbx := gb.grown gx gb.size (fun q hq => by injection hq; omega)
        have o8x := o3
        have HH := Lib.hid (And.intro kx (And.intro o8x (And.intro k1x (And.intro o10x (And.intro kzx gbx)))))
        clear kx gx k1x kzx o10x gbx o8x k0 o8 k1 o10 kz gb HC
        go_wp2_with fail
        go_roundw
        case rel => exact ⟨3, A3, m3, c3, by omega, by go_num, HH.out.1, HH.out.2.1, hm3, HH.out.2.2.1, HH.out.2.2.2.1, HH.out.2.2.2.2.1, HH.out.2.2.2.2.2⟩
        case measure => simp [intOf]
    · obtain rfl : k = 3 := by omega
      have hs3 : Bo.Shaped (Bo.stage x y 3) := by
        have h1 := join_len HX.out.t HY.out.t
        have h2 : (List.zipWith Reg.joinL x.p y.p).length = 8 := by rw [List.length_zipWith, HX.out.p, HY.out.p]; rfl
        exact ⟨h1, h2, Reg.maxU_len _ _⟩
      obtain ⟨b3, hb3⟩ : ∃ b3, b3 = Bo.stage x y 3 := ⟨_, rfl⟩
      rw [← hb3] at k0 o8 hs3 ⊢
      have B49 := Lib.hid (bc_size (s := .slice A m c) hs3)
      have B1 := Lib.hid (bc_one (b := b3) (s := .slice A m c) rfl)
      have HB3 := Lib.hid hb3
      clear hs3 hb3
      have ⟨n1, n2, n3, l0, l1, l2⟩ := HN.out
      go_wp2_with first
        | ((with_reducible refine wpList_ld rowBo k0 B49.out ?_ ?_); rotate_left; (rfl))
        | ((with_reducible refine wpList_st rowBo kz B49.out z49.out B1.out ?_ ?_ ?_); rotate_left; (rfl); (rfl); intro w5 k5 g5 z5)
      exact bodyPost_ret (v := .agg (bc b3 (.slice A m c))) (results_blk rfl rowBo k5 B49.out rfl) rfl ⟨_, rfl, (by rw [← HB3.out]; exact ⟨A, m, c, rfl, o8.grown g5 (.inr (own_ne o8.2 kz (by decide))), HM.out⟩), gb.grown g5 gb.size (fun q hq => by injection hq; omega)⟩
end Go.Proofs.YtocoohpekpkmkaaGreat

/- The walk of the document's Right of boards. -/
namespace Go.Proofs.YtocoohpekpkmkaaGreat
set_option linter.unusedVariables false
set_option linter.unusedSimpArgs false
set_option maxRecDepth 100000
open Go.RowKit
open Reg (La Vl)
theorem planB_cases (x y z : Int) : (Bo.planB (x, y, z) = true ∧ ((x = 0 ∧ y = 0 ∧ z = 0) ∨ (¬ x = 0 ∧ ¬ x < 1 ∧ ¬ 1099511627776 < x ∧ ¬ y < 0 ∧ ¬ 7 < y ∧ ¬ z < 0 ∧ ¬ 1000 < z))) ∨
    (Bo.planB (x, y, z) = false ∧ (¬ x = 0 ∨ (x = 0 ∧ ¬ y = 0) ∨ (x = 0 ∧ y = 0 ∧ ¬ z = 0)) ∧
      (x < 1 ∨ (¬ x < 1 ∧ 1099511627776 < x) ∨ (¬ x < 1 ∧ ¬ 1099511627776 < x ∧ y < 0) ∨ (¬ x < 1 ∧ ¬ 1099511627776 < x ∧ ¬ y < 0 ∧ 7 < y) ∨ (¬ x < 1 ∧ ¬ 1099511627776 < x ∧ ¬ y < 0 ∧ ¬ 7 < y ∧ z < 0) ∨ (¬ x < 1 ∧ ¬ 1099511627776 < x ∧ ¬ y < 0 ∧ ¬ 7 < y ∧ ¬ z < 0 ∧ 1000 < z))) := by
  cases h : Bo.planB (x, y, z) with
  | true =>
    refine .inl ⟨rfl, ?_⟩
    rcases (Bo.planB_iff _).1 h with e | e
    · injection e with e1 e2
      injection e2 with e2 e3
      exact .inl ⟨e1, e2, e3⟩
    · simp only at e
      exact .inr (by omega)
  | false =>
    refine .inr ⟨rfl, ?_⟩
    have hn : ¬ (((x, y, z) : La) = (0, 0, 0) ∨ ((1 ≤ x ∧ x ≤ 1099511627776) ∧ (0 ≤ y ∧ y ≤ 7) ∧ 0 ≤ z ∧ z ≤ 1000)) := fun e => by
      rw [(Bo.planB_iff (x, y, z)).2 e] at h
      cases h
    have h1 : ¬ (x = 0 ∧ y = 0 ∧ z = 0) := fun e => hn (.inl (by rw [e.1, e.2.1, e.2.2]))
    have h2 : ¬ ((1 ≤ x ∧ x ≤ 1099511627776) ∧ (0 ≤ y ∧ y ≤ 7) ∧ 0 ≤ z ∧ z ≤ 1000) := fun e => hn (.inr e)
    clear hn h
    constructor
    · omega
    · omega
theorem all_take_bad {α : Type} {f : α → Bool} {l : List α} {k : Nat} {x : α} (hx : l[k]? = some x) (hf : f x = false) : l.all f = false := by
  rw [List.all_eq_false]
  exact ⟨x, List.mem_of_getElem? hx, by simp [hf]⟩
theorem all_of_at {α : Type} {f : α → Bool} {l : List α} (h : ∀ (j : Nat) (x : α), l[j]? = some x → f x = true) : l.all f = true := by
  rw [List.all_eq_true]
  intro x hx
  obtain ⟨j, hj, e⟩ := List.getElem_of_mem hx
  exact h j x (by rw [List.getElem?_eq_getElem hj, e])
set_option maxHeartbeats 1600000 in
theorem brright_any (b : Bd) (hs : Bo.Shaped b) (q : Value) (w : World) (hq : FrBo b q w) : Calls Tryz.prog 62 #[q] w (GiveBo w (Bo.rightB b)) := by
  obtain ⟨A, m, c, rfl, hr, hm⟩ := hq
  obtain ⟨R, hR⟩ : ∃ R, R = Bo.rightB b := ⟨_, rfl⟩
  rw [← hR]
  have HR := Lib.hid hR
  have HS := Lib.hid hs
  have HRV := Lib.hid fun (w' : World) (hb : Below w.heap.size w w') => hr.below hb
  have HM := Lib.hid hm
  have HN := Lib.hid hr.1
  have S24 := Lib.hid (plA_size hs.p)
  have BADP := Lib.hid (fun (k : Nat) (q : La) (hk : b.p[k]? = some q) (h : Bo.planB q = false) => (show R = false by rw [hR]; unfold Bo.rightB; rw [all_take_bad hk h]; rfl))
  clear hR hr hm hs
  go_enter Tryz.func62, Tryz.ntmps62
  go_upto_region 1 with fail
  refine nameW ?_
  intro wv hwv
  obtain ⟨g, hg⟩ : ∃ g, g = w.heap.size := ⟨_, rfl⟩
  rw [← hg]
  have k0 : Blk wv g 32 (bc b (.slice A m c)) := by rw [hwv, hg]; exact Blk.new w _ _
  have gb : Below w.heap.size w wv := by rw [hwv]; exact (Below.refl _ _).alloc (Nat.le_refl _) _
  have HG := Lib.hid hg
  clear hwv hg
  have hpl : wv.rangeAt g 16 (plA b.p).toList := k0.plans HS.out
  go_wp2_with ((with_reducible refine wpList_ldr rowRPl hpl S24.out ?_ ?_); rotate_left; (rfl))
  go_loopw [9] (fun i wr => ∃ k : Nat, k ≤ 8 ∧ i = .int .i64 (k : Nat) ∧ (∀ j x, j < k → b.p[j]? = some x → Bo.planB x = true) ∧ Blk wr g 32 (bc b (.slice A m c)) ∧ Below w.heap.size w wr) (fun i _ => 8 - (intOf i).toNat)
  case atStart => exact ⟨0, by omega, rfl, fun j x h => by omega, k0, gb⟩
  case round =>
    clear k0 gb hpl
    obtain ⟨k, hk, rfl, hall, k0, gb⟩ := hrel
    have HALL := Lib.hid hall
    clear hall
    by_cases hlt : k < 8
    · have hix := fun w' => run_indexRP w' b.p HS.out.p k hlt
      have hk1 : (k : Int) < 8 := by omega
      obtain ⟨q, hq⟩ : ∃ q, q = b.p.getD k (0, 0, 0) := ⟨_, rfl⟩
      have hget : b.p[k]? = some q := by rw [hq, List.getD_eq_getElem?_getD, List.getElem?_eq_getElem (by rw [HS.out.p]; exact hlt)]; rfl
      rw [← hq] at hix
      obtain ⟨x, y, z⟩ := q
      unfold v3 at hix
      simp only at hix
      have HIX := Lib.hid hix
      have HGET := Lib.hid hget
      have hpc := planB_cases x y z
      clear hix hq hget
      go_upto_region 4 with first
        | ((with_reducible refine wpList_ix (HIX.out _) ?_ ?_ ?_); rotate_left; (rfl); (rfl))
        | ((with_reducible refine wpList_st (cs := #[.int .i64 x, .int .i64 y, .int .i64 z]) rowRLa (Blk.new _ _ _) (th_size _ _ _) ?_ (th_one _ _ _) ?_ ?_ ?_); (rfl); rotate_left; (rfl); (rfl); intro w3 kq g3 z3)
      have bq : Below wr.heap.size wr w3 := new_below g3
      have k0 := k0.below bq k0.lt
      have gb := gb.trans (bq.mono gb.size)
      have q0 := kq.cell 0
      have q1 := kq.cell 1
      have q2 := kq.cell 2
      clear g3 z3 bq HIX
      rcases hpc with ⟨hp, hc⟩ | ⟨hp, hc, hd⟩
      · have HP := Lib.hid hp
        clear hp
        rcases hc with ⟨rfl, rfl, rfl⟩ | ⟨hx, h1, h2, h3, h4, h5, h6⟩
        all_goals
          go_wp2_with ((with_reducible refine wpList_ld rowRLa kq (th_size _ _ _) ?_ ?_); rotate_left; (rfl))
          go_roundw
          case rel => exact ⟨k + 1, by omega, by go_num, fun j v hj hv => by
            by_cases e : j = k
            · subst e; rw [HGET.out] at hv; injection hv with hv; subst hv; exact HP.out
            · exact HALL.out j v (by omega) hv, k0, gb⟩
          case measure => simp [intOf]; omega
      · have hr0 := BADP.out k _ HGET.out hp
        clear hp
        subst hr0
        rcases hc with hx | ⟨rfl, hx⟩ | ⟨rfl, rfl, hx⟩
        all_goals
          rcases hd with h1 | ⟨h1, h2⟩ | ⟨h1, h2, h3⟩ | ⟨h1, h2, h3, h4⟩ | ⟨h1, h2, h3, h4, h5⟩ | ⟨h1, h2, h3, h4, h5, h6⟩
        all_goals
          first
            | (exfalso; omega)
            | (go_wp2_with ((with_reducible refine wpList_ld rowRLa kq (th_size _ _ _) ?_ ?_); rotate_left; (rfl))
               go_ret
               exact ⟨rfl, gb⟩)
    · obtain rfl : k = 8 := by omega
      have hP : b.p.all Bo.planB = true := all_of_at fun j x hj => HALL.out j x (by have := (List.getElem?_eq_some_iff.1 hj).1; rw [HS.out.p] at this; exact this) hj
      obtain ⟨r3, hr3⟩ : ∃ r3, r3 = Tally.rightB b.t := ⟨_, rfl⟩
      obtain ⟨r4, hr4⟩ : ∃ r4, r4 = Reg.rightM b.u b.l := ⟨_, rfl⟩
      have HRR := Lib.hid (show R = ((b.l.all fun v => decide (0 ≤ v.2.2)) && r3 && r4) by rw [HR.out, hr3, hr4]; unfold Bo.rightB; rw [hP]; rfl)
      have HC3 := Lib.hid fun (w' : World) => (hr3 ▸ rright_any b.t w' HS.out.t : Calls Tryz.prog _ _ w' fun e w'' => e = .returned (.bool r3) ∧ Below w'.heap.size w' w'')
      have HC4 := Lib.hid fun (w' : World) (hb : Below w.heap.size w w') => (hr4 ▸ rright29_any b.u HS.out.u A m c b.l w' (HRV.out w' hb).size HM.out : Calls Tryz.prog _ _ w' fun e w'' => e = .returned (.bool r4) ∧ Below w'.heap.size w' w'')
      have c48 : wr.cell? ⟨g, 48, none⟩ = some (.slice A m c) := (k0.cell 48).trans (bc_last HS.out)
      have HT := Lib.hid (show (tc b.t).size = 16 by rw [tc_size, HS.out.t])
      have HU := Lib.hid (uc_size HS.out.u (.slice A m c))
      clear hP hr3 hr4 hk hlt HALL HR BADP
      go_wp2_with fail
      go_loopw [50] (fun i wq => ∃ k : Nat, k ≤ m ∧ i = .int .i64 (k : Nat) ∧ (∀ j x, j < k → b.l[j]? = some x → decide (0 ≤ x.2.2) = true) ∧ Blk wq g 32 (bc b (.slice A m c)) ∧ Below w.heap.size w wq) (fun i _ => m - (intOf i).toNat)
      case atStart => exact ⟨0, by omega, rfl, fun j x h => by omega, k0, gb⟩
      case round =>
        clear k0 gb c48
        obtain ⟨k, hk, rfl, hall, k0, gb⟩ := hrel
        have HALL := Lib.hid hall
        clear hall
        by_cases hlt : k < m
        · have hkl : k < b.l.length := by rw [← HN.out]; exact hlt
          obtain ⟨ad, hA, q5, q0, q1, q2⟩ := (HRV.out _ gb).2 k _ (List.getElem?_eq_getElem hkl)
          have hpk : b.l[k]? = some b.l[k] := List.getElem?_eq_getElem hkl
          have hk0 : (0 : Int) ≤ (k : Int) := by omega
          have hkn : (k : Int) < (m : Int) := by omega
          have hmb := HM.out
          generalize b.l[k] = d at *
          obtain ⟨x, y, z⟩ := d
          simp only at q0 q1 q2
          subst hA
          have HPK := Lib.hid hpk
          clear hpk
          by_cases hz : z < 0
          · have hr0 : R = false := by rw [HRR.out, all_take_bad HPK.out (decide_eq_false (by show ¬ 0 ≤ z; omega))]; rfl
            subst hr0
            go_wp2_with fail
            go_ret
            exact ⟨rfl, gb.alloc gb.size _⟩
          · have k1 := k0.alloc (.cells #[.int .i64 x, .int .i64 y, .int .i64 z] 121)
            have gb1 := gb.alloc gb.size (.cells #[.int .i64 x, .int .i64 y, .int .i64 z] 121)
            go_wp2_with fail
            go_roundw
            case rel => exact ⟨k + 1, by omega, by go_num, fun j v hj hv => by
              by_cases e : j = k
              · subst e; rw [HPK.out] at hv; injection hv with hv; subst hv; exact decide_eq_true (by show 0 ≤ z; omega)
              · exact HALL.out j v (by omega) hv, k1, gb1⟩
            case measure => simp [intOf]; omega
        · obtain rfl : k = m := by omega
          have hP : (b.l.all fun v => decide (0 ≤ v.2.2)) = true := all_of_at fun j x hj => HALL.out j x (by have := (List.getElem?_eq_some_iff.1 hj).1; rw [← HN.out] at this; exact this) hj
          have HR2 := Lib.hid (show R = (r3 && r4) by rw [HRR.out, hP]; rfl)
          clear hP
          go_wp2_with ((with_reducible refine wpList_ldr rowRT (k0.tal HS.out) HT.out ?_ ?_); rotate_left; (rfl))
          refine (HC3.out _).mono ?_
          rintro e w5 ⟨rfl, b5⟩
          have k0 := k0.below b5 k0.lt
          have gb := gb.trans (b5.mono gb.size)
          clear b5
          cases r3
          case false =>
            have hr0 : R = false := by rw [HR2.out]; rfl
            subst hr0
            go_wp2_with fail
            go_ret
            exact ⟨rfl, gb⟩
          case true =>
            have hr0 : R = r4 := by rw [HR2.out]; simp
            subst hr0
            go_wp2_with ((with_reducible refine wpList_ldrg rowRM (k0.notes HS.out) HU.out ?_ ?_ ?_); rotate_left; (rfl); (rfl))
            refine (HC4.out _ gb).mono ?_
            rintro e w6 ⟨rfl, b6⟩
            have gb := gb.trans (b6.mono gb.size)
            clear b6
            go_wp2_with fail
            go_ret
            exact ⟨rfl, gb⟩
end Go.Proofs.YtocoohpekpkmkaaGreat

/- The walks of the document's own and Join of boards. -/
namespace Go.Proofs.YtocoohpekpkmkaaGreat
set_option linter.unusedVariables false
set_option linter.unusedSimpArgs false
set_option maxRecDepth 100000
open Go.RowKit
open Reg (La Vl)
def GiveHo (B : Nat) (w : World) (b : Bd) (e : Ending) (w' : World) : Prop := ∃ q, e = .returned q ∧ HoldBo B b q w' ∧ Below w.heap.size w w'
def GiveFr (w : World) (b : Bd) (e : Ending) (w' : World) : Prop := ∃ q, e = .returned q ∧ FrBo b q w' ∧ Below w.heap.size w w'
set_option maxHeartbeats 1600000 in
theorem brown_any (B : Nat) (b : Bd) (hs : Bo.Shaped b) (q : Value) (w : World) (hB : B ≤ w.heap.size) (hq : HoldBo B b q w) : Calls Tryz.prog 26 #[q] w (GiveHo B w (Bo.own b)) := by
  have hfr := hq.fresh
  obtain ⟨A, m, c, rfl, hr, hm⟩ := hq
  obtain ⟨R, hR⟩ : ∃ R, R = Bo.rightB b := ⟨_, rfl⟩
  have hown : Bo.own b = if R then b else Bo.zero := by rw [hR]; rfl
  obtain ⟨O, hO⟩ : ∃ O, O = Bo.own b := ⟨_, rfl⟩
  rw [← hO] at hown ⊢
  have HOW := Lib.hid (fun (h : R = false) => (show O = Bo.zero by rw [hown, h]; rfl))
  have HOW2 := Lib.hid (fun (h : R = true) => (show O = b by rw [hown, h]; rfl))
  clear hown hO
  have HRT := Lib.hid fun (w' : World) (hb : Below w.heap.size w w') => (hR ▸ brright_any b hs (.agg (bc b (.slice A m c))) w' (hfr.below hb) : Calls Tryz.prog _ _ w' (GiveBo w' R))
  have HRV := Lib.hid fun (w' : World) (hb : Below w.heap.size w w') => hr.below (hb.mono hB)
  have h49 := Lib.hid (bc_size (s := .slice A m c) hs)
  have h1 := Lib.hid (bc_one (b := b) (s := .slice A m c) rfl)
  have z49 := Lib.hid (bc_size (s := .slice none 0 0) Bo.zero_shaped)
  have o49 := Lib.hid (bc_one (b := Bo.zero) (s := .slice none 0 0) rfl)
  have HBD := Lib.hid fun (w : World) => (show (Instr.build 32 #[]).run Tryz.prog w = .ok (.agg (bc Bo.zero (.slice none 0 0))) w by kernel_rfl)
  have HM := Lib.hid hm
  clear hR hr hm hs hfr
  go_enter Tryz.func26, Tryz.ntmps26
  go_upto_region 1 with fail
  refine nameW ?_
  intro wv hwv
  obtain ⟨g, hg⟩ : ∃ g, g = w.heap.size := ⟨_, rfl⟩
  rw [← hg]
  have k0 : Blk wv g 32 (bc b (.slice A m c)) := by rw [hwv, hg]; exact (Blk.new w _ _).alloc _
  have kz : Blk wv (g + 1) 32 (bc Bo.zero (.slice none 0 0)) := by
    have h := Blk.new (w.alloc (.cells (bc b (.slice A m c)) 32)) 32 (bc Bo.zero (.slice none 0 0))
    rw [zbo] at h ⊢
    rw [hwv, hg]
    simpa using h
  have gb : Below w.heap.size w wv := by rw [hwv]; exact ((Below.refl _ _).alloc (Nat.le_refl _) _).alloc (by simp) _
  have HG := Lib.hid hg
  clear hwv hg
  go_wp2_with ((with_reducible refine wpList_ld rowRBo k0 h49.out ?_ ?_); rotate_left; (rfl))
  refine (HRT.out wv gb).mono ?_
  rintro e w1 ⟨rfl, b1⟩
  have k0 := k0.below b1 k0.lt
  have kz := kz.below b1 kz.lt
  have gb := gb.trans (b1.mono gb.size)
  clear b1 HRT
  cases R
  case false =>
    obtain rfl := HOW.out rfl
    go_wp2_with first
      | ((refine wpList_bdV (v := .agg (bc Bo.zero (.slice none 0 0))) (w' := _) rfl 32 #[] rfl ?_ ?_); (simp only [List.map_toArray, List.map_nil]; exact HBD.out _))
      | ((with_reducible refine wpList_st rowRBo kz z49.out z49.out o49.out ?_ ?_ ?_); rotate_left; (rfl); (rfl); intro w5 k5 g5 z5)
    exact bodyPost_ret (v := .agg (bc Bo.zero (.slice none 0 0))) (results_blk rfl rowRBo k5 z49.out rfl) rfl ⟨_, rfl, ⟨none, 0, 0, rfl, RdV.nil _ _ _, by omega⟩, gb.grown g5 gb.size (fun q hq => by injection hq; have := HG.out; omega)⟩
  case true =>
  have hOb := HOW2.out rfl
  subst hOb
  go_wp2_with first
    | ((with_reducible refine wpList_ld rowRBo k0 h49.out ?_ ?_); rotate_left; (rfl))
    | ((with_reducible refine wpList_st rowRBo kz h49.out z49.out h1.out ?_ ?_ ?_); rotate_left; (rfl); (rfl); intro w5 k5 g5 z5)
  have gb5 := gb.grown g5 gb.size (fun q hq => by injection hq; have := HG.out; omega)
  exact bodyPost_ret (v := .agg (bc O (.slice A m c))) (results_blk rfl rowRBo k5 h49.out rfl) rfl ⟨_, rfl, ⟨A, m, c, rfl, HRV.out w5 gb5, HM.out⟩, gb5⟩
set_option maxHeartbeats 2000000 in
theorem brJoin_any (a b : Bd) (ha : Bo.Shaped a) (hb' : Bo.Shaped b) (q q2 : Value) (w0 : World) (hq : FrBo a q w0) (hq2 : FrBo b q2 w0) : Calls Tryz.prog 11 #[q, q2] w0 (GiveBd 121 w0 (Bo.join a b)) := by
  obtain ⟨CA, rfl⟩ := hq.agg
  obtain ⟨CB, rfl⟩ := hq2.agg
  have SA := Lib.hid (hq.size ha)
  have SB := Lib.hid (hq2.size hb')
  obtain ⟨B, hBe⟩ : ∃ B, B = w0.heap.size := ⟨_, rfl⟩
  have hq : HoldBo B a (.agg CA) w0 := by rw [hBe]; exact hq
  have hq2 : HoldBo B b (.agg CB) w0 := by rw [hBe]; exact hq2
  have hoa := fun (w' : World) (h : Below B w0 w') => brown_any B a ha (.agg CA) w' (by have := h.size; omega) (hq.below h)
  have hob := fun (w' : World) (h : Below B w0 w') => brown_any B b hb' (.agg CB) w' (by have := h.size; omega) (hq2.below h)
  obtain ⟨x, hx⟩ : ∃ x, x = Bo.own a := ⟨_, rfl⟩
  obtain ⟨y, hy⟩ : ∃ y, y = Bo.own b := ⟨_, rfl⟩
  have HX := Lib.hid (show Bo.Shaped x by rw [hx]; exact Bo.own_shaped ha)
  have HY := Lib.hid (show Bo.Shaped y by rw [hy]; exact Bo.own_shaped hb')
  have RX := Lib.hid (show Bo.rightB x = true by rw [hx]; exact Bo.own_right a)
  have RY := Lib.hid (show Bo.rightB y = true by rw [hy]; exact Bo.own_right b)
  have HJ := Lib.hid (show Bo.join a b = Bo.stage x y 3 by rw [Bo.join_own, ← hx, ← hy, Bo.join_eq RX.out RY.out]; rfl)
  rw [HJ.out]
  rw [← hx] at hoa
  rw [← hy] at hob
  have HOA := Lib.hid hoa
  have HOB := Lib.hid hob
  have z49 := Lib.hid (bc_size (s := .slice none 0 0) Bo.zero_shaped)
  have HBE := Lib.hid hBe
  clear hoa hob hx hy hq hq2 ha hb' hBe
  go_enter Tryz.func11, Tryz.ntmps11
  go_upto_region 1 with fail
  refine nameW ?_
  intro wv hwv
  obtain ⟨g, hg⟩ : ∃ g, g = w0.heap.size := ⟨_, rfl⟩
  obtain ⟨g1, hg1⟩ : ∃ g1, g1 = g + 1 := ⟨_, rfl⟩
  obtain ⟨g2, hg2⟩ : ∃ g2, g2 = g1 + 1 := ⟨_, rfl⟩
  have k0 : Blk wv g 32 CA := by rw [hwv, hg]; exact ((Blk.new w0 _ _).alloc _).alloc _
  have k1 : Blk wv g1 32 CB := by
    have h := Blk.new (w0.alloc (.cells CA 32)) 32 CB
    rw [hwv, hg1, hg]
    exact (by simpa using h : Blk _ (w0.heap.size + 1) _ _).alloc _
  have kz : Blk wv g2 32 (bc Bo.zero (.slice none 0 0)) := by
    have h := Blk.new ((w0.alloc (.cells CA 32)).alloc (.cells CB 32)) 32 (bc Bo.zero (.slice none 0 0))
    rw [zbo] at h ⊢
    rw [hwv, hg2, hg1, hg]
    simpa using h
  have gb : Below B w0 wv := by rw [HBE.out, hwv]; exact (((Below.refl _ _).alloc (Nat.le_refl _) _).alloc (by simp) _).alloc (by simp; omega) _
  rw [← hg, ← hg1, ← hg2]
  have HN := Lib.hid (show g ≠ g1 ∧ g ≠ g2 ∧ g1 ≠ g2 ∧ B ≤ g ∧ B ≤ g1 ∧ B ≤ g2 by have := HBE.out; omega)
  have hBv : B ≤ wv.heap.size := by have := gb.size; have := HBE.out; omega
  clear hwv hg hg1 hg2
  refine wp_region_tail 4 (fun L v w => v 2 = .pointer (some ⟨g, 0, none⟩) ∧ v 3 = .pointer (some ⟨g1, 0, none⟩) ∧ Below wv.heap.size wv w ∧ (L 0 = true → v 7 = .agg CA) ∧ (L 1 = true → HoldBo B x (v 8) w) ∧ (L 2 = true → v 9 = .agg CB) ∧ (L 3 = true → HoldBo B y (v 10) w)) [7, 8, 9, 10] (by kernel_rfl) (by kernel_rfl) (by kernel_rfl) (by kernel_rfl) (by kernel_rfl) (by kernel_rfl) ?h0 ?hst ?hend
  case h0 =>
    intro L h0
    have h0 : ∀ i, i < 4 → L i = false := h0
    exact ⟨rfl, rfl, (Below.refl _ _).drew, offF h0 (i := 0) (by decide), offF h0 (i := 1) (by decide), offF h0 (i := 2) (by decide), offF h0 (i := 3) (by decide)⟩
  case hst =>
    show FactSteps _ _ _ _ [0, 1, 2, 3]
    refine @FactSteps.cons _ _ _ _ 0 _ [] _ rfl (by kernel_rfl) ?s0 ?_
    rotate_left
    refine @FactSteps.cons _ _ _ _ 1 _ [0] _ rfl (by kernel_rfl) ?s1 ?_
    rotate_left
    refine @FactSteps.cons _ _ _ _ 2 _ [] _ rfl (by kernel_rfl) ?s2 ?_
    rotate_left
    refine @FactSteps.cons _ _ _ _ 3 _ [2, 1] _ rfl (by kernel_rfl) ?s3 ?_
    rotate_left
    exact FactSteps.nil
    case s0 =>
      rintro L a v w hv hg hL hd hcl ⟨e2, e3, hb, f0, f1, f2, f3⟩ K hK
      refine step_do rfl ?_
      refine wp_ld rowRBo (.tmp 2) rfl ((hv 2).trans e2) (k0.below hb k0.lt) SA.out ?_
      exact hK.out _ _ ⟨e2, e3, hb, fun _ => rfl, f1, f2, f3⟩
    case s1 =>
      rintro L a v w hv hg hL hd hcl ⟨e2, e3, hb, f0, f1, f2, f3⟩ K hK
      have h0 := f0 (hd 0 (by decide))
      refine step_do rfl ?_
      clear hv
      go_simp
      refine (HOA.out w (gb.trans (hb.mono hBv))).mono ?_
      rintro e wy ⟨q, rfl, hq, bb⟩
      exact hK.out _ _ ⟨e2, e3, (hb.trans (bb.mono hb.size)), f0, fun _ => hq, f2, (fun h => (f3 h).below (bb.mono (Nat.le_trans hBv hb.size)))⟩
    case s2 =>
      rintro L a v w hv hg hL hd hcl ⟨e2, e3, hb, f0, f1, f2, f3⟩ K hK
      refine step_do rfl ?_
      refine wp_ld rowRBo (.tmp 3) rfl ((hv 3).trans e3) (k1.below hb k1.lt) SB.out ?_
      exact hK.out _ _ ⟨e2, e3, hb, f0, f1, fun _ => rfl, f3⟩
    case s3 =>
      rintro L a v w hv hg hL hd hcl ⟨e2, e3, hb, f0, f1, f2, f3⟩ K hK
      have h2 := f2 (hd 2 (by decide))
      refine step_do rfl ?_
      clear hv
      go_simp
      refine (HOB.out w (gb.trans (hb.mono hBv))).mono ?_
      rintro e wy ⟨q, rfl, hq, bb⟩
      exact hK.out _ _ ⟨e2, e3, (hb.trans (bb.mono hb.size)), f0, (fun h => (f1 h).below (bb.mono (Nat.le_trans hBv hb.size))), f2, fun _ => hq⟩
  case hend =>
  rintro L v w1 hall ⟨e2, e3, hb, f0, f1, f2, f3⟩
  have hL : ∀ i, i < 4 → L i = true := hall
  have f0 := f0 (hL 0 (by decide))
  have f1 := f1 (hL 1 (by decide))
  have f2 := f2 (hL 2 (by decide))
  have f3 := f3 (hL 3 (by decide))
  obtain ⟨A, m, c, e8, r8, m8⟩ := f1
  obtain ⟨A2, m2, c2, e10, r10, m10⟩ := f3
  simp only [finA, List.foldl_cons, List.foldl_nil, Act.put, List.setIfInBounds_toArray, List.set_cons_succ, List.set_cons_zero, f0, f2, e8, e10]
  have k0 := k0.below hb k0.lt
  have k1 := k1.below hb k1.lt
  have kz := kz.below hb kz.lt
  have gb := gb.trans (hb.mono hBv)
  have hBw : B ≤ w1.heap.size := Nat.le_trans hBv hb.size
  have X49 := Lib.hid (bc_size (s := .slice A m c) HX.out)
  have X1 := Lib.hid (bc_one (b := x) (s := .slice A m c) rfl)
  have Y49 := Lib.hid (bc_size (s := .slice A2 m2 c2) HY.out)
  have Y1 := Lib.hid (bc_one (b := y) (s := .slice A2 m2 c2) rfl)
  have M8 := Lib.hid m8
  have M10 := Lib.hid m10
  have R8 := Lib.hid fun (w : World) (h : Below B w1 w) => r8.below h
  have R10 := Lib.hid fun (w : World) (h : Below B w1 w) => r10.below h
  clear e2 e3 f0 f2 hL hall e8 e10 hb m8 m10 r8 r10
  have ⟨n1, n2, n3, l0, l1, l2⟩ := HN.out
  show wpList _ _ _ [_, _] _ _
  go_upto_region 2 with first
    | ((with_reducible refine wpList_st rowRBo k0 X49.out SA.out X1.out ?_ ?_ ?_); rotate_left; (rfl); (rfl); intro w2 k0 ga gaz; have k1 := k1.grown ga (fun h => by injection h; omega))
    | ((with_reducible refine wpList_st rowRBo k1 Y49.out SB.out Y1.out ?_ ?_ ?_); rotate_left; (rfl); (rfl); intro w3 k1 gc gcz)
  have k0 := k0.grown gc (fun h => by injection h; omega)
  have kz := (kz.grown ga (fun h => by injection h; omega)).grown gc (fun h => by injection h; omega)
  have gw : Below B w1 w3 := ((Below.refl B w1).grown ga hBw (fun q hq => by injection hq; omega)).grown gc (by have := ga.size; omega) (fun q hq => by injection hq; omega)
  have gb := gb.trans gw
  have hBx : B ≤ w3.heap.size := by have := ga.size; have := gc.size; omega
  clear ga gc gaz gcz hBw hBv
  obtain ⟨t', ht⟩ : ∃ t', t' = Tally.joinL x.t y.t := ⟨_, rfl⟩
  obtain ⟨u', hu⟩ : ∃ u', u' = Reg.maxU x.u y.u := ⟨_, rfl⟩
  obtain ⟨l', hl⟩ : ∃ l', l' = Reg.meetL x.u y.u x.l y.l := ⟨_, rfl⟩
  have T16 := Lib.hid (show t'.length = 16 by rw [ht]; exact join_len HX.out.t HY.out.t)
  have U8 := Lib.hid (show u'.length = 8 by rw [hu]; exact Reg.maxU_len _ _)
  have L8 := Lib.hid (show l'.length ≤ 8 by rw [hl]; exact Reg.meetL_len _ _ _ _)
  have HST3 := Lib.hid (show Bo.stage x y 3 = ⟨t', List.zipWith Reg.joinL x.p y.p, u', l'⟩ by rw [ht, hu, hl]; rfl)
  have hcj := fun w => rjoin_any x.t y.t w HX.out.t HY.out.t
  rw [← ht] at hcj
  have HCJ := Lib.hid hcj
  have e1 : Reg.ownM x.u x.l = (x.u, x.l) := by unfold Reg.ownM; rw [if_pos ((Bo.right_iff x).1 RX.out).2.2.2]
  have e2 : Reg.ownM y.u y.l = (y.u, y.l) := by unfold Reg.ownM; rw [if_pos ((Bo.right_iff y).1 RY.out).2.2.2]
  have hcm := fun (w : World) (h1 : RdV w w.heap.size A m x.l) (h2 : RdV w w.heap.size A2 m2 y.l) => rmeet29_any x.u y.u HX.out.u HY.out.u A A2 m c m2 c2 x.l y.l w h1 h2 M8.out M10.out
  rw [e1, e2] at hcm
  have hcm' : ∀ w, RdV w w.heap.size A m x.l → RdV w w.heap.size A2 m2 y.l → Calls Tryz.prog 28 #[.agg (uc x.u (.slice A m c)), .agg (uc y.u (.slice A2 m2 c2))] w (CopyV 121 w u' l') := by
    rw [hu, hl]
    exact hcm
  have HCM := Lib.hid hcm'
  have TX := Lib.hid (show (tc x.t).size = 16 by rw [tc_size, HX.out.t])
  have TY := Lib.hid (show (tc y.t).size = 16 by rw [tc_size, HY.out.t])
  have UX := Lib.hid (uc_size HX.out.u (.slice A m c))
  have UY := Lib.hid (uc_size HY.out.u (.slice A2 m2 c2))
  have HBD := Lib.hid fun (s : Value) (w : World) => buildRBo (l := l') T16.out U8.out s w
  clear ht hu hl hcj hcm hcm' e1 e2 n1 n2 n3 l0 l1 l2
  refine wp_region_tail 12 (fun L v w => v 2 = .pointer (some ⟨g, 0, none⟩) ∧ v 3 = .pointer (some ⟨g1, 0, none⟩) ∧ Below w3.heap.size w3 w ∧ (L 0 = true → v 11 = .pointer (some ⟨g, 0, none⟩)) ∧ (L 1 = true → v 12 = .agg (tc x.t)) ∧ (L 2 = true → v 13 = .pointer (some ⟨g1, 0, none⟩)) ∧ (L 3 = true → v 14 = .agg (tc y.t)) ∧ (L 4 = true → v 15 = .agg (tc t')) ∧ (L 5 = true → v 16 = .pointer (some ⟨g, 40, none⟩)) ∧ (L 6 = true → v 17 = .agg (uc x.u (.slice A m c))) ∧ (L 7 = true → v 18 = .pointer (some ⟨g1, 40, none⟩)) ∧ (L 8 = true → v 19 = .agg (uc y.u (.slice A2 m2 c2))) ∧ (L 9 = true → ∃ A3 m3 c3, v 20 = .agg (uc u' (.slice A3 m3 c3)) ∧ OwnV 121 w 0 A3 m3 c3 l') ∧ (L 10 = true → FoBo 121 ⟨t', Bo.z8l, u', l'⟩ (v 21) w) ∧ Al 32 49 w3.heap.size (L 11) false (v 5) undef w) [11, 12, 13, 14, 15, 16, 17, 18, 19, 20, 21, 5] (by kernel_rfl) (by kernel_rfl) (by kernel_rfl) (by kernel_rfl) (by kernel_rfl) (by kernel_rfl) ?h0 ?hst ?hend
  case h0 =>
    intro L h0
    have h0 : ∀ i, i < 12 → L i = false := h0
    exact ⟨rfl, rfl, (Below.refl _ _).drew, offF h0 (i := 0) (by decide), offF h0 (i := 1) (by decide), offF h0 (i := 2) (by decide), offF h0 (i := 3) (by decide), offF h0 (i := 4) (by decide), offF h0 (i := 5) (by decide), offF h0 (i := 6) (by decide), offF h0 (i := 7) (by decide), offF h0 (i := 8) (by decide), offF h0 (i := 9) (by decide), offF h0 (i := 10) (by decide), Al.none_ (h0 11 (by decide)) rfl⟩
  case hst =>
    show FactSteps _ _ _ _ [0, 1, 2, 3, 4, 5, 6, 7, 8, 9, 10, 11]
    refine @FactSteps.cons _ _ _ _ 0 _ [] _ rfl (by kernel_rfl) ?s0 ?_
    rotate_left
    refine @FactSteps.cons _ _ _ _ 1 _ [0] _ rfl (by kernel_rfl) ?s1 ?_
    rotate_left
    refine @FactSteps.cons _ _ _ _ 2 _ [] _ rfl (by kernel_rfl) ?s2 ?_
    rotate_left
    refine @FactSteps.cons _ _ _ _ 3 _ [2] _ rfl (by kernel_rfl) ?s3 ?_
    rotate_left
    refine @FactSteps.cons _ _ _ _ 4 _ [1, 3] _ rfl (by kernel_rfl) ?s4 ?_
    rotate_left
    refine @FactSteps.cons _ _ _ _ 5 _ [] _ rfl (by kernel_rfl) ?s5 ?_
    rotate_left
    refine @FactSteps.cons _ _ _ _ 6 _ [5] _ rfl (by kernel_rfl) ?s6 ?_
    rotate_left
    refine @FactSteps.cons _ _ _ _ 7 _ [] _ rfl (by kernel_rfl) ?s7 ?_
    rotate_left
    refine @FactSteps.cons _ _ _ _ 8 _ [7] _ rfl (by kernel_rfl) ?s8 ?_
    rotate_left
    refine @FactSteps.cons _ _ _ _ 9 _ [6, 8, 4] _ rfl (by kernel_rfl) ?s9 ?_
    rotate_left
    refine @FactSteps.cons _ _ _ _ 10 _ [4, 9] _ rfl (by kernel_rfl) ?s10 ?_
    rotate_left
    refine @FactSteps.cons _ _ _ _ 11 _ [] _ rfl (by kernel_rfl) ?s11 ?_
    rotate_left
    exact FactSteps.nil
    case s0 =>
      rintro L a v w hv hg hL hd hcl ⟨e2, e3, hb, f0, f1, f2, f3, f4, f5, f6, f7, f8, f9, f10, f11⟩ K hK
      refine step_do rfl ?_
      clear hv
      go_simp
      exact hK.out _ _ ⟨e2, e3, hb, fun _ => rfl, f1, f2, f3, f4, f5, f6, f7, f8, f9, f10, f11⟩
    case s1 =>
      rintro L a v w hv hg hL hd hcl ⟨e2, e3, hb, f0, f1, f2, f3, f4, f5, f6, f7, f8, f9, f10, f11⟩ K hK
      have g0 := f0 (hd 0 (by decide))
      refine step_do rfl ?_
      refine wp_ldr rowRT (.tmp 11) rfl ((hv 11).trans g0) ((k0.below hb k0.lt).tal HX.out) TX.out ?_
      exact hK.out _ _ ⟨e2, e3, hb, f0, fun _ => rfl, f2, f3, f4, f5, f6, f7, f8, f9, f10, f11⟩
    case s2 =>
      rintro L a v w hv hg hL hd hcl ⟨e2, e3, hb, f0, f1, f2, f3, f4, f5, f6, f7, f8, f9, f10, f11⟩ K hK
      refine step_do rfl ?_
      clear hv
      go_simp
      exact hK.out _ _ ⟨e2, e3, hb, f0, f1, fun _ => rfl, f3, f4, f5, f6, f7, f8, f9, f10, f11⟩
    case s3 =>
      rintro L a v w hv hg hL hd hcl ⟨e2, e3, hb, f0, f1, f2, f3, f4, f5, f6, f7, f8, f9, f10, f11⟩ K hK
      have g2 := f2 (hd 2 (by decide))
      refine step_do rfl ?_
      refine wp_ldr rowRT (.tmp 13) rfl ((hv 13).trans g2) ((k1.below hb k1.lt).tal HY.out) TY.out ?_
      exact hK.out _ _ ⟨e2, e3, hb, f0, f1, f2, fun _ => rfl, f4, f5, f6, f7, f8, f9, f10, f11⟩
    case s4 =>
      rintro L a v w hv hg hL hd hcl ⟨e2, e3, hb, f0, f1, f2, f3, f4, f5, f6, f7, f8, f9, f10, f11⟩ K hK
      have h1 := f1 (hd 1 (by decide))
      have h3 := f3 (hd 3 (by decide))
      refine step_do rfl ?_
      clear hv
      go_simp
      refine (HCJ.out _).mono ?_
      rintro e wy ⟨rfl, bb⟩
      exact hK.out _ _ ⟨e2, e3, (hb.trans (bb.mono hb.size)), f0, f1, f2, f3, fun _ => rfl, f5, f6, f7, f8, (fun h => (by obtain ⟨A3, m3, c3, e, o⟩ := f9 h; exact ⟨A3, m3, c3, e, o.below bb (Nat.le_refl _)⟩)), (fun h => (f10 h).below bb), f11.below bb⟩
    case s5 =>
      rintro L a v w hv hg hL hd hcl ⟨e2, e3, hb, f0, f1, f2, f3, f4, f5, f6, f7, f8, f9, f10, f11⟩ K hK
      refine step_do rfl ?_
      clear hv
      go_simp
      exact hK.out _ _ ⟨e2, e3, hb, f0, f1, f2, f3, f4, fun _ => rfl, f6, f7, f8, f9, f10, f11⟩
    case s6 =>
      rintro L a v w hv hg hL hd hcl ⟨e2, e3, hb, f0, f1, f2, f3, f4, f5, f6, f7, f8, f9, f10, f11⟩ K hK
      have g5 := f5 (hd 5 (by decide))
      refine step_do rfl ?_
      refine wp_ldr rowRM (.tmp 16) rfl ((hv 16).trans g5) ((k0.below hb k0.lt).notes HX.out) UX.out ?_
      exact hK.out _ _ ⟨e2, e3, hb, f0, f1, f2, f3, f4, f5, fun _ => rfl, f7, f8, f9, f10, f11⟩
    case s7 =>
      rintro L a v w hv hg hL hd hcl ⟨e2, e3, hb, f0, f1, f2, f3, f4, f5, f6, f7, f8, f9, f10, f11⟩ K hK
      refine step_do rfl ?_
      clear hv
      go_simp
      exact hK.out _ _ ⟨e2, e3, hb, f0, f1, f2, f3, f4, f5, f6, fun _ => rfl, f8, f9, f10, f11⟩
    case s8 =>
      rintro L a v w hv hg hL hd hcl ⟨e2, e3, hb, f0, f1, f2, f3, f4, f5, f6, f7, f8, f9, f10, f11⟩ K hK
      have g7 := f7 (hd 7 (by decide))
      refine step_do rfl ?_
      refine wp_ldr rowRM (.tmp 18) rfl ((hv 18).trans g7) ((k1.below hb k1.lt).notes HY.out) UY.out ?_
      exact hK.out _ _ ⟨e2, e3, hb, f0, f1, f2, f3, f4, f5, f6, f7, fun _ => rfl, f9, f10, f11⟩
    case s9 =>
      rintro L a v w hv hg hL hd hcl ⟨e2, e3, hb, f0, f1, f2, f3, f4, f5, f6, f7, f8, f9, f10, f11⟩ K hK
      have h6 := f6 (hd 6 (by decide))
      have h8 := f8 (hd 8 (by decide))
      refine step_do rfl ?_
      clear hv
      go_simp
      refine (HCM.out w (R8.out w (gw.trans (hb.mono hBx))).size (R10.out w (gw.trans (hb.mono hBx))).size).mono ?_
      rintro e wy ⟨A3, m3, c3, rfl, o3, bb⟩
      exact hK.out _ _ ⟨e2, e3, (hb.trans (bb.mono hb.size)), f0, f1, f2, f3, f4, f5, f6, f7, f8, fun _ => ⟨A3, m3, c3, rfl, o3.mono (Nat.zero_le _)⟩, (fun h => (f10 h).below bb), f11.below bb⟩
    case s10 =>
      rintro L a v w hv hg hL hd hcl ⟨e2, e3, hb, f0, f1, f2, f3, f4, f5, f6, f7, f8, f9, f10, f11⟩ K hK
      have h4 := f4 (hd 4 (by decide))
      have h9 := f9 (hd 9 (by decide))
      obtain ⟨A4, m4, c4, ev, ho4⟩ := h9
      refine step_do rfl ?_
      refine wp_bd (v := .agg (bc ⟨t', Bo.z8l, u', l'⟩ (.slice A4 m4 c4))) (w' := w) 32 #[(0, .tmp 15), (2, .tmp 20)] rfl ?_ ?_
      · simp only [List.map_toArray, List.map_cons, List.map_nil, hv, h4, ev]; exact HBD.out _ _
      exact hK.out _ _ ⟨e2, e3, hb, f0, f1, f2, f3, f4, f5, f6, f7, f8, f9, fun _ => ⟨A4, m4, c4, rfl, ho4, (by have := ho4.1; have := L8.out; omega)⟩, f11⟩
    case s11 =>
      rintro L a v w hv hg hL hd hcl ⟨e2, e3, hb, f0, f1, f2, f3, f4, f5, f6, f7, f8, f9, f10, f11⟩ K hK
      refine step_do rfl ?_
      go_simp
      have bb : Below w.heap.size w (w.alloc (.cells (bc Bo.zero (.slice none 0 0)) 32)) := (Below.refl _ _).alloc (Nat.le_refl _) _
      rw [hL] at f11
      exact hK.out _ _ ⟨e2, e3, (hb.trans (bb.mono hb.size)), f0, f1, f2, f3, f4, f5, f6, f7, f8, (fun h => (by obtain ⟨A3, m3, c3, e, o⟩ := f9 h; exact ⟨A3, m3, c3, e, o.below bb (Nat.le_refl _)⟩)), (fun h => (f10 h).below bb), f11.alloc_ hb.size rfl⟩
  case hend =>
  rintro L v w4 hall ⟨e2, e3, hb, f0, f1, f2, f3, f4, f5, f6, f7, f8, f9, f10, f11⟩
  have hL : ∀ i, i < 12 → L i = true := hall
  have f0 := f0 (hL 0 (by decide))
  have f1 := f1 (hL 1 (by decide))
  have f2 := f2 (hL 2 (by decide))
  have f3 := f3 (hL 3 (by decide))
  have f4 := f4 (hL 4 (by decide))
  have f5 := f5 (hL 5 (by decide))
  have f6 := f6 (hL 6 (by decide))
  have f7 := f7 (hL 7 (by decide))
  have f8 := f8 (hL 8 (by decide))
  have f9 := f9 (hL 9 (by decide))
  have f10 := f10 (hL 10 (by decide))
  rw [hL 11 (by decide)] at f11
  obtain ⟨A5, m5, c5, e21, o5, hm5⟩ := f10
  obtain ⟨X, ds, eX, hXl, kX, hds, _⟩ := f11.2 rfl
  simp only [finA, List.foldl_cons, List.foldl_nil, Act.put, List.setIfInBounds_toArray, List.set_cons_succ, List.set_cons_zero, f0, f1, f2, f3, f5, f6, f7, f8, f4, e21, eX]
  have hg1l : g < w3.heap.size ∧ g1 < w3.heap.size ∧ g2 < w3.heap.size := ⟨k0.lt, k1.lt, kz.lt⟩
  have k0 := k0.below hb k0.lt
  have k1 := k1.below hb k1.lt
  have kz := kz.below hb kz.lt
  have gb := gb.trans (hb.mono hBx)
  have hBy : B ≤ w4.heap.size := Nat.le_trans hBx hb.size
  have HM5 := Lib.hid hm5
  have HXN := Lib.hid (show g ≠ X ∧ g1 ≠ X ∧ g2 ≠ X ∧ B ≤ X by omega)
  obtain ⟨b0, hb0⟩ : ∃ b0 : Bd, b0 = ⟨t', Bo.z8l, u', l'⟩ := ⟨_, rfl⟩
  have hs0 : Bo.Shaped b0 := by rw [hb0]; exact ⟨T16.out, rfl, U8.out⟩
  have Q49 := Lib.hid (bc_size (s := .slice A5 m5 c5) hs0)
  have Q1 := Lib.hid (bc_one (b := b0) (s := .slice A5 m5 c5) rfl)
  have HB0 := Lib.hid hb0
  have HS0 := Lib.hid hs0
  rw [← hb0] at o5 ⊢
  clear e2 e3 f0 f1 f2 f3 f4 f5 f6 f7 f8 f9 hL hall e21 eX hb hm5 hXl hg1l hs0 hb0 gw hBx f11
  have ⟨n1, n2, n3, l0, l1, l2⟩ := HN.out
  have ⟨x0, x1, x2, x3⟩ := HXN.out
  show wpList _ _ _ [_] _ _
  go_upto_region 3 with ((with_reducible refine wpList_st rowRBo kX Q49.out hds Q1.out ?_ ?_ ?_); rotate_left; (rfl); (rfl); intro w5 kX2 ga gaz)
  have hne := own_ne o5.2 kX (by decide)
  have k0 := k0.grown ga (fun h => by injection h; omega)
  have k1 := k1.grown ga (fun h => by injection h; omega)
  have kz := kz.grown ga (fun h => by injection h; omega)
  have o5 := o5.grown ga (.inr hne)
  have gb := gb.grown ga hBy (fun q hq => by injection hq; omega)
  clear kX hds ga gaz hBy hne
  have Z8 := Lib.hid (show (List.zipWith Reg.joinL x.p y.p).length = 8 by rw [List.length_zipWith, HX.out.p, HY.out.p]; rfl)
  go_wp2_with fail
  go_loopw [22] (fun i wr => ∃ k : Nat, k ≤ 8 ∧ i = .int .i64 (k : Nat) ∧ Blk wr X 32 (bc { b0 with p := (List.zipWith Reg.joinL x.p y.p).take k ++ Bo.z8l.drop k } (.slice A5 m5 c5)) ∧ OwnV 121 wr 0 A5 m5 c5 b0.l ∧ Blk wr g 32 (bc x (.slice A m c)) ∧ Blk wr g1 32 (bc y (.slice A2 m2 c2)) ∧ Blk wr g2 32 (bc Bo.zero (.slice none 0 0)) ∧ Below B w0 wr) (fun i _ => 8 - (intOf i).toNat)
  case atStart => exact ⟨0, by omega, rfl, by have := kX2; rw [HB0.out] at this ⊢; exact this, o5, k0, k1, kz, gb⟩
  case round =>
    clear kX2 o5 k0 k1 kz gb
    obtain ⟨k, hk, rfl, kX, o5, k0, k1, kz, gb⟩ := hrel
    by_cases hlt : k < 8
    · have hk0 : (0 : Int) ≤ (k : Int) := by omega
      have hk1 : (k : Int) < 8 := by omega
      have hst := half_succ Z8.out hlt
      obtain ⟨q, hq⟩ : ∃ q, q = y.p.getD k (0, 0, 0) := ⟨_, rfl⟩
      obtain ⟨p, hp⟩ : ∃ p, p = x.p.getD k (0, 0, 0) := ⟨_, rfl⟩
      have hzk : (List.zipWith Reg.joinL x.p y.p).getD k (0, 0, 0) = Reg.joinL p q := by
        rw [hp, hq, List.getD_eq_getElem?_getD, List.getD_eq_getElem?_getD, List.getD_eq_getElem?_getD, List.getElem?_zipWith, List.getElem?_eq_getElem (by rw [HX.out.p]; exact hlt), List.getElem?_eq_getElem (by rw [HY.out.p]; exact hlt)]
        rfl
      obtain ⟨z, hz⟩ : ∃ z, z = Reg.joinL p q := ⟨_, rfl⟩
      have hc := fun w => rjoin29_any p q w
      rw [hzk, ← hz] at hst
      rw [← hz] at hc
      have HC := Lib.hid (show ∀ w, Calls Tryz.prog 29 #[.agg (pc p).toArray, .agg (pc q).toArray] w fun e w' => e = .returned (.agg (pc z).toArray) ∧ Below w.heap.size w w' from hc)
      have HP := Lib.hid hp
      have HQ := Lib.hid hq
      have hss : Bo.Shaped { b0 with p := (List.zipWith Reg.joinL x.p y.p).take k ++ Bo.z8l.drop k } := ⟨HS0.out.t, half_len Z8.out hk, HS0.out.u⟩
      obtain ⟨b1, hb1⟩ : ∃ b1 : Bd, b1 = { b0 with p := (List.zipWith Reg.joinL x.p y.p).take k ++ Bo.z8l.drop k } := ⟨_, rfl⟩
      rw [← hb1] at kX hss
      have HSB := Lib.hid (show ({ b1 with p := b1.p.set k z } : Bd) = { b0 with p := (List.zipWith Reg.joinL x.p y.p).take (k + 1) ++ Bo.z8l.drop (k + 1) } by rw [hb1]; simp only; rw [hst])
      have HSS := Lib.hid hss
      have SZ := Lib.hid (show (pc z).toArray.size = 3 from rfl)
      have OZ := Lib.hid (show (pc z).toArray.all (·.oneCell') = true from th_one _ _ _)
      have B49 := Lib.hid (bc_size (s := .slice A5 m5 c5) hss)
      have hBr : B ≤ wr.heap.size := by have := gb.size; have := HBE.out; omega
      clear hst hq hp hzk hc hz hss hb1
      go_upto_region 6 with fail
      refine wp_region_tail 11 (fun L v w => v 2 = .pointer (some ⟨g, 0, none⟩) ∧ v 3 = .pointer (some ⟨g1, 0, none⟩) ∧ v 5 = .pointer (some ⟨X, 0, none⟩) ∧ v 6 = .int .i64 (k : Nat) ∧ Below wr.heap.size wr w ∧ (L 0 = true → v 25 = .int .i64 (k : Nat)) ∧ (L 1 = true → v 26 = .int .i64 (k : Nat)) ∧ (L 2 = true → v 27 = .pointer (some ⟨g, 16, none⟩)) ∧ (L 3 = true → v 28 = .pointer (some ⟨g, 16 + k * 3, none⟩)) ∧ (L 4 = true → v 29 = .agg (pc p).toArray) ∧ (L 5 = true → v 30 = .int .i64 (k : Nat)) ∧ (L 6 = true → v 31 = .pointer (some ⟨g1, 16, none⟩)) ∧ (L 7 = true → v 32 = .pointer (some ⟨g1, 16 + k * 3, none⟩)) ∧ (L 8 = true → v 33 = .agg (pc q).toArray) ∧ (L 9 = true → v 34 = .agg (pc z).toArray) ∧ (L 10 = true → v 35 = .pointer (some ⟨X, 16, none⟩))) [25, 26, 27, 28, 29, 30, 31, 32, 33, 34, 35] (by kernel_rfl) (by kernel_rfl) (by kernel_rfl) (by kernel_rfl) (by kernel_rfl) (by kernel_rfl) ?h0 ?hst ?hend
      case h0 =>
        intro L h0
        have h0 : ∀ i, i < 11 → L i = false := h0
        exact ⟨rfl, rfl, rfl, rfl, (Below.refl _ _).drew, offF h0 (i := 0) (by decide), offF h0 (i := 1) (by decide), offF h0 (i := 2) (by decide), offF h0 (i := 3) (by decide), offF h0 (i := 4) (by decide), offF h0 (i := 5) (by decide), offF h0 (i := 6) (by decide), offF h0 (i := 7) (by decide), offF h0 (i := 8) (by decide), offF h0 (i := 9) (by decide), offF h0 (i := 10) (by decide)⟩
      case hst =>
        show FactSteps _ _ _ _ [0, 1, 2, 3, 4, 5, 6, 7, 8, 9, 10]
        refine @FactSteps.cons _ _ _ _ 0 _ [] _ rfl (by kernel_rfl) ?s0 ?_
        rotate_left
        refine @FactSteps.cons _ _ _ _ 1 _ [] _ rfl (by kernel_rfl) ?s1 ?_
        rotate_left
        refine @FactSteps.cons _ _ _ _ 2 _ [] _ rfl (by kernel_rfl) ?s2 ?_
        rotate_left
        refine @FactSteps.cons _ _ _ _ 3 _ [2, 1] _ rfl (by kernel_rfl) ?s3 ?_
        rotate_left
        refine @FactSteps.cons _ _ _ _ 4 _ [3] _ rfl (by kernel_rfl) ?s4 ?_
        rotate_left
        refine @FactSteps.cons _ _ _ _ 5 _ [] _ rfl (by kernel_rfl) ?s5 ?_
        rotate_left
        refine @FactSteps.cons _ _ _ _ 6 _ [] _ rfl (by kernel_rfl) ?s6 ?_
        rotate_left
        refine @FactSteps.cons _ _ _ _ 7 _ [6, 5] _ rfl (by kernel_rfl) ?s7 ?_
        rotate_left
        refine @FactSteps.cons _ _ _ _ 8 _ [7] _ rfl (by kernel_rfl) ?s8 ?_
        rotate_left
        refine @FactSteps.cons _ _ _ _ 9 _ [4, 8] _ rfl (by kernel_rfl) ?s9 ?_
        rotate_left
        refine @FactSteps.cons _ _ _ _ 10 _ [] _ rfl (by kernel_rfl) ?s10 ?_
        rotate_left
        exact FactSteps.nil
        case s0 =>
          rintro L a v w hv hg hL hd hcl ⟨e2, e3, e5, e6, hb, f0, f1, f2, f3, f4, f5, f6, f7, f8, f9, f10⟩ K hK
          refine step_do rfl ?_
          clear hv
          go_simp
          exact hK.out _ _ ⟨e2, e3, e5, e6, hb, fun _ => rfl, f1, f2, f3, f4, f5, f6, f7, f8, f9, f10⟩
        case s1 =>
          rintro L a v w hv hg hL hd hcl ⟨e2, e3, e5, e6, hb, f0, f1, f2, f3, f4, f5, f6, f7, f8, f9, f10⟩ K hK
          refine step_do rfl ?_
          clear hv
          go_simp
          exact hK.out _ _ ⟨e2, e3, e5, e6, hb, f0, fun _ => rfl, f2, f3, f4, f5, f6, f7, f8, f9, f10⟩
        case s2 =>
          rintro L a v w hv hg hL hd hcl ⟨e2, e3, e5, e6, hb, f0, f1, f2, f3, f4, f5, f6, f7, f8, f9, f10⟩ K hK
          refine step_do rfl ?_
          clear hv
          go_simp
          exact hK.out _ _ ⟨e2, e3, e5, e6, hb, f0, f1, fun _ => rfl, f3, f4, f5, f6, f7, f8, f9, f10⟩
        case s3 =>
          rintro L a v w hv hg hL hd hcl ⟨e2, e3, e5, e6, hb, f0, f1, f2, f3, f4, f5, f6, f7, f8, f9, f10⟩ K hK
          have g1 := f1 (hd 1 (by decide))
          have g2 := f2 (hd 2 (by decide))
          refine step_do rfl ?_
          clear hv
          go_simp
          exact hK.out _ _ ⟨e2, e3, e5, e6, hb, f0, f1, f2, fun _ => rfl, f4, f5, f6, f7, f8, f9, f10⟩
        case s4 =>
          rintro L a v w hv hg hL hd hcl ⟨e2, e3, e5, e6, hb, f0, f1, f2, f3, f4, f5, f6, f7, f8, f9, f10⟩ K hK
          have g3 := f3 (hd 3 (by decide))
          refine step_do rfl ?_
          have hpl : w.rangeAt g (16 + k * 3) (pc p).toArray.toList := by have := (k0.below hb k0.lt).plan HX.out hlt; rw [← HP.out] at this; exact this
          refine wp_ldr rowRLa (.tmp 28) rfl ((hv 28).trans g3) hpl rfl ?_
          exact hK.out _ _ ⟨e2, e3, e5, e6, hb, f0, f1, f2, f3, fun _ => rfl, f5, f6, f7, f8, f9, f10⟩
        case s5 =>
          rintro L a v w hv hg hL hd hcl ⟨e2, e3, e5, e6, hb, f0, f1, f2, f3, f4, f5, f6, f7, f8, f9, f10⟩ K hK
          refine step_do rfl ?_
          clear hv
          go_simp
          exact hK.out _ _ ⟨e2, e3, e5, e6, hb, f0, f1, f2, f3, f4, fun _ => rfl, f6, f7, f8, f9, f10⟩
        case s6 =>
          rintro L a v w hv hg hL hd hcl ⟨e2, e3, e5, e6, hb, f0, f1, f2, f3, f4, f5, f6, f7, f8, f9, f10⟩ K hK
          refine step_do rfl ?_
          clear hv
          go_simp
          exact hK.out _ _ ⟨e2, e3, e5, e6, hb, f0, f1, f2, f3, f4, f5, fun _ => rfl, f7, f8, f9, f10⟩
        case s7 =>
          rintro L a v w hv hg hL hd hcl ⟨e2, e3, e5, e6, hb, f0, f1, f2, f3, f4, f5, f6, f7, f8, f9, f10⟩ K hK
          have g5 := f5 (hd 5 (by decide))
          have g6 := f6 (hd 6 (by decide))
          refine step_do rfl ?_
          clear hv
          go_simp
          exact hK.out _ _ ⟨e2, e3, e5, e6, hb, f0, f1, f2, f3, f4, f5, f6, fun _ => rfl, f8, f9, f10⟩
        case s8 =>
          rintro L a v w hv hg hL hd hcl ⟨e2, e3, e5, e6, hb, f0, f1, f2, f3, f4, f5, f6, f7, f8, f9, f10⟩ K hK
          have g7 := f7 (hd 7 (by decide))
          refine step_do rfl ?_
          have hpl : w.rangeAt g1 (16 + k * 3) (pc q).toArray.toList := by have := (k1.below hb k1.lt).plan HY.out hlt; rw [← HQ.out] at this; exact this
          refine wp_ldr rowRLa (.tmp 32) rfl ((hv 32).trans g7) hpl rfl ?_
          exact hK.out _ _ ⟨e2, e3, e5, e6, hb, f0, f1, f2, f3, f4, f5, f6, f7, fun _ => rfl, f9, f10⟩
        case s9 =>
          rintro L a v w hv hg hL hd hcl ⟨e2, e3, e5, e6, hb, f0, f1, f2, f3, f4, f5, f6, f7, f8, f9, f10⟩ K hK
          have h4 := f4 (hd 4 (by decide))
          have h8 := f8 (hd 8 (by decide))
          refine step_do rfl ?_
          clear hv
          go_simp
          refine (HC.out _).mono ?_
          rintro e wy ⟨rfl, bb⟩
          exact hK.out _ _ ⟨e2, e3, e5, e6, (hb.trans (bb.mono hb.size)), f0, f1, f2, f3, f4, f5, f6, f7, f8, fun _ => rfl, f10⟩
        case s10 =>
          rintro L a v w hv hg hL hd hcl ⟨e2, e3, e5, e6, hb, f0, f1, f2, f3, f4, f5, f6, f7, f8, f9, f10⟩ K hK
          refine step_do rfl ?_
          clear hv
          go_simp
          exact hK.out _ _ ⟨e2, e3, e5, e6, hb, f0, f1, f2, f3, f4, f5, f6, f7, f8, f9, fun _ => rfl⟩
      case hend =>
      rintro L v w6 hall ⟨e2, e3, e5, e6, hb, f0, f1, f2, f3, f4, f5, f6, f7, f8, f9, f10⟩
      have hL : ∀ i, i < 11 → L i = true := hall
      have f0 := f0 (hL 0 (by decide))
      have f1 := f1 (hL 1 (by decide))
      have f2 := f2 (hL 2 (by decide))
      have f3 := f3 (hL 3 (by decide))
      have f4 := f4 (hL 4 (by decide))
      have f5 := f5 (hL 5 (by decide))
      have f6 := f6 (hL 6 (by decide))
      have f7 := f7 (hL 7 (by decide))
      have f8 := f8 (hL 8 (by decide))
      have f9 := f9 (hL 9 (by decide))
      have f10 := f10 (hL 10 (by decide))
      simp only [finA, List.foldl_cons, List.foldl_nil, Act.put, List.setIfInBounds_toArray, List.set_cons_succ, List.set_cons_zero, f0, f1, f2, f3, f4, f5, f6, f7, f8, f10, f9]
      have k0 := k0.below hb k0.lt
      have k1 := k1.below hb k1.lt
      have kz := kz.below hb kz.lt
      have kX := kX.below hb kX.lt
      have o5 := o5.below hb (Nat.le_refl _)
      have gb := gb.trans (hb.mono hBr)
      have hB6 : B ≤ w6.heap.size := Nat.le_trans hBr hb.size
      have hth := kX.there_ (o := 16 + k * 3) (n := 3) (by rw [B49.out]; omega)
      have gx := cells_grown w6 X (16 + k * 3) (pc z).toArray.toList
      have kx := kX.setP HSS.out hlt z
      rw [HSB.out] at kx
      have HH := Lib.hid (And.intro kx (And.intro (o5.grown gx (.inr (own_ne o5.2 kX (by decide)))) (And.intro (k0.grown gx (fun h => by injection h; omega)) (And.intro (k1.grown gx (fun h => by injection h; omega)) (And.intro (kz.grown gx (fun h => by injection h; omega)) (gb.grown gx hB6 (fun q hq => by injection hq; omega)))))))
      clear e2 e3 e5 e6 f0 f1 f2 f3 f4 f5 f6 f7 f8 f9 f10 hL hall hb HC kx gx k0 k1 kz kX o5 gb
      show wpList _ _ _ [_, _] _ _
      go_wp2_with ((with_reducible refine wpList_str rowRLa hth SZ.out OZ.out ?_ ?_ ?_); rotate_left; (rfl); (rfl); intro w7 hw7)
      go_roundw
      case rel => exact ⟨k + 1, by omega, by go_num, HH.out.1, HH.out.2.1, HH.out.2.2.1, HH.out.2.2.2.1, HH.out.2.2.2.2.1, HH.out.2.2.2.2.2⟩
      case measure => simp [intOf]; omega
    · obtain rfl : k = 8 := by omega
      have hb8 : ({ b0 with p := (List.zipWith Reg.joinL x.p y.p).take 8 ++ Bo.z8l.drop 8 } : Bd) = Bo.stage x y 3 := by
        rw [HST3.out, HB0.out, List.take_of_length_le (by rw [Z8.out]; exact Nat.le_refl _), show Bo.z8l.drop 8 = [] from rfl, List.append_nil]
      have hbl : (Bo.stage x y 3).l = b0.l := by rw [HST3.out, HB0.out]
      have hs3 : Bo.Shaped (Bo.stage x y 3) := by rw [HST3.out]; exact ⟨T16.out, Z8.out, U8.out⟩
      rw [hb8] at kX
      rw [← hbl] at o5
      obtain ⟨b3, hb3⟩ : ∃ b3, b3 = Bo.stage x y 3 := ⟨_, rfl⟩
      rw [← hb3] at kX o5 hs3
      have B49 := Lib.hid (bc_size (s := .slice A5 m5 c5) hs3)
      have B1 := Lib.hid (bc_one (b := b3) (s := .slice A5 m5 c5) rfl)
      have HB3 := Lib.hid hb3
      clear hb8 hbl hs3 hb3 k0 k1
      have hBr : B ≤ wr.heap.size := by have := gb.size; have := HBE.out; omega
      go_wp2_with first
        | ((with_reducible refine wpList_ld rowRBo kX B49.out ?_ ?_); rotate_left; (rfl))
        | ((with_reducible refine wpList_st rowRBo kz B49.out z49.out B1.out ?_ ?_ ?_); rotate_left; (rfl); (rfl); intro w8 k8 g8 z8)
      exact bodyPost_ret (v := .agg (bc b3 (.slice A5 m5 c5))) (results_blk rfl rowRBo k8 B49.out rfl) rfl ⟨_, rfl, (by rw [← HB3.out]; exact ⟨A5, m5, c5, rfl, o5.grown g8 (.inr (own_ne o5.2 kz (by decide))), HM5.out⟩), by rw [← HBE.out]; exact gb.grown g8 hBr (fun q hq => by injection hq; omega)⟩
end Go.Proofs.YtocoohpekpkmkaaGreat

/- What a writer wrote, in plain words. -/
namespace Go.Proofs.YtocoohpekpkmkaaGreat
set_option linter.unusedVariables false
set_option linter.unusedSimpArgs false
open Reg (La Vl)
namespace Bo
theorem wrote_err {b x : Bd} {n m v k : Int} (h : wrote b n m v = (x, k)) (hk : k ≠ 0) : x = zero := by
  unfold wrote at h
  split at h
  · injection h with h _; exact h.symm
  · split at h
    · injection h with h _; exact h.symm
    · split at h
      · injection h with h _; exact h.symm
      · injection h with _ h; exact absurd h.symm hk
theorem slot_one {n : Int} (hn : 0 ≤ n ∧ n ≤ 7) : Tally.slot n 1 < 8 := by unfold Tally.slot; rw [if_neg (by omega)]; omega
theorem add_one {t t' : List Int} {n : Int} (ht : Tally.addL t n 1 = (t', 0)) : t' = t.set (Tally.slot n 1) (t.getD (Tally.slot n 1) 0 + 1) := by
  unfold Tally.addL at ht
  split at ht
  · split at ht
    · injection ht with _ ht; cases ht
    · injection ht with ht _; exact ht.symm
  · injection ht with _ ht; cases ht
theorem wrote_value {b x : Bd} {n m v : Int} (h : wrote b n m v = (x, 0)) (hs : Shaped b) : Tally.valueL x.t = Tally.valueL b.t + 1 := by
  obtain ⟨hr, hn, hm, hv, t, q, ht, hq, rfl⟩ := wrote_ok h
  obtain ⟨p1, v1, t1, m1⟩ := (right_iff b).1 hr
  have h2 := (Tally.add_len hs.t n 1).2
  rw [ht] at h2
  have he := add_one ht
  have hsl := slot_one hn
  simp only at h2 ⊢
  rw [he] at h2 ⊢
  exact add_value hs.t t1 (by omega) h2 (by rw [if_pos hsl])
theorem wrote_plan {b x : Bd} {n v : Int} {m : Nat} (h : wrote b n m v = (x, 0)) (hs : Shaped b) : ∃ tm, x.p.getD m (0, 0, 0) = (tm, n, v) := by
  obtain ⟨hr, hn, hm, hv, t, q, ht, hq, rfl⟩ := wrote_ok h
  refine ⟨max (b.p.getD m (0, 0, 0)).1 0 + 1, ?_⟩
  rw [Int.toNat_natCast] at hq ⊢
  show (b.p.set m q).getD m (0, 0, 0) = _
  rw [List.getD_eq_getElem?_getD, List.getElem?_set_self (by rw [hs.p]; omega), Option.getD_some]
  exact (writeL_ok hq).1
theorem wrote_notes {b x : Bd} {n m v : Int} (h : wrote b n m v = (x, 0)) : x.l = b.l ∧ x.u = b.u := by
  obtain ⟨hr, hn, hm, hv, t, q, ht, hq, rfl⟩ := wrote_ok h
  exact ⟨rfl, rfl⟩
theorem value_bd {t : List Int} : -8796093022208 ≤ Tally.valueL t ∧ Tally.valueL t ≤ 8796093022208 := by
  have := Tally.sumTo_bd (Tally.own_right t) 8
  unfold Tally.valueL
  unfold Tally.top at this
  omega
end Bo
end Go.Proofs.YtocoohpekpkmkaaGreat

namespace Go.Proofs.YtocoohpekpkmkaaGreat.BoardTimes
set_option linter.unusedVariables false
set_option linter.unusedSimpArgs false
open Go.ChangeShapes Go.WideShapes Go.ChangeAt Go.RowKit Go.Deep
open Reg (La Vl)
theorem sameTB {b : Bd} (hs : Bo.Shaped b) (hw : WfB b) {q q2 : Value} {w : World} (h : FrBo b q w) (h2 : FrBo b q2 w) : Calls Tryz.prog 9 #[q, q2] w (GiveBo w true) := by
  have := bsame_any b b hs hs hw hw q q2 w h h2
  rwa [(sameB_iff b b).2 rfl] at this
set_option maxRecDepth 100000 in
set_option maxHeartbeats 4000000 in
theorem walk (b : Bd) (A : Option Addr) (n c : Nat) (x y z : Int) (w : World) (hs : Bo.Shaped b) (hw : WfB b) (hr : RdV w w.heap.size A n b.l) (hn : n ≤ maxLen) :
    Calls Tryz.prog 4 #[.agg (bc b (.slice A n c)), .agg #[.int .i64 x, .int .i64 y, .int .i64 z]] w fun e w' => e = .returned (.bool true) ∧ Below w.heap.size w w' := by
  unfold maxLen at hn
  obtain ⟨C, hC⟩ : ∃ C, C = bc b (.slice A n c) := ⟨_, rfl⟩
  rw [← hC]
  have HSZ := Lib.hid (show C.size = 49 by rw [hC]; exact bc_size hs)
  have HT := Lib.hid (show C[48]? = some (.slice A n c) by rw [hC]; exact bc_last hs)
  have HF := Lib.hid (show n ≤ 1000 → FrBo b (.agg C) w from fun h => ⟨A, n, c, by rw [hC], hr, by omega⟩)
  have HS := Lib.hid hs
  have HW := Lib.hid hw
  clear hC hs hw hr
  go_enter Tryz.func4, Tryz.ntmps4
  go_upto_region 1 with fail
  refine nameW ?_
  intro wv hwv
  obtain ⟨B, hB⟩ : ∃ B, B = w.heap.size := ⟨_, rfl⟩
  rw [← hB]
  obtain ⟨S, hS⟩ : ∃ S, S = B + 1 := ⟨_, rfl⟩
  have kb : Blk wv B 32 C := by rw [hwv, hB]; exact (Blk.new w _ _).alloc _
  have kS : Blk wv S 49 #[.int .i64 x, .int .i64 y, .int .i64 z] := by
    have h := Blk.new (w.alloc (.cells C 32)) 49 #[.int .i64 x, .int .i64 y, .int .i64 z]
    rw [hS, hwv, hB]
    simpa using h
  have gb : Below w.heap.size w wv := by rw [hwv]; exact ((Below.refl _ _).alloc (Nat.le_refl _) _).alloc (by simp) _
  rw [← hS]
  clear hwv hB hS
  go_wp2_with fail
  refine (balive_any _).mono ?_
  rintro e w1 ⟨rfl, bb⟩
  have kb := kb.below bb kb.lt
  have kS := kS.below bb kS.lt
  have gb := gb.trans (bb.mono gb.size)
  clear bb
  have t48 : w1.cell? ⟨B, 48, none⟩ = some (.slice A n c) := (kb.cell 48).trans HT.out
  by_cases hg1 : 1000 < n
  · have hd1 : decide ((1000 : Int) < (n : Int)) = true := decide_eq_true (by omega)
    go_wp2_with fail
    go_ret
    exact ⟨rfl, gb⟩
  have hd1 : decide ((1000 : Int) < (n : Int)) = false := decide_eq_false (by omega)
  go_upto_region 5 with fail
  have h2 : FrBo b (.agg C) w1 := (HF.out (by omega)).below gb
  clear t48 hd1 hg1 HF HT
  go_wp2_with first
    | ((with_reducible refine wpList_ld rowRBo kb HSZ.out ?_ ?_); rotate_left; (rfl))
  refine (boTo_any b HS.out _ _ h2).mono ?_
  rintro e wa ⟨q, rfl, h5, bb⟩
  obtain ⟨A5, n5, c5, rfl, r5, l5⟩ := h5
  have n5l : n5 = b.l.length := r5.1
  subst n5l
  have h5 : FoBo 84 b (.agg (bc b (.slice A5 b.l.length c5))) wa := ⟨A5, b.l.length, c5, rfl, r5, l5⟩
  have HT5 := Lib.hid (bc_last (s := .slice A5 b.l.length c5) HS.out)
  have s5 := h5.fresh.size HS.out
  have o5 := h5.fresh.one
  clear r5 l5
  have kb := kb.below bb kb.lt
  have kS := kS.below bb kS.lt
  have h2 := h2.below bb
  have gb := gb.trans (bb.mono gb.size)
  clear bb
  go_upto_region 6 with first
    | ((with_reducible refine wpList_ld rowRBo kb HSZ.out ?_ ?_); rotate_left; (rfl))
    | ((with_reducible refine wpList_st rowBo (Blk.new _ _ _) s5 ?_ o5 ?_ ?_ ?_); (rfl); rotate_left; (rfl); (rfl); intro gaw k5 ga gaz)
  have bb := new_below ga
  have h5 := h5.below bb
  have kb := kb.below bb kb.lt
  have kS := kS.below bb kS.lt
  have h2 := h2.below bb
  have gb := gb.trans (bb.mono gb.size)
  clear bb
  generalize hg5 : wa.heap.size = g5 at k5
  clear hg5 ga gaz o5
  obtain ⟨X, hX⟩ : ∃ X, X = Bo.wrote b x y z := ⟨_, rfl⟩
  have XS := Lib.hid (show Bo.Shaped X.1 by rw [hX]; exact wrote_shaped HS.out x y z)
  have XW := Lib.hid (show WfB X.1 by rw [hX]; exact wrote_wfB HS.out HW.out x y z)
  have hc1 := fun (w' : World) (q : Value) (h : FrBo b q w') => bwrote_any b HS.out x y z q w' h
  rw [← hX] at hc1
  have HC1 := Lib.hid hc1
  have HX := Lib.hid hX
  clear hc1 hX
  obtain ⟨xb, xe⟩ := X
  simp only at XS XW HC1
  have c0 : gaw.cell? ⟨S, 0, none⟩ = some (.int .i64 x) := (kS.cell 0).trans rfl
  have c1 : gaw.cell? ⟨S, 1, none⟩ = some (.int .i64 y) := (kS.cell 1).trans rfl
  have c2 : gaw.cell? ⟨S, 2, none⟩ = some (.int .i64 z) := (kS.cell 2).trans rfl
  go_wp2_with first
    | ((with_reducible refine wpList_ld rowRBo kb HSZ.out ?_ ?_); rotate_left; (rfl))
    | ((with_reducible refine wpList_ld rowBo k5 s5 ?_ ?_); rotate_left; (rfl))
  refine (HC1.out _ _ h5.fresh).mono ?_
  rintro e wc ⟨q, rfl, h6, bb⟩
  clear c0 c1 c2
  obtain ⟨A6, n6, c6, rfl, r6, l6⟩ := h6
  have h6 : FoBo 84 xb (.agg (bc xb (.slice A6 n6 c6))) wc := ⟨A6, n6, c6, rfl, r6, l6⟩
  have HL6 := Lib.hid r6.1
  have HT6 := Lib.hid (bc_last (s := .slice A6 n6 c6) XS.out)
  have s6 := h6.fresh.size XS.out
  have o6 := h6.fresh.one
  clear r6 l6
  have kb := kb.below bb kb.lt
  have kS := kS.below bb kS.lt
  have k5 := k5.below bb k5.lt
  have h2 := h2.below bb
  have h5 := h5.below bb
  have gb := gb.trans (bb.mono gb.size)
  clear bb
  go_upto_region 7 with first
    | ((with_reducible refine wpList_ld rowRBo kb HSZ.out ?_ ?_); rotate_left; (rfl))
    | ((with_reducible refine wpList_ld rowBo k5 s5 ?_ ?_); rotate_left; (rfl))
    | ((with_reducible refine wpList_st rowBo (Blk.new _ _ _) s6 ?_ o6 ?_ ?_ ?_); (rfl); rotate_left; (rfl); (rfl); intro gdw k6 gd gdz)
  have bb := new_below gd
  have h6 := h6.below bb
  have kb := kb.below bb kb.lt
  have kS := kS.below bb kS.lt
  have k5 := k5.below bb k5.lt
  have h2 := h2.below bb
  have h5 := h5.below bb
  have gb := gb.trans (bb.mono gb.size)
  clear bb
  generalize hg6 : wc.heap.size = g6 at k6
  clear hg6 gd gdz o6
  have h2v := h2
  have h5v := h5
  have h6v := h6
  clear h2 h5 h6
  by_cases hxe : xe = 0
  case neg =>
    have hq : (xe != 0) = true := by simpa using hxe
    have hxz := Bo.wrote_err HX.out.symm hxe
    subst hxz
    have HBD := Lib.hid fun (w : World) => (show (Instr.build 32 #[]).run Tryz.prog w = .ok (.agg (bc Bo.zero (.slice none 0 0))) w by kernel_rfl)
    have XZ := Lib.hid fun (w : World) => (show FrBo Bo.zero (.agg (bc Bo.zero (.slice none 0 0))) w from ⟨none, 0, 0, rfl, RdV.nil _ _ _, by omega⟩)
    clear HX hxe
    go_wp2_with ((with_reducible refine wpList_ld rowBo k6 s6 ?_ ?_); rotate_left; (rfl))
    refine (boFrom_any Bo.zero XS.out _ _ h6v.fresh).mono ?_
    rintro e we ⟨q, rfl, h7, bb⟩
    have gb := gb.trans (bb.mono gb.size)
    obtain ⟨C7, rfl⟩ := h7.fresh.agg
    go_wp2_with ((refine wpList_bdV (v := .agg (bc Bo.zero (.slice none 0 0))) (w' := _) rfl 32 #[] rfl ?_ ?_); (simp only [List.map_toArray, List.map_nil]; exact HBD.out _))
    refine (sameTB Bo.zero_shaped zero_wfB h7.fresh (XZ.out _)).mono ?_
    rintro e wf ⟨rfl, bb2⟩
    have gb := gb.trans (bb2.mono gb.size)
    go_wp2_with fail
    go_ret
    exact ⟨rfl, gb⟩
  case pos =>
  subst hxe
  obtain ⟨hok, hrr, hpl, hvl, hnt⟩ := And.intro (Bo.wrote_ok HX.out.symm) (And.intro (Bo.wrote_right HX.out.symm HS.out) (And.intro (Bo.wrote_join HX.out.symm HS.out) (And.intro (Bo.wrote_value HX.out.symm HS.out) (Bo.wrote_notes HX.out.symm))))
  have hb1 := hok.2.1
  have hb2 := hok.2.2.1
  have hb3 := hok.2.2.2.1
  clear hok
  obtain ⟨m, hm8, rfl⟩ : ∃ m : Nat, m < 8 ∧ y = m := ⟨y.toNat, by omega, by omega⟩
  obtain ⟨tm, htm⟩ := Bo.wrote_plan HX.out.symm HS.out
  have h6l : n6 = b.l.length := by rw [HL6.out, hnt.1]
  subst h6l
  have hj := fun (w' : World) (q q2 : Value) (h : FrBo xb q w') (h2 : FrBo b q2 w') => boJoin_any xb b XS.out HS.out q q2 w' h h2
  rw [hpl] at hj
  have HJ := Lib.hid hj
  obtain ⟨vb, hvb⟩ : ∃ vb, vb = Tally.valueL b.t := ⟨_, rfl⟩
  have hv1 := fun w => value_any xb.t w XS.out.t
  have hv2 := fun w => value_any b.t w HS.out.t
  rw [hvl, ← hvb] at hv1
  rw [← hvb] at hv2
  have HV1 := Lib.hid hv1
  have HV2 := Lib.hid hv2
  have hwr : IntKind.i64.wrap (vb + 1) = vb + 1 := by
    have := Bo.value_bd (t := b.t)
    rw [← hvb] at this
    exact IntWalk.i64_in _ (by omega)
  have HWR := Lib.hid hwr
  have HTM := Lib.hid htm
  have T6 := Lib.hid (show (tc xb.t).size = 16 by rw [tc_size, XS.out.t])
  have T5 := Lib.hid (show (tc b.t).size = 16 by rw [tc_size, HS.out.t])
  clear hj hv1 hv2 hwr htm hvb hpl hvl hnt hrr HX
  go_wp2_with first
    | ((with_reducible refine wpList_ld rowRBo kb HSZ.out ?_ ?_); rotate_left; (rfl))
    | ((with_reducible refine wpList_ld rowBo k5 s5 ?_ ?_); rotate_left; (rfl))
    | ((with_reducible refine wpList_ld rowBo k6 s6 ?_ ?_); rotate_left; (rfl))
  refine (HJ.out _ _ _ h6v.fresh h5v.fresh).mono ?_
  rintro e we ⟨q, rfl, h8, bb⟩
  obtain ⟨C8, rfl⟩ := h8.fresh.agg
  have s8 := h8.fresh.size XS.out
  have o8 := h8.fresh.one
  have h2 := h2v
  have h5 := h5v
  have h6 := h6v
  clear h2v h5v h6v
  have kb := kb.below bb kb.lt
  have kS := kS.below bb kS.lt
  have k5 := k5.below bb k5.lt
  have k6 := k6.below bb k6.lt
  have h2 := h2.below bb
  have h5 := h5.below bb
  have h6 := h6.below bb
  have gb := gb.trans (bb.mono gb.size)
  clear bb
  go_upto_region 10 with first
    | ((with_reducible refine wpList_ld rowRBo kb HSZ.out ?_ ?_); rotate_left; (rfl))
    | ((with_reducible refine wpList_ld rowBo k5 s5 ?_ ?_); rotate_left; (rfl))
    | ((with_reducible refine wpList_ld rowBo k6 s6 ?_ ?_); rotate_left; (rfl))
    | ((with_reducible refine wpList_st rowBo (Blk.new _ _ _) s8 ?_ o8 ?_ ?_ ?_); (rfl); rotate_left; (rfl); (rfl); intro gfw k8 gf gfz)
  have bb := new_below gf
  have h8 := h8.below bb
  have kb := kb.below bb kb.lt
  have kS := kS.below bb kS.lt
  have k5 := k5.below bb k5.lt
  have k6 := k6.below bb k6.lt
  have h2 := h2.below bb
  have h5 := h5.below bb
  have h6 := h6.below bb
  have gb := gb.trans (bb.mono gb.size)
  clear bb
  generalize hg8 : we.heap.size = g8 at k8
  clear hg8 gf gfz o8
  have h6v := h6
  have h8v := h8
  clear h2 h5 h6 h8 kb HJ
  have hm0 : (0 : Int) ≤ (m : Int) := by omega
  have hm1 : (m : Int) < 8 := by omega
  refine wp_region_facts (fun L v w => v 8 = .pointer (some ⟨g8, 0, none⟩) ∧ v 6 = .pointer (some ⟨g6, 0, none⟩) ∧ v 5 = .pointer (some ⟨g5, 0, none⟩) ∧ v 3 = .pointer (some ⟨S, 0, none⟩) ∧ Below gfw.heap.size gfw w ∧ (L 0 = true → v 38 = .agg C8) ∧ (L 1 = true → FoBo 121 xb (v 39) w) ∧ (L 2 = true → v 40 = .agg (bc xb (.slice A6 b.l.length c6))) ∧ (L 3 = true → FoBo 121 xb (v 41) w) ∧ (L 4 = true → v 42 = .bool true) ∧ (L 5 = true → v 43 = .bool true) ∧ (L 6 = true → v 44 = .pointer (some ⟨S, 1, none⟩)) ∧ (L 7 = true → v 45 = .int .i64 (m : Nat)) ∧ (L 8 = true → v 46 = .pointer (some ⟨g6, 16, none⟩)) ∧ (L 9 = true → v 47 = .pointer (some ⟨g6, 16 + m * 3, none⟩)) ∧ (L 10 = true → v 48 = .pointer (some ⟨g6, 16 + m * 3 + 2, none⟩)) ∧ (L 11 = true → v 49 = .int .i64 z) ∧ (L 12 = true → v 50 = .pointer (some ⟨S, 2, none⟩)) ∧ (L 13 = true → v 51 = .int .i64 z) ∧ (L 14 = true → v 52 = .bool true) ∧ (L 15 = true → v 53 = .bool true) ∧ (L 16 = true → v 54 = .bool true) ∧ (L 17 = true → v 55 = .pointer (some ⟨S, 1, none⟩)) ∧ (L 18 = true → v 56 = .int .i64 (m : Nat)) ∧ (L 19 = true → v 57 = .pointer (some ⟨g6, 16, none⟩)) ∧ (L 20 = true → v 58 = .pointer (some ⟨g6, 16 + m * 3, none⟩)) ∧ (L 21 = true → v 59 = .pointer (some ⟨g6, 16 + m * 3 + 1, none⟩)) ∧ (L 22 = true → v 60 = .int .i64 x) ∧ (L 23 = true → v 61 = .pointer (some ⟨S, 0, none⟩)) ∧ (L 24 = true → v 62 = .int .i64 x) ∧ (L 25 = true → v 63 = .bool true) ∧ (L 26 = true → v 64 = .bool true) ∧ (L 27 = true → v 65 = .bool true) ∧ (L 28 = true → v 66 = .pointer (some ⟨g6, 0, none⟩)) ∧ (L 29 = true → v 67 = .agg (tc xb.t)) ∧ (L 30 = true → v 68 = .int .i64 (vb + 1)) ∧ (L 31 = true → v 69 = .pointer (some ⟨g5, 0, none⟩)) ∧ (L 32 = true → v 70 = .agg (tc b.t)) ∧ (L 33 = true → v 71 = .int .i64 vb) ∧ (L 34 = true → v 72 = .int .i64 (vb + 1)) ∧ (L 35 = true → v 73 = .bool true) ∧ (L 36 = true → v 74 = .bool true) ∧ (L 37 = true → v 75 = .bool true) ∧ (L 38 = true → v 76 = .pointer (some ⟨g6, 40, none⟩)) ∧ (L 39 = true → v 77 = .pointer (some ⟨g6, 48, none⟩)) ∧ (L 40 = true → v 78 = .slice A6 b.l.length c6) ∧ (L 41 = true → v 79 = .int .i64 (b.l.length : Nat)) ∧ (L 42 = true → v 80 = .pointer (some ⟨g5, 40, none⟩)) ∧ (L 43 = true → v 81 = .pointer (some ⟨g5, 48, none⟩)) ∧ (L 44 = true → v 82 = .slice A5 b.l.length c5) ∧ (L 45 = true → v 83 = .int .i64 (b.l.length : Nat)) ∧ (L 46 = true → v 84 = .bool true) ∧ (L 47 = true → v 85 = .bool true) ∧ (L 48 = true → v 4 = .bool true)) [38, 39, 40, 41, 42, 43, 44, 45, 46, 47, 48, 49, 50, 51, 52, 53, 54, 55, 56, 57, 58, 59, 60, 61, 62, 63, 64, 65, 66, 67, 68, 69, 70, 71, 72, 73, 74, 75, 76, 77, 78, 79, 80, 81, 82, 83, 84, 85, 4] (by kernel_rfl) (by kernel_rfl) (by kernel_rfl) (by kernel_rfl) ?h0 ?hst ?hend
  case h0 =>
    intro L h0
    have h0 : ∀ i, i < 49 → L i = false := h0
    exact ⟨rfl, rfl, rfl, rfl, (Below.refl _ _).drew, offF h0 (i := 0) (by decide), offF h0 (i := 1) (by decide), offF h0 (i := 2) (by decide), offF h0 (i := 3) (by decide), offF h0 (i := 4) (by decide), offF h0 (i := 5) (by decide), offF h0 (i := 6) (by decide), offF h0 (i := 7) (by decide), offF h0 (i := 8) (by decide), offF h0 (i := 9) (by decide), offF h0 (i := 10) (by decide), offF h0 (i := 11) (by decide), offF h0 (i := 12) (by decide), offF h0 (i := 13) (by decide), offF h0 (i := 14) (by decide), offF h0 (i := 15) (by decide), offF h0 (i := 16) (by decide), offF h0 (i := 17) (by decide), offF h0 (i := 18) (by decide), offF h0 (i := 19) (by decide), offF h0 (i := 20) (by decide), offF h0 (i := 21) (by decide), offF h0 (i := 22) (by decide), offF h0 (i := 23) (by decide), offF h0 (i := 24) (by decide), offF h0 (i := 25) (by decide), offF h0 (i := 26) (by decide), offF h0 (i := 27) (by decide), offF h0 (i := 28) (by decide), offF h0 (i := 29) (by decide), offF h0 (i := 30) (by decide), offF h0 (i := 31) (by decide), offF h0 (i := 32) (by decide), offF h0 (i := 33) (by decide), offF h0 (i := 34) (by decide), offF h0 (i := 35) (by decide), offF h0 (i := 36) (by decide), offF h0 (i := 37) (by decide), offF h0 (i := 38) (by decide), offF h0 (i := 39) (by decide), offF h0 (i := 40) (by decide), offF h0 (i := 41) (by decide), offF h0 (i := 42) (by decide), offF h0 (i := 43) (by decide), offF h0 (i := 44) (by decide), offF h0 (i := 45) (by decide), offF h0 (i := 46) (by decide), offF h0 (i := 47) (by decide), offF h0 (i := 48) (by decide)⟩
  case hst =>
    show FactSteps _ _ _ _ [0, 1, 2, 3, 4, 5, 6, 7, 8, 9, 10, 11, 12, 13, 14, 15, 16, 17, 18, 19, 20, 21, 22, 23, 24, 25, 26, 27, 28, 29, 30, 31, 32, 33, 34, 35, 36, 37, 38, 39, 40, 41, 42, 43, 44, 45, 46, 47, 48]
    refine @FactSteps.cons _ _ _ _ 0 _ [] _ rfl (by kernel_rfl) ?s0 ?_
    rotate_left
    refine @FactSteps.cons _ _ _ _ 1 _ [0] _ rfl (by kernel_rfl) ?s1 ?_
    rotate_left
    refine @FactSteps.cons _ _ _ _ 2 _ [] _ rfl (by kernel_rfl) ?s2 ?_
    rotate_left
    refine @FactSteps.cons _ _ _ _ 3 _ [2, 1] _ rfl (by kernel_rfl) ?s3 ?_
    rotate_left
    refine @FactSteps.cons _ _ _ _ 4 _ [1, 3, 3] _ rfl (by kernel_rfl) ?s4 ?_
    rotate_left
    refine @FactSteps.cons _ _ _ _ 5 _ [4, 4] _ rfl (by kernel_rfl) ?s5 ?_
    rotate_left
    refine @FactSteps.cons _ _ _ _ 6 _ [5] _ rfl (by kernel_rfl) ?s6 ?_
    rotate_left
    refine @FactSteps.cons _ _ _ _ 7 _ [6, 5] _ rfl (by kernel_rfl) ?s7 ?_
    rotate_left
    refine @FactSteps.cons _ _ _ _ 8 _ [5] _ rfl (by kernel_rfl) ?s8 ?_
    rotate_left
    refine @FactSteps.cons _ _ _ _ 9 _ [8, 7, 5] _ rfl (by kernel_rfl) ?s9 ?_
    rotate_left
    refine @FactSteps.cons _ _ _ _ 10 _ [9, 5] _ rfl (by kernel_rfl) ?s10 ?_
    rotate_left
    refine @FactSteps.cons _ _ _ _ 11 _ [10, 5] _ rfl (by kernel_rfl) ?s11 ?_
    rotate_left
    refine @FactSteps.cons _ _ _ _ 12 _ [5] _ rfl (by kernel_rfl) ?s12 ?_
    rotate_left
    refine @FactSteps.cons _ _ _ _ 13 _ [12, 5] _ rfl (by kernel_rfl) ?s13 ?_
    rotate_left
    refine @FactSteps.cons _ _ _ _ 14 _ [11, 13, 5] _ rfl (by kernel_rfl) ?s14 ?_
    rotate_left
    refine @FactSteps.cons _ _ _ _ 15 _ [5, 14] _ rfl (by kernel_rfl) ?s15 ?_
    rotate_left
    refine @FactSteps.cons _ _ _ _ 16 _ [15, 5] _ rfl (by kernel_rfl) ?s16 ?_
    rotate_left
    refine @FactSteps.cons _ _ _ _ 17 _ [16] _ rfl (by kernel_rfl) ?s17 ?_
    rotate_left
    refine @FactSteps.cons _ _ _ _ 18 _ [17, 16] _ rfl (by kernel_rfl) ?s18 ?_
    rotate_left
    refine @FactSteps.cons _ _ _ _ 19 _ [16] _ rfl (by kernel_rfl) ?s19 ?_
    rotate_left
    refine @FactSteps.cons _ _ _ _ 20 _ [19, 18, 16] _ rfl (by kernel_rfl) ?s20 ?_
    rotate_left
    refine @FactSteps.cons _ _ _ _ 21 _ [20, 16] _ rfl (by kernel_rfl) ?s21 ?_
    rotate_left
    refine @FactSteps.cons _ _ _ _ 22 _ [21, 16] _ rfl (by kernel_rfl) ?s22 ?_
    rotate_left
    refine @FactSteps.cons _ _ _ _ 23 _ [16] _ rfl (by kernel_rfl) ?s23 ?_
    rotate_left
    refine @FactSteps.cons _ _ _ _ 24 _ [23, 16] _ rfl (by kernel_rfl) ?s24 ?_
    rotate_left
    refine @FactSteps.cons _ _ _ _ 25 _ [22, 24, 16] _ rfl (by kernel_rfl) ?s25 ?_
    rotate_left
    refine @FactSteps.cons _ _ _ _ 26 _ [16, 25] _ rfl (by kernel_rfl) ?s26 ?_
    rotate_left
    refine @FactSteps.cons _ _ _ _ 27 _ [26, 16] _ rfl (by kernel_rfl) ?s27 ?_
    rotate_left
    refine @FactSteps.cons _ _ _ _ 28 _ [27] _ rfl (by kernel_rfl) ?s28 ?_
    rotate_left
    refine @FactSteps.cons _ _ _ _ 29 _ [28, 27] _ rfl (by kernel_rfl) ?s29 ?_
    rotate_left
    refine @FactSteps.cons _ _ _ _ 30 _ [29, 27, 27] _ rfl (by kernel_rfl) ?s30 ?_
    rotate_left
    refine @FactSteps.cons _ _ _ _ 31 _ [27] _ rfl (by kernel_rfl) ?s31 ?_
    rotate_left
    refine @FactSteps.cons _ _ _ _ 32 _ [31, 27] _ rfl (by kernel_rfl) ?s32 ?_
    rotate_left
    refine @FactSteps.cons _ _ _ _ 33 _ [32, 30, 27] _ rfl (by kernel_rfl) ?s33 ?_
    rotate_left
    refine @FactSteps.cons _ _ _ _ 34 _ [33, 27] _ rfl (by kernel_rfl) ?s34 ?_
    rotate_left
    refine @FactSteps.cons _ _ _ _ 35 _ [30, 34, 27] _ rfl (by kernel_rfl) ?s35 ?_
    rotate_left
    refine @FactSteps.cons _ _ _ _ 36 _ [27, 35] _ rfl (by kernel_rfl) ?s36 ?_
    rotate_left
    refine @FactSteps.cons _ _ _ _ 37 _ [36, 33] _ rfl (by kernel_rfl) ?s37 ?_
    rotate_left
    refine @FactSteps.cons _ _ _ _ 38 _ [37] _ rfl (by kernel_rfl) ?s38 ?_
    rotate_left
    refine @FactSteps.cons _ _ _ _ 39 _ [38, 37] _ rfl (by kernel_rfl) ?s39 ?_
    rotate_left
    refine @FactSteps.cons _ _ _ _ 40 _ [39, 37] _ rfl (by kernel_rfl) ?s40 ?_
    rotate_left
    refine @FactSteps.cons _ _ _ _ 41 _ [40, 37] _ rfl (by kernel_rfl) ?s41 ?_
    rotate_left
    refine @FactSteps.cons _ _ _ _ 42 _ [37] _ rfl (by kernel_rfl) ?s42 ?_
    rotate_left
    refine @FactSteps.cons _ _ _ _ 43 _ [42, 37] _ rfl (by kernel_rfl) ?s43 ?_
    rotate_left
    refine @FactSteps.cons _ _ _ _ 44 _ [43, 37] _ rfl (by kernel_rfl) ?s44 ?_
    rotate_left
    refine @FactSteps.cons _ _ _ _ 45 _ [44, 37] _ rfl (by kernel_rfl) ?s45 ?_
    rotate_left
    refine @FactSteps.cons _ _ _ _ 46 _ [41, 45, 37] _ rfl (by kernel_rfl) ?s46 ?_
    rotate_left
    refine @FactSteps.cons _ _ _ _ 47 _ [37, 46] _ rfl (by kernel_rfl) ?s47 ?_
    rotate_left
    refine @FactSteps.cons _ _ _ _ 48 _ [47, 37, 0, 1, 2, 3, 4, 5, 6, 7, 8, 9, 10, 11, 12, 13, 14, 15, 16, 17, 18, 19, 20, 21, 22, 23, 24, 25, 26, 27, 28, 29, 30, 31, 32, 33, 34, 35, 36, 37, 38, 39, 40, 41, 42, 43, 44, 45, 46, 47] _ rfl (by kernel_rfl) ?s48 ?_
    rotate_left
    exact FactSteps.nil
    case s0 =>
      rintro L a v w hv hg hL hd hcl ⟨e8, e6, e5, e3, hb, f0, f1, f2, f3, f4, f5, f6, f7, f8, f9, f10, f11, f12, f13, f14, f15, f16, f17, f18, f19, f20, f21, f22, f23, f24, f25, f26, f27, f28, f29, f30, f31, f32, f33, f34, f35, f36, f37, f38, f39, f40, f41, f42, f43, f44, f45, f46, f47, f48⟩ K hK
      refine step_do rfl ?_
      refine wp_ld rowBo (.tmp 8) rfl ((hv 8).trans e8) (k8.below hb k8.lt) s8 ?_
      exact hK.out _ _ ⟨e8, e6, e5, e3, hb, fun _ => rfl, f1, f2, f3, f4, f5, f6, f7, f8, f9, f10, f11, f12, f13, f14, f15, f16, f17, f18, f19, f20, f21, f22, f23, f24, f25, f26, f27, f28, f29, f30, f31, f32, f33, f34, f35, f36, f37, f38, f39, f40, f41, f42, f43, f44, f45, f46, f47, f48⟩
    case s1 =>
      rintro L a v w hv hg hL hd hcl ⟨e8, e6, e5, e3, hb, f0, f1, f2, f3, f4, f5, f6, f7, f8, f9, f10, f11, f12, f13, f14, f15, f16, f17, f18, f19, f20, f21, f22, f23, f24, f25, f26, f27, f28, f29, f30, f31, f32, f33, f34, f35, f36, f37, f38, f39, f40, f41, f42, f43, f44, f45, f46, f47, f48⟩ K hK
      have h0 := f0 (hd 0 (by decide))
      refine step_do rfl ?_
      clear hv
      go_simp
      refine (boFrom_any xb XS.out _ _ (h8v.below hb).fresh).mono ?_
      rintro e wy ⟨q, rfl, hq, bb⟩
      exact hK.out _ _ ⟨e8, e6, e5, e3, (hb.trans (bb.mono hb.size)), f0, fun _ => hq, f2, (fun h => (f3 h).below bb), f4, f5, f6, f7, f8, f9, f10, f11, f12, f13, f14, f15, f16, f17, f18, f19, f20, f21, f22, f23, f24, f25, f26, f27, f28, f29, f30, f31, f32, f33, f34, f35, f36, f37, f38, f39, f40, f41, f42, f43, f44, f45, f46, f47, f48⟩
    case s2 =>
      rintro L a v w hv hg hL hd hcl ⟨e8, e6, e5, e3, hb, f0, f1, f2, f3, f4, f5, f6, f7, f8, f9, f10, f11, f12, f13, f14, f15, f16, f17, f18, f19, f20, f21, f22, f23, f24, f25, f26, f27, f28, f29, f30, f31, f32, f33, f34, f35, f36, f37, f38, f39, f40, f41, f42, f43, f44, f45, f46, f47, f48⟩ K hK
      refine step_do rfl ?_
      refine wp_ld rowBo (.tmp 6) rfl ((hv 6).trans e6) (k6.below hb k6.lt) s6 ?_
      exact hK.out _ _ ⟨e8, e6, e5, e3, hb, f0, f1, fun _ => rfl, f3, f4, f5, f6, f7, f8, f9, f10, f11, f12, f13, f14, f15, f16, f17, f18, f19, f20, f21, f22, f23, f24, f25, f26, f27, f28, f29, f30, f31, f32, f33, f34, f35, f36, f37, f38, f39, f40, f41, f42, f43, f44, f45, f46, f47, f48⟩
    case s3 =>
      rintro L a v w hv hg hL hd hcl ⟨e8, e6, e5, e3, hb, f0, f1, f2, f3, f4, f5, f6, f7, f8, f9, f10, f11, f12, f13, f14, f15, f16, f17, f18, f19, f20, f21, f22, f23, f24, f25, f26, f27, f28, f29, f30, f31, f32, f33, f34, f35, f36, f37, f38, f39, f40, f41, f42, f43, f44, f45, f46, f47, f48⟩ K hK
      have h2 := f2 (hd 2 (by decide))
      refine step_do rfl ?_
      clear hv
      go_simp
      refine (boFrom_any xb XS.out _ _ (h6v.below hb).fresh).mono ?_
      rintro e wy ⟨q, rfl, hq, bb⟩
      exact hK.out _ _ ⟨e8, e6, e5, e3, (hb.trans (bb.mono hb.size)), f0, (fun h => (f1 h).below bb), f2, fun _ => hq, f4, f5, f6, f7, f8, f9, f10, f11, f12, f13, f14, f15, f16, f17, f18, f19, f20, f21, f22, f23, f24, f25, f26, f27, f28, f29, f30, f31, f32, f33, f34, f35, f36, f37, f38, f39, f40, f41, f42, f43, f44, f45, f46, f47, f48⟩
    case s4 =>
      rintro L a v w hv hg hL hd hcl ⟨e8, e6, e5, e3, hb, f0, f1, f2, f3, f4, f5, f6, f7, f8, f9, f10, f11, f12, f13, f14, f15, f16, f17, f18, f19, f20, f21, f22, f23, f24, f25, f26, f27, f28, f29, f30, f31, f32, f33, f34, f35, f36, f37, f38, f39, f40, f41, f42, f43, f44, f45, f46, f47, f48⟩ K hK
      have h1 := f1 (hd 1 (by decide))
      have h3 := f3 (hd 3 (by decide))
      refine step_do rfl ?_
      clear hv
      go_simp
      refine (sameTB XS.out XW.out h1.fresh h3.fresh).mono ?_
      rintro e wy ⟨rfl, bb⟩
      exact hK.out _ _ ⟨e8, e6, e5, e3, (hb.trans (bb.mono hb.size)), f0, (fun h => (f1 h).below bb), f2, (fun h => (f3 h).below bb), fun _ => rfl, f5, f6, f7, f8, f9, f10, f11, f12, f13, f14, f15, f16, f17, f18, f19, f20, f21, f22, f23, f24, f25, f26, f27, f28, f29, f30, f31, f32, f33, f34, f35, f36, f37, f38, f39, f40, f41, f42, f43, f44, f45, f46, f47, f48⟩
    case s5 =>
      rintro L a v w hv hg hL hd hcl ⟨e8, e6, e5, e3, hb, f0, f1, f2, f3, f4, f5, f6, f7, f8, f9, f10, f11, f12, f13, f14, f15, f16, f17, f18, f19, f20, f21, f22, f23, f24, f25, f26, f27, f28, f29, f30, f31, f32, f33, f34, f35, f36, f37, f38, f39, f40, f41, f42, f43, f44, f45, f46, f47, f48⟩ K hK
      refine step_do rfl ?_
      clear hv
      go_simp
      exact hK.out _ _ ⟨e8, e6, e5, e3, hb, f0, f1, f2, f3, f4, fun _ => rfl, f6, f7, f8, f9, f10, f11, f12, f13, f14, f15, f16, f17, f18, f19, f20, f21, f22, f23, f24, f25, f26, f27, f28, f29, f30, f31, f32, f33, f34, f35, f36, f37, f38, f39, f40, f41, f42, f43, f44, f45, f46, f47, f48⟩
    case s6 =>
      rintro L a v w hv hg hL hd hcl ⟨e8, e6, e5, e3, hb, f0, f1, f2, f3, f4, f5, f6, f7, f8, f9, f10, f11, f12, f13, f14, f15, f16, f17, f18, f19, f20, f21, f22, f23, f24, f25, f26, f27, f28, f29, f30, f31, f32, f33, f34, f35, f36, f37, f38, f39, f40, f41, f42, f43, f44, f45, f46, f47, f48⟩ K hK
      have g5 := f5 (hd 5 (by decide))
      refine step_want (j := 5) (s := 43) (b := true) rfl rfl ((hv 43).trans (f5 (hd 5 (by decide)))) ?_
      clear hv
      go_simp
      exact hK.out _ _ ⟨e8, e6, e5, e3, hb, f0, f1, f2, f3, f4, f5, fun _ => rfl, f7, f8, f9, f10, f11, f12, f13, f14, f15, f16, f17, f18, f19, f20, f21, f22, f23, f24, f25, f26, f27, f28, f29, f30, f31, f32, f33, f34, f35, f36, f37, f38, f39, f40, f41, f42, f43, f44, f45, f46, f47, f48⟩
    case s7 =>
      rintro L a v w hv hg hL hd hcl ⟨e8, e6, e5, e3, hb, f0, f1, f2, f3, f4, f5, f6, f7, f8, f9, f10, f11, f12, f13, f14, f15, f16, f17, f18, f19, f20, f21, f22, f23, f24, f25, f26, f27, f28, f29, f30, f31, f32, f33, f34, f35, f36, f37, f38, f39, f40, f41, f42, f43, f44, f45, f46, f47, f48⟩ K hK
      have g5 := f5 (hd 5 (by decide))
      have g6 := f6 (hd 6 (by decide))
      have cx : w.cell? ⟨S, 1, none⟩ = some (.int .i64 (m : Nat)) := (((kS.below hb kS.lt).cell 1).trans rfl)
      refine step_want (j := 5) (s := 43) (b := true) rfl rfl ((hv 43).trans (f5 (hd 5 (by decide)))) ?_
      clear hv
      go_simp
      exact hK.out _ _ ⟨e8, e6, e5, e3, hb, f0, f1, f2, f3, f4, f5, f6, fun _ => rfl, f8, f9, f10, f11, f12, f13, f14, f15, f16, f17, f18, f19, f20, f21, f22, f23, f24, f25, f26, f27, f28, f29, f30, f31, f32, f33, f34, f35, f36, f37, f38, f39, f40, f41, f42, f43, f44, f45, f46, f47, f48⟩
    case s8 =>
      rintro L a v w hv hg hL hd hcl ⟨e8, e6, e5, e3, hb, f0, f1, f2, f3, f4, f5, f6, f7, f8, f9, f10, f11, f12, f13, f14, f15, f16, f17, f18, f19, f20, f21, f22, f23, f24, f25, f26, f27, f28, f29, f30, f31, f32, f33, f34, f35, f36, f37, f38, f39, f40, f41, f42, f43, f44, f45, f46, f47, f48⟩ K hK
      have g5 := f5 (hd 5 (by decide))
      refine step_want (j := 5) (s := 43) (b := true) rfl rfl ((hv 43).trans (f5 (hd 5 (by decide)))) ?_
      clear hv
      go_simp
      exact hK.out _ _ ⟨e8, e6, e5, e3, hb, f0, f1, f2, f3, f4, f5, f6, f7, fun _ => rfl, f9, f10, f11, f12, f13, f14, f15, f16, f17, f18, f19, f20, f21, f22, f23, f24, f25, f26, f27, f28, f29, f30, f31, f32, f33, f34, f35, f36, f37, f38, f39, f40, f41, f42, f43, f44, f45, f46, f47, f48⟩
    case s9 =>
      rintro L a v w hv hg hL hd hcl ⟨e8, e6, e5, e3, hb, f0, f1, f2, f3, f4, f5, f6, f7, f8, f9, f10, f11, f12, f13, f14, f15, f16, f17, f18, f19, f20, f21, f22, f23, f24, f25, f26, f27, f28, f29, f30, f31, f32, f33, f34, f35, f36, f37, f38, f39, f40, f41, f42, f43, f44, f45, f46, f47, f48⟩ K hK
      have g5 := f5 (hd 5 (by decide))
      have g7 := f7 (hd 7 (by decide))
      have g8 := f8 (hd 8 (by decide))
      refine step_want (j := 5) (s := 43) (b := true) rfl rfl ((hv 43).trans (f5 (hd 5 (by decide)))) ?_
      clear hv
      go_simp
      exact hK.out _ _ ⟨e8, e6, e5, e3, hb, f0, f1, f2, f3, f4, f5, f6, f7, f8, fun _ => rfl, f10, f11, f12, f13, f14, f15, f16, f17, f18, f19, f20, f21, f22, f23, f24, f25, f26, f27, f28, f29, f30, f31, f32, f33, f34, f35, f36, f37, f38, f39, f40, f41, f42, f43, f44, f45, f46, f47, f48⟩
    case s10 =>
      rintro L a v w hv hg hL hd hcl ⟨e8, e6, e5, e3, hb, f0, f1, f2, f3, f4, f5, f6, f7, f8, f9, f10, f11, f12, f13, f14, f15, f16, f17, f18, f19, f20, f21, f22, f23, f24, f25, f26, f27, f28, f29, f30, f31, f32, f33, f34, f35, f36, f37, f38, f39, f40, f41, f42, f43, f44, f45, f46, f47, f48⟩ K hK
      have g5 := f5 (hd 5 (by decide))
      have g9 := f9 (hd 9 (by decide))
      refine step_want (j := 5) (s := 43) (b := true) rfl rfl ((hv 43).trans (f5 (hd 5 (by decide)))) ?_
      clear hv
      go_simp
      exact hK.out _ _ ⟨e8, e6, e5, e3, hb, f0, f1, f2, f3, f4, f5, f6, f7, f8, f9, fun _ => rfl, f11, f12, f13, f14, f15, f16, f17, f18, f19, f20, f21, f22, f23, f24, f25, f26, f27, f28, f29, f30, f31, f32, f33, f34, f35, f36, f37, f38, f39, f40, f41, f42, f43, f44, f45, f46, f47, f48⟩
    case s11 =>
      rintro L a v w hv hg hL hd hcl ⟨e8, e6, e5, e3, hb, f0, f1, f2, f3, f4, f5, f6, f7, f8, f9, f10, f11, f12, f13, f14, f15, f16, f17, f18, f19, f20, f21, f22, f23, f24, f25, f26, f27, f28, f29, f30, f31, f32, f33, f34, f35, f36, f37, f38, f39, f40, f41, f42, f43, f44, f45, f46, f47, f48⟩ K hK
      have g5 := f5 (hd 5 (by decide))
      have g10 := f10 (hd 10 (by decide))
      have cx : w.cell? ⟨g6, 16 + m * 3 + 2, none⟩ = some (.int .i64 z) := (by have hpl := (k6.below hb k6.lt).plan XS.out hm8; rw [HTM.out] at hpl; exact hpl 2 _ rfl)
      refine step_want (j := 5) (s := 43) (b := true) rfl rfl ((hv 43).trans (f5 (hd 5 (by decide)))) ?_
      clear hv
      go_simp
      exact hK.out _ _ ⟨e8, e6, e5, e3, hb, f0, f1, f2, f3, f4, f5, f6, f7, f8, f9, f10, fun _ => rfl, f12, f13, f14, f15, f16, f17, f18, f19, f20, f21, f22, f23, f24, f25, f26, f27, f28, f29, f30, f31, f32, f33, f34, f35, f36, f37, f38, f39, f40, f41, f42, f43, f44, f45, f46, f47, f48⟩
    case s12 =>
      rintro L a v w hv hg hL hd hcl ⟨e8, e6, e5, e3, hb, f0, f1, f2, f3, f4, f5, f6, f7, f8, f9, f10, f11, f12, f13, f14, f15, f16, f17, f18, f19, f20, f21, f22, f23, f24, f25, f26, f27, f28, f29, f30, f31, f32, f33, f34, f35, f36, f37, f38, f39, f40, f41, f42, f43, f44, f45, f46, f47, f48⟩ K hK
      have g5 := f5 (hd 5 (by decide))
      refine step_want (j := 5) (s := 43) (b := true) rfl rfl ((hv 43).trans (f5 (hd 5 (by decide)))) ?_
      clear hv
      go_simp
      exact hK.out _ _ ⟨e8, e6, e5, e3, hb, f0, f1, f2, f3, f4, f5, f6, f7, f8, f9, f10, f11, fun _ => rfl, f13, f14, f15, f16, f17, f18, f19, f20, f21, f22, f23, f24, f25, f26, f27, f28, f29, f30, f31, f32, f33, f34, f35, f36, f37, f38, f39, f40, f41, f42, f43, f44, f45, f46, f47, f48⟩
    case s13 =>
      rintro L a v w hv hg hL hd hcl ⟨e8, e6, e5, e3, hb, f0, f1, f2, f3, f4, f5, f6, f7, f8, f9, f10, f11, f12, f13, f14, f15, f16, f17, f18, f19, f20, f21, f22, f23, f24, f25, f26, f27, f28, f29, f30, f31, f32, f33, f34, f35, f36, f37, f38, f39, f40, f41, f42, f43, f44, f45, f46, f47, f48⟩ K hK
      have g5 := f5 (hd 5 (by decide))
      have g12 := f12 (hd 12 (by decide))
      have cx : w.cell? ⟨S, 2, none⟩ = some (.int .i64 z) := (((kS.below hb kS.lt).cell 2).trans rfl)
      refine step_want (j := 5) (s := 43) (b := true) rfl rfl ((hv 43).trans (f5 (hd 5 (by decide)))) ?_
      clear hv
      go_simp
      exact hK.out _ _ ⟨e8, e6, e5, e3, hb, f0, f1, f2, f3, f4, f5, f6, f7, f8, f9, f10, f11, f12, fun _ => rfl, f14, f15, f16, f17, f18, f19, f20, f21, f22, f23, f24, f25, f26, f27, f28, f29, f30, f31, f32, f33, f34, f35, f36, f37, f38, f39, f40, f41, f42, f43, f44, f45, f46, f47, f48⟩
    case s14 =>
      rintro L a v w hv hg hL hd hcl ⟨e8, e6, e5, e3, hb, f0, f1, f2, f3, f4, f5, f6, f7, f8, f9, f10, f11, f12, f13, f14, f15, f16, f17, f18, f19, f20, f21, f22, f23, f24, f25, f26, f27, f28, f29, f30, f31, f32, f33, f34, f35, f36, f37, f38, f39, f40, f41, f42, f43, f44, f45, f46, f47, f48⟩ K hK
      have g5 := f5 (hd 5 (by decide))
      have g11 := f11 (hd 11 (by decide))
      have g13 := f13 (hd 13 (by decide))
      refine step_want (j := 5) (s := 43) (b := true) rfl rfl ((hv 43).trans (f5 (hd 5 (by decide)))) ?_
      clear hv
      go_simp
      exact hK.out _ _ ⟨e8, e6, e5, e3, hb, f0, f1, f2, f3, f4, f5, f6, f7, f8, f9, f10, f11, f12, f13, fun _ => rfl, f15, f16, f17, f18, f19, f20, f21, f22, f23, f24, f25, f26, f27, f28, f29, f30, f31, f32, f33, f34, f35, f36, f37, f38, f39, f40, f41, f42, f43, f44, f45, f46, f47, f48⟩
    case s15 =>
      rintro L a v w hv hg hL hd hcl ⟨e8, e6, e5, e3, hb, f0, f1, f2, f3, f4, f5, f6, f7, f8, f9, f10, f11, f12, f13, f14, f15, f16, f17, f18, f19, f20, f21, f22, f23, f24, f25, f26, f27, f28, f29, f30, f31, f32, f33, f34, f35, f36, f37, f38, f39, f40, f41, f42, f43, f44, f45, f46, f47, f48⟩ K hK
      have g5 := f5 (hd 5 (by decide))
      have g14 := f14 (hd 14 (by decide))
      refine step_do rfl ?_
      clear hv
      go_simp
      exact hK.out _ _ ⟨e8, e6, e5, e3, hb, f0, f1, f2, f3, f4, f5, f6, f7, f8, f9, f10, f11, f12, f13, f14, fun _ => rfl, f16, f17, f18, f19, f20, f21, f22, f23, f24, f25, f26, f27, f28, f29, f30, f31, f32, f33, f34, f35, f36, f37, f38, f39, f40, f41, f42, f43, f44, f45, f46, f47, f48⟩
    case s16 =>
      rintro L a v w hv hg hL hd hcl ⟨e8, e6, e5, e3, hb, f0, f1, f2, f3, f4, f5, f6, f7, f8, f9, f10, f11, f12, f13, f14, f15, f16, f17, f18, f19, f20, f21, f22, f23, f24, f25, f26, f27, f28, f29, f30, f31, f32, f33, f34, f35, f36, f37, f38, f39, f40, f41, f42, f43, f44, f45, f46, f47, f48⟩ K hK
      have g5 := f5 (hd 5 (by decide))
      have g15 := f15 (hd 15 (by decide))
      refine step_do rfl ?_
      clear hv
      go_simp
      exact hK.out _ _ ⟨e8, e6, e5, e3, hb, f0, f1, f2, f3, f4, f5, f6, f7, f8, f9, f10, f11, f12, f13, f14, f15, fun _ => rfl, f17, f18, f19, f20, f21, f22, f23, f24, f25, f26, f27, f28, f29, f30, f31, f32, f33, f34, f35, f36, f37, f38, f39, f40, f41, f42, f43, f44, f45, f46, f47, f48⟩
    case s17 =>
      rintro L a v w hv hg hL hd hcl ⟨e8, e6, e5, e3, hb, f0, f1, f2, f3, f4, f5, f6, f7, f8, f9, f10, f11, f12, f13, f14, f15, f16, f17, f18, f19, f20, f21, f22, f23, f24, f25, f26, f27, f28, f29, f30, f31, f32, f33, f34, f35, f36, f37, f38, f39, f40, f41, f42, f43, f44, f45, f46, f47, f48⟩ K hK
      have g16 := f16 (hd 16 (by decide))
      refine step_want (j := 16) (s := 54) (b := true) rfl rfl ((hv 54).trans (f16 (hd 16 (by decide)))) ?_
      clear hv
      go_simp
      exact hK.out _ _ ⟨e8, e6, e5, e3, hb, f0, f1, f2, f3, f4, f5, f6, f7, f8, f9, f10, f11, f12, f13, f14, f15, f16, fun _ => rfl, f18, f19, f20, f21, f22, f23, f24, f25, f26, f27, f28, f29, f30, f31, f32, f33, f34, f35, f36, f37, f38, f39, f40, f41, f42, f43, f44, f45, f46, f47, f48⟩
    case s18 =>
      rintro L a v w hv hg hL hd hcl ⟨e8, e6, e5, e3, hb, f0, f1, f2, f3, f4, f5, f6, f7, f8, f9, f10, f11, f12, f13, f14, f15, f16, f17, f18, f19, f20, f21, f22, f23, f24, f25, f26, f27, f28, f29, f30, f31, f32, f33, f34, f35, f36, f37, f38, f39, f40, f41, f42, f43, f44, f45, f46, f47, f48⟩ K hK
      have g16 := f16 (hd 16 (by decide))
      have g17 := f17 (hd 17 (by decide))
      have cx : w.cell? ⟨S, 1, none⟩ = some (.int .i64 (m : Nat)) := (((kS.below hb kS.lt).cell 1).trans rfl)
      refine step_want (j := 16) (s := 54) (b := true) rfl rfl ((hv 54).trans (f16 (hd 16 (by decide)))) ?_
      clear hv
      go_simp
      exact hK.out _ _ ⟨e8, e6, e5, e3, hb, f0, f1, f2, f3, f4, f5, f6, f7, f8, f9, f10, f11, f12, f13, f14, f15, f16, f17, fun _ => rfl, f19, f20, f21, f22, f23, f24, f25, f26, f27, f28, f29, f30, f31, f32, f33, f34, f35, f36, f37, f38, f39, f40, f41, f42, f43, f44, f45, f46, f47, f48⟩
    case s19 =>
      rintro L a v w hv hg hL hd hcl ⟨e8, e6, e5, e3, hb, f0, f1, f2, f3, f4, f5, f6, f7, f8, f9, f10, f11, f12, f13, f14, f15, f16, f17, f18, f19, f20, f21, f22, f23, f24, f25, f26, f27, f28, f29, f30, f31, f32, f33, f34, f35, f36, f37, f38, f39, f40, f41, f42, f43, f44, f45, f46, f47, f48⟩ K hK
      have g16 := f16 (hd 16 (by decide))
      refine step_want (j := 16) (s := 54) (b := true) rfl rfl ((hv 54).trans (f16 (hd 16 (by decide)))) ?_
      clear hv
      go_simp
      exact hK.out _ _ ⟨e8, e6, e5, e3, hb, f0, f1, f2, f3, f4, f5, f6, f7, f8, f9, f10, f11, f12, f13, f14, f15, f16, f17, f18, fun _ => rfl, f20, f21, f22, f23, f24, f25, f26, f27, f28, f29, f30, f31, f32, f33, f34, f35, f36, f37, f38, f39, f40, f41, f42, f43, f44, f45, f46, f47, f48⟩
    case s20 =>
      rintro L a v w hv hg hL hd hcl ⟨e8, e6, e5, e3, hb, f0, f1, f2, f3, f4, f5, f6, f7, f8, f9, f10, f11, f12, f13, f14, f15, f16, f17, f18, f19, f20, f21, f22, f23, f24, f25, f26, f27, f28, f29, f30, f31, f32, f33, f34, f35, f36, f37, f38, f39, f40, f41, f42, f43, f44, f45, f46, f47, f48⟩ K hK
      have g16 := f16 (hd 16 (by decide))
      have g18 := f18 (hd 18 (by decide))
      have g19 := f19 (hd 19 (by decide))
      refine step_want (j := 16) (s := 54) (b := true) rfl rfl ((hv 54).trans (f16 (hd 16 (by decide)))) ?_
      clear hv
      go_simp
      exact hK.out _ _ ⟨e8, e6, e5, e3, hb, f0, f1, f2, f3, f4, f5, f6, f7, f8, f9, f10, f11, f12, f13, f14, f15, f16, f17, f18, f19, fun _ => rfl, f21, f22, f23, f24, f25, f26, f27, f28, f29, f30, f31, f32, f33, f34, f35, f36, f37, f38, f39, f40, f41, f42, f43, f44, f45, f46, f47, f48⟩
    case s21 =>
      rintro L a v w hv hg hL hd hcl ⟨e8, e6, e5, e3, hb, f0, f1, f2, f3, f4, f5, f6, f7, f8, f9, f10, f11, f12, f13, f14, f15, f16, f17, f18, f19, f20, f21, f22, f23, f24, f25, f26, f27, f28, f29, f30, f31, f32, f33, f34, f35, f36, f37, f38, f39, f40, f41, f42, f43, f44, f45, f46, f47, f48⟩ K hK
      have g16 := f16 (hd 16 (by decide))
      have g20 := f20 (hd 20 (by decide))
      refine step_want (j := 16) (s := 54) (b := true) rfl rfl ((hv 54).trans (f16 (hd 16 (by decide)))) ?_
      clear hv
      go_simp
      exact hK.out _ _ ⟨e8, e6, e5, e3, hb, f0, f1, f2, f3, f4, f5, f6, f7, f8, f9, f10, f11, f12, f13, f14, f15, f16, f17, f18, f19, f20, fun _ => rfl, f22, f23, f24, f25, f26, f27, f28, f29, f30, f31, f32, f33, f34, f35, f36, f37, f38, f39, f40, f41, f42, f43, f44, f45, f46, f47, f48⟩
    case s22 =>
      rintro L a v w hv hg hL hd hcl ⟨e8, e6, e5, e3, hb, f0, f1, f2, f3, f4, f5, f6, f7, f8, f9, f10, f11, f12, f13, f14, f15, f16, f17, f18, f19, f20, f21, f22, f23, f24, f25, f26, f27, f28, f29, f30, f31, f32, f33, f34, f35, f36, f37, f38, f39, f40, f41, f42, f43, f44, f45, f46, f47, f48⟩ K hK
      have g16 := f16 (hd 16 (by decide))
      have g21 := f21 (hd 21 (by decide))
      have cx : w.cell? ⟨g6, 16 + m * 3 + 1, none⟩ = some (.int .i64 x) := (by have hpl := (k6.below hb k6.lt).plan XS.out hm8; rw [HTM.out] at hpl; exact hpl 1 _ rfl)
      refine step_want (j := 16) (s := 54) (b := true) rfl rfl ((hv 54).trans (f16 (hd 16 (by decide)))) ?_
      clear hv
      go_simp
      exact hK.out _ _ ⟨e8, e6, e5, e3, hb, f0, f1, f2, f3, f4, f5, f6, f7, f8, f9, f10, f11, f12, f13, f14, f15, f16, f17, f18, f19, f20, f21, fun _ => rfl, f23, f24, f25, f26, f27, f28, f29, f30, f31, f32, f33, f34, f35, f36, f37, f38, f39, f40, f41, f42, f43, f44, f45, f46, f47, f48⟩
    case s23 =>
      rintro L a v w hv hg hL hd hcl ⟨e8, e6, e5, e3, hb, f0, f1, f2, f3, f4, f5, f6, f7, f8, f9, f10, f11, f12, f13, f14, f15, f16, f17, f18, f19, f20, f21, f22, f23, f24, f25, f26, f27, f28, f29, f30, f31, f32, f33, f34, f35, f36, f37, f38, f39, f40, f41, f42, f43, f44, f45, f46, f47, f48⟩ K hK
      have g16 := f16 (hd 16 (by decide))
      refine step_want (j := 16) (s := 54) (b := true) rfl rfl ((hv 54).trans (f16 (hd 16 (by decide)))) ?_
      clear hv
      go_simp
      exact hK.out _ _ ⟨e8, e6, e5, e3, hb, f0, f1, f2, f3, f4, f5, f6, f7, f8, f9, f10, f11, f12, f13, f14, f15, f16, f17, f18, f19, f20, f21, f22, fun _ => rfl, f24, f25, f26, f27, f28, f29, f30, f31, f32, f33, f34, f35, f36, f37, f38, f39, f40, f41, f42, f43, f44, f45, f46, f47, f48⟩
    case s24 =>
      rintro L a v w hv hg hL hd hcl ⟨e8, e6, e5, e3, hb, f0, f1, f2, f3, f4, f5, f6, f7, f8, f9, f10, f11, f12, f13, f14, f15, f16, f17, f18, f19, f20, f21, f22, f23, f24, f25, f26, f27, f28, f29, f30, f31, f32, f33, f34, f35, f36, f37, f38, f39, f40, f41, f42, f43, f44, f45, f46, f47, f48⟩ K hK
      have g16 := f16 (hd 16 (by decide))
      have g23 := f23 (hd 23 (by decide))
      have cx : w.cell? ⟨S, 0, none⟩ = some (.int .i64 x) := (((kS.below hb kS.lt).cell 0).trans rfl)
      refine step_want (j := 16) (s := 54) (b := true) rfl rfl ((hv 54).trans (f16 (hd 16 (by decide)))) ?_
      clear hv
      go_simp
      exact hK.out _ _ ⟨e8, e6, e5, e3, hb, f0, f1, f2, f3, f4, f5, f6, f7, f8, f9, f10, f11, f12, f13, f14, f15, f16, f17, f18, f19, f20, f21, f22, f23, fun _ => rfl, f25, f26, f27, f28, f29, f30, f31, f32, f33, f34, f35, f36, f37, f38, f39, f40, f41, f42, f43, f44, f45, f46, f47, f48⟩
    case s25 =>
      rintro L a v w hv hg hL hd hcl ⟨e8, e6, e5, e3, hb, f0, f1, f2, f3, f4, f5, f6, f7, f8, f9, f10, f11, f12, f13, f14, f15, f16, f17, f18, f19, f20, f21, f22, f23, f24, f25, f26, f27, f28, f29, f30, f31, f32, f33, f34, f35, f36, f37, f38, f39, f40, f41, f42, f43, f44, f45, f46, f47, f48⟩ K hK
      have g16 := f16 (hd 16 (by decide))
      have g22 := f22 (hd 22 (by decide))
      have g24 := f24 (hd 24 (by decide))
      refine step_want (j := 16) (s := 54) (b := true) rfl rfl ((hv 54).trans (f16 (hd 16 (by decide)))) ?_
      clear hv
      go_simp
      exact hK.out _ _ ⟨e8, e6, e5, e3, hb, f0, f1, f2, f3, f4, f5, f6, f7, f8, f9, f10, f11, f12, f13, f14, f15, f16, f17, f18, f19, f20, f21, f22, f23, f24, fun _ => rfl, f26, f27, f28, f29, f30, f31, f32, f33, f34, f35, f36, f37, f38, f39, f40, f41, f42, f43, f44, f45, f46, f47, f48⟩
    case s26 =>
      rintro L a v w hv hg hL hd hcl ⟨e8, e6, e5, e3, hb, f0, f1, f2, f3, f4, f5, f6, f7, f8, f9, f10, f11, f12, f13, f14, f15, f16, f17, f18, f19, f20, f21, f22, f23, f24, f25, f26, f27, f28, f29, f30, f31, f32, f33, f34, f35, f36, f37, f38, f39, f40, f41, f42, f43, f44, f45, f46, f47, f48⟩ K hK
      have g16 := f16 (hd 16 (by decide))
      have g25 := f25 (hd 25 (by decide))
      refine step_do rfl ?_
      clear hv
      go_simp
      exact hK.out _ _ ⟨e8, e6, e5, e3, hb, f0, f1, f2, f3, f4, f5, f6, f7, f8, f9, f10, f11, f12, f13, f14, f15, f16, f17, f18, f19, f20, f21, f22, f23, f24, f25, fun _ => rfl, f27, f28, f29, f30, f31, f32, f33, f34, f35, f36, f37, f38, f39, f40, f41, f42, f43, f44, f45, f46, f47, f48⟩
    case s27 =>
      rintro L a v w hv hg hL hd hcl ⟨e8, e6, e5, e3, hb, f0, f1, f2, f3, f4, f5, f6, f7, f8, f9, f10, f11, f12, f13, f14, f15, f16, f17, f18, f19, f20, f21, f22, f23, f24, f25, f26, f27, f28, f29, f30, f31, f32, f33, f34, f35, f36, f37, f38, f39, f40, f41, f42, f43, f44, f45, f46, f47, f48⟩ K hK
      have g16 := f16 (hd 16 (by decide))
      have g26 := f26 (hd 26 (by decide))
      refine step_do rfl ?_
      clear hv
      go_simp
      exact hK.out _ _ ⟨e8, e6, e5, e3, hb, f0, f1, f2, f3, f4, f5, f6, f7, f8, f9, f10, f11, f12, f13, f14, f15, f16, f17, f18, f19, f20, f21, f22, f23, f24, f25, f26, fun _ => rfl, f28, f29, f30, f31, f32, f33, f34, f35, f36, f37, f38, f39, f40, f41, f42, f43, f44, f45, f46, f47, f48⟩
    case s28 =>
      rintro L a v w hv hg hL hd hcl ⟨e8, e6, e5, e3, hb, f0, f1, f2, f3, f4, f5, f6, f7, f8, f9, f10, f11, f12, f13, f14, f15, f16, f17, f18, f19, f20, f21, f22, f23, f24, f25, f26, f27, f28, f29, f30, f31, f32, f33, f34, f35, f36, f37, f38, f39, f40, f41, f42, f43, f44, f45, f46, f47, f48⟩ K hK
      have g27 := f27 (hd 27 (by decide))
      refine step_want (j := 27) (s := 65) (b := true) rfl rfl ((hv 65).trans (f27 (hd 27 (by decide)))) ?_
      clear hv
      go_simp
      exact hK.out _ _ ⟨e8, e6, e5, e3, hb, f0, f1, f2, f3, f4, f5, f6, f7, f8, f9, f10, f11, f12, f13, f14, f15, f16, f17, f18, f19, f20, f21, f22, f23, f24, f25, f26, f27, fun _ => rfl, f29, f30, f31, f32, f33, f34, f35, f36, f37, f38, f39, f40, f41, f42, f43, f44, f45, f46, f47, f48⟩
    case s29 =>
      rintro L a v w hv hg hL hd hcl ⟨e8, e6, e5, e3, hb, f0, f1, f2, f3, f4, f5, f6, f7, f8, f9, f10, f11, f12, f13, f14, f15, f16, f17, f18, f19, f20, f21, f22, f23, f24, f25, f26, f27, f28, f29, f30, f31, f32, f33, f34, f35, f36, f37, f38, f39, f40, f41, f42, f43, f44, f45, f46, f47, f48⟩ K hK
      have g27 := f27 (hd 27 (by decide))
      have g28 := f28 (hd 28 (by decide))
      refine step_want (j := 27) (s := 65) (b := true) rfl rfl ((hv 65).trans (f27 (hd 27 (by decide)))) ?_
      refine wp_ldr rowT (.tmp 66) rfl ((hv 66).trans g28) ((k6.below hb k6.lt).tal XS.out) T6.out ?_
      exact hK.out _ _ ⟨e8, e6, e5, e3, hb, f0, f1, f2, f3, f4, f5, f6, f7, f8, f9, f10, f11, f12, f13, f14, f15, f16, f17, f18, f19, f20, f21, f22, f23, f24, f25, f26, f27, f28, fun _ => rfl, f30, f31, f32, f33, f34, f35, f36, f37, f38, f39, f40, f41, f42, f43, f44, f45, f46, f47, f48⟩
    case s30 =>
      rintro L a v w hv hg hL hd hcl ⟨e8, e6, e5, e3, hb, f0, f1, f2, f3, f4, f5, f6, f7, f8, f9, f10, f11, f12, f13, f14, f15, f16, f17, f18, f19, f20, f21, f22, f23, f24, f25, f26, f27, f28, f29, f30, f31, f32, f33, f34, f35, f36, f37, f38, f39, f40, f41, f42, f43, f44, f45, f46, f47, f48⟩ K hK
      have h29 := f29 (hd 29 (by decide))
      refine step_want (j := 27) (s := 65) (b := true) rfl rfl ((hv 65).trans (f27 (hd 27 (by decide)))) ?_
      clear hv
      go_simp
      refine (HV1.out _).mono ?_
      rintro e wy ⟨rfl, bb⟩
      exact hK.out _ _ ⟨e8, e6, e5, e3, (hb.trans (bb.mono hb.size)), f0, (fun h => (f1 h).below bb), f2, (fun h => (f3 h).below bb), f4, f5, f6, f7, f8, f9, f10, f11, f12, f13, f14, f15, f16, f17, f18, f19, f20, f21, f22, f23, f24, f25, f26, f27, f28, f29, fun _ => rfl, f31, f32, f33, f34, f35, f36, f37, f38, f39, f40, f41, f42, f43, f44, f45, f46, f47, f48⟩
    case s31 =>
      rintro L a v w hv hg hL hd hcl ⟨e8, e6, e5, e3, hb, f0, f1, f2, f3, f4, f5, f6, f7, f8, f9, f10, f11, f12, f13, f14, f15, f16, f17, f18, f19, f20, f21, f22, f23, f24, f25, f26, f27, f28, f29, f30, f31, f32, f33, f34, f35, f36, f37, f38, f39, f40, f41, f42, f43, f44, f45, f46, f47, f48⟩ K hK
      have g27 := f27 (hd 27 (by decide))
      refine step_want (j := 27) (s := 65) (b := true) rfl rfl ((hv 65).trans (f27 (hd 27 (by decide)))) ?_
      clear hv
      go_simp
      exact hK.out _ _ ⟨e8, e6, e5, e3, hb, f0, f1, f2, f3, f4, f5, f6, f7, f8, f9, f10, f11, f12, f13, f14, f15, f16, f17, f18, f19, f20, f21, f22, f23, f24, f25, f26, f27, f28, f29, f30, fun _ => rfl, f32, f33, f34, f35, f36, f37, f38, f39, f40, f41, f42, f43, f44, f45, f46, f47, f48⟩
    case s32 =>
      rintro L a v w hv hg hL hd hcl ⟨e8, e6, e5, e3, hb, f0, f1, f2, f3, f4, f5, f6, f7, f8, f9, f10, f11, f12, f13, f14, f15, f16, f17, f18, f19, f20, f21, f22, f23, f24, f25, f26, f27, f28, f29, f30, f31, f32, f33, f34, f35, f36, f37, f38, f39, f40, f41, f42, f43, f44, f45, f46, f47, f48⟩ K hK
      have g27 := f27 (hd 27 (by decide))
      have g31 := f31 (hd 31 (by decide))
      refine step_want (j := 27) (s := 65) (b := true) rfl rfl ((hv 65).trans (f27 (hd 27 (by decide)))) ?_
      refine wp_ldr rowT (.tmp 69) rfl ((hv 69).trans g31) ((k5.below hb k5.lt).tal HS.out) T5.out ?_
      exact hK.out _ _ ⟨e8, e6, e5, e3, hb, f0, f1, f2, f3, f4, f5, f6, f7, f8, f9, f10, f11, f12, f13, f14, f15, f16, f17, f18, f19, f20, f21, f22, f23, f24, f25, f26, f27, f28, f29, f30, f31, fun _ => rfl, f33, f34, f35, f36, f37, f38, f39, f40, f41, f42, f43, f44, f45, f46, f47, f48⟩
    case s33 =>
      rintro L a v w hv hg hL hd hcl ⟨e8, e6, e5, e3, hb, f0, f1, f2, f3, f4, f5, f6, f7, f8, f9, f10, f11, f12, f13, f14, f15, f16, f17, f18, f19, f20, f21, f22, f23, f24, f25, f26, f27, f28, f29, f30, f31, f32, f33, f34, f35, f36, f37, f38, f39, f40, f41, f42, f43, f44, f45, f46, f47, f48⟩ K hK
      have h32 := f32 (hd 32 (by decide))
      refine step_want (j := 27) (s := 65) (b := true) rfl rfl ((hv 65).trans (f27 (hd 27 (by decide)))) ?_
      clear hv
      go_simp
      refine (HV2.out _).mono ?_
      rintro e wy ⟨rfl, bb⟩
      exact hK.out _ _ ⟨e8, e6, e5, e3, (hb.trans (bb.mono hb.size)), f0, (fun h => (f1 h).below bb), f2, (fun h => (f3 h).below bb), f4, f5, f6, f7, f8, f9, f10, f11, f12, f13, f14, f15, f16, f17, f18, f19, f20, f21, f22, f23, f24, f25, f26, f27, f28, f29, f30, f31, f32, fun _ => rfl, f34, f35, f36, f37, f38, f39, f40, f41, f42, f43, f44, f45, f46, f47, f48⟩
    case s34 =>
      rintro L a v w hv hg hL hd hcl ⟨e8, e6, e5, e3, hb, f0, f1, f2, f3, f4, f5, f6, f7, f8, f9, f10, f11, f12, f13, f14, f15, f16, f17, f18, f19, f20, f21, f22, f23, f24, f25, f26, f27, f28, f29, f30, f31, f32, f33, f34, f35, f36, f37, f38, f39, f40, f41, f42, f43, f44, f45, f46, f47, f48⟩ K hK
      have g27 := f27 (hd 27 (by decide))
      have g33 := f33 (hd 33 (by decide))
      have hwr := HWR.out
      refine step_want (j := 27) (s := 65) (b := true) rfl rfl ((hv 65).trans (f27 (hd 27 (by decide)))) ?_
      clear hv
      go_simp
      exact hK.out _ _ ⟨e8, e6, e5, e3, hb, f0, f1, f2, f3, f4, f5, f6, f7, f8, f9, f10, f11, f12, f13, f14, f15, f16, f17, f18, f19, f20, f21, f22, f23, f24, f25, f26, f27, f28, f29, f30, f31, f32, f33, fun _ => rfl, f35, f36, f37, f38, f39, f40, f41, f42, f43, f44, f45, f46, f47, f48⟩
    case s35 =>
      rintro L a v w hv hg hL hd hcl ⟨e8, e6, e5, e3, hb, f0, f1, f2, f3, f4, f5, f6, f7, f8, f9, f10, f11, f12, f13, f14, f15, f16, f17, f18, f19, f20, f21, f22, f23, f24, f25, f26, f27, f28, f29, f30, f31, f32, f33, f34, f35, f36, f37, f38, f39, f40, f41, f42, f43, f44, f45, f46, f47, f48⟩ K hK
      have g27 := f27 (hd 27 (by decide))
      have g34 := f34 (hd 34 (by decide))
      refine step_want (j := 27) (s := 65) (b := true) rfl rfl ((hv 65).trans (f27 (hd 27 (by decide)))) ?_
      clear hv
      go_simp
      exact hK.out _ _ ⟨e8, e6, e5, e3, hb, f0, f1, f2, f3, f4, f5, f6, f7, f8, f9, f10, f11, f12, f13, f14, f15, f16, f17, f18, f19, f20, f21, f22, f23, f24, f25, f26, f27, f28, f29, f30, f31, f32, f33, f34, fun _ => rfl, f36, f37, f38, f39, f40, f41, f42, f43, f44, f45, f46, f47, f48⟩
    case s36 =>
      rintro L a v w hv hg hL hd hcl ⟨e8, e6, e5, e3, hb, f0, f1, f2, f3, f4, f5, f6, f7, f8, f9, f10, f11, f12, f13, f14, f15, f16, f17, f18, f19, f20, f21, f22, f23, f24, f25, f26, f27, f28, f29, f30, f31, f32, f33, f34, f35, f36, f37, f38, f39, f40, f41, f42, f43, f44, f45, f46, f47, f48⟩ K hK
      have g27 := f27 (hd 27 (by decide))
      have g35 := f35 (hd 35 (by decide))
      refine step_do rfl ?_
      clear hv
      go_simp
      exact hK.out _ _ ⟨e8, e6, e5, e3, hb, f0, f1, f2, f3, f4, f5, f6, f7, f8, f9, f10, f11, f12, f13, f14, f15, f16, f17, f18, f19, f20, f21, f22, f23, f24, f25, f26, f27, f28, f29, f30, f31, f32, f33, f34, f35, fun _ => rfl, f37, f38, f39, f40, f41, f42, f43, f44, f45, f46, f47, f48⟩
    case s37 =>
      rintro L a v w hv hg hL hd hcl ⟨e8, e6, e5, e3, hb, f0, f1, f2, f3, f4, f5, f6, f7, f8, f9, f10, f11, f12, f13, f14, f15, f16, f17, f18, f19, f20, f21, f22, f23, f24, f25, f26, f27, f28, f29, f30, f31, f32, f33, f34, f35, f36, f37, f38, f39, f40, f41, f42, f43, f44, f45, f46, f47, f48⟩ K hK
      have g36 := f36 (hd 36 (by decide))
      refine step_do rfl ?_
      clear hv
      go_simp
      exact hK.out _ _ ⟨e8, e6, e5, e3, hb, f0, f1, f2, f3, f4, f5, f6, f7, f8, f9, f10, f11, f12, f13, f14, f15, f16, f17, f18, f19, f20, f21, f22, f23, f24, f25, f26, f27, f28, f29, f30, f31, f32, f33, f34, f35, f36, fun _ => rfl, f38, f39, f40, f41, f42, f43, f44, f45, f46, f47, f48⟩
    case s38 =>
      rintro L a v w hv hg hL hd hcl ⟨e8, e6, e5, e3, hb, f0, f1, f2, f3, f4, f5, f6, f7, f8, f9, f10, f11, f12, f13, f14, f15, f16, f17, f18, f19, f20, f21, f22, f23, f24, f25, f26, f27, f28, f29, f30, f31, f32, f33, f34, f35, f36, f37, f38, f39, f40, f41, f42, f43, f44, f45, f46, f47, f48⟩ K hK
      have g37 := f37 (hd 37 (by decide))
      refine step_want (j := 37) (s := 75) (b := true) rfl rfl ((hv 75).trans (f37 (hd 37 (by decide)))) ?_
      clear hv
      go_simp
      exact hK.out _ _ ⟨e8, e6, e5, e3, hb, f0, f1, f2, f3, f4, f5, f6, f7, f8, f9, f10, f11, f12, f13, f14, f15, f16, f17, f18, f19, f20, f21, f22, f23, f24, f25, f26, f27, f28, f29, f30, f31, f32, f33, f34, f35, f36, f37, fun _ => rfl, f39, f40, f41, f42, f43, f44, f45, f46, f47, f48⟩
    case s39 =>
      rintro L a v w hv hg hL hd hcl ⟨e8, e6, e5, e3, hb, f0, f1, f2, f3, f4, f5, f6, f7, f8, f9, f10, f11, f12, f13, f14, f15, f16, f17, f18, f19, f20, f21, f22, f23, f24, f25, f26, f27, f28, f29, f30, f31, f32, f33, f34, f35, f36, f37, f38, f39, f40, f41, f42, f43, f44, f45, f46, f47, f48⟩ K hK
      have g37 := f37 (hd 37 (by decide))
      have g38 := f38 (hd 38 (by decide))
      refine step_want (j := 37) (s := 75) (b := true) rfl rfl ((hv 75).trans (f37 (hd 37 (by decide)))) ?_
      clear hv
      go_simp
      exact hK.out _ _ ⟨e8, e6, e5, e3, hb, f0, f1, f2, f3, f4, f5, f6, f7, f8, f9, f10, f11, f12, f13, f14, f15, f16, f17, f18, f19, f20, f21, f22, f23, f24, f25, f26, f27, f28, f29, f30, f31, f32, f33, f34, f35, f36, f37, f38, fun _ => rfl, f40, f41, f42, f43, f44, f45, f46, f47, f48⟩
    case s40 =>
      rintro L a v w hv hg hL hd hcl ⟨e8, e6, e5, e3, hb, f0, f1, f2, f3, f4, f5, f6, f7, f8, f9, f10, f11, f12, f13, f14, f15, f16, f17, f18, f19, f20, f21, f22, f23, f24, f25, f26, f27, f28, f29, f30, f31, f32, f33, f34, f35, f36, f37, f38, f39, f40, f41, f42, f43, f44, f45, f46, f47, f48⟩ K hK
      have g37 := f37 (hd 37 (by decide))
      have g39 := f39 (hd 39 (by decide))
      have cx : w.cell? ⟨g6, 48, none⟩ = some (.slice A6 b.l.length c6) := (((k6.below hb k6.lt).cell 48).trans HT6.out)
      refine step_want (j := 37) (s := 75) (b := true) rfl rfl ((hv 75).trans (f37 (hd 37 (by decide)))) ?_
      clear hv
      go_simp
      exact hK.out _ _ ⟨e8, e6, e5, e3, hb, f0, f1, f2, f3, f4, f5, f6, f7, f8, f9, f10, f11, f12, f13, f14, f15, f16, f17, f18, f19, f20, f21, f22, f23, f24, f25, f26, f27, f28, f29, f30, f31, f32, f33, f34, f35, f36, f37, f38, f39, fun _ => rfl, f41, f42, f43, f44, f45, f46, f47, f48⟩
    case s41 =>
      rintro L a v w hv hg hL hd hcl ⟨e8, e6, e5, e3, hb, f0, f1, f2, f3, f4, f5, f6, f7, f8, f9, f10, f11, f12, f13, f14, f15, f16, f17, f18, f19, f20, f21, f22, f23, f24, f25, f26, f27, f28, f29, f30, f31, f32, f33, f34, f35, f36, f37, f38, f39, f40, f41, f42, f43, f44, f45, f46, f47, f48⟩ K hK
      have g37 := f37 (hd 37 (by decide))
      have g40 := f40 (hd 40 (by decide))
      refine step_want (j := 37) (s := 75) (b := true) rfl rfl ((hv 75).trans (f37 (hd 37 (by decide)))) ?_
      clear hv
      go_simp
      exact hK.out _ _ ⟨e8, e6, e5, e3, hb, f0, f1, f2, f3, f4, f5, f6, f7, f8, f9, f10, f11, f12, f13, f14, f15, f16, f17, f18, f19, f20, f21, f22, f23, f24, f25, f26, f27, f28, f29, f30, f31, f32, f33, f34, f35, f36, f37, f38, f39, f40, fun _ => rfl, f42, f43, f44, f45, f46, f47, f48⟩
    case s42 =>
      rintro L a v w hv hg hL hd hcl ⟨e8, e6, e5, e3, hb, f0, f1, f2, f3, f4, f5, f6, f7, f8, f9, f10, f11, f12, f13, f14, f15, f16, f17, f18, f19, f20, f21, f22, f23, f24, f25, f26, f27, f28, f29, f30, f31, f32, f33, f34, f35, f36, f37, f38, f39, f40, f41, f42, f43, f44, f45, f46, f47, f48⟩ K hK
      have g37 := f37 (hd 37 (by decide))
      refine step_want (j := 37) (s := 75) (b := true) rfl rfl ((hv 75).trans (f37 (hd 37 (by decide)))) ?_
      clear hv
      go_simp
      exact hK.out _ _ ⟨e8, e6, e5, e3, hb, f0, f1, f2, f3, f4, f5, f6, f7, f8, f9, f10, f11, f12, f13, f14, f15, f16, f17, f18, f19, f20, f21, f22, f23, f24, f25, f26, f27, f28, f29, f30, f31, f32, f33, f34, f35, f36, f37, f38, f39, f40, f41, fun _ => rfl, f43, f44, f45, f46, f47, f48⟩
    case s43 =>
      rintro L a v w hv hg hL hd hcl ⟨e8, e6, e5, e3, hb, f0, f1, f2, f3, f4, f5, f6, f7, f8, f9, f10, f11, f12, f13, f14, f15, f16, f17, f18, f19, f20, f21, f22, f23, f24, f25, f26, f27, f28, f29, f30, f31, f32, f33, f34, f35, f36, f37, f38, f39, f40, f41, f42, f43, f44, f45, f46, f47, f48⟩ K hK
      have g37 := f37 (hd 37 (by decide))
      have g42 := f42 (hd 42 (by decide))
      refine step_want (j := 37) (s := 75) (b := true) rfl rfl ((hv 75).trans (f37 (hd 37 (by decide)))) ?_
      clear hv
      go_simp
      exact hK.out _ _ ⟨e8, e6, e5, e3, hb, f0, f1, f2, f3, f4, f5, f6, f7, f8, f9, f10, f11, f12, f13, f14, f15, f16, f17, f18, f19, f20, f21, f22, f23, f24, f25, f26, f27, f28, f29, f30, f31, f32, f33, f34, f35, f36, f37, f38, f39, f40, f41, f42, fun _ => rfl, f44, f45, f46, f47, f48⟩
    case s44 =>
      rintro L a v w hv hg hL hd hcl ⟨e8, e6, e5, e3, hb, f0, f1, f2, f3, f4, f5, f6, f7, f8, f9, f10, f11, f12, f13, f14, f15, f16, f17, f18, f19, f20, f21, f22, f23, f24, f25, f26, f27, f28, f29, f30, f31, f32, f33, f34, f35, f36, f37, f38, f39, f40, f41, f42, f43, f44, f45, f46, f47, f48⟩ K hK
      have g37 := f37 (hd 37 (by decide))
      have g43 := f43 (hd 43 (by decide))
      have cx : w.cell? ⟨g5, 48, none⟩ = some (.slice A5 b.l.length c5) := (((k5.below hb k5.lt).cell 48).trans HT5.out)
      refine step_want (j := 37) (s := 75) (b := true) rfl rfl ((hv 75).trans (f37 (hd 37 (by decide)))) ?_
      clear hv
      go_simp
      exact hK.out _ _ ⟨e8, e6, e5, e3, hb, f0, f1, f2, f3, f4, f5, f6, f7, f8, f9, f10, f11, f12, f13, f14, f15, f16, f17, f18, f19, f20, f21, f22, f23, f24, f25, f26, f27, f28, f29, f30, f31, f32, f33, f34, f35, f36, f37, f38, f39, f40, f41, f42, f43, fun _ => rfl, f45, f46, f47, f48⟩
    case s45 =>
      rintro L a v w hv hg hL hd hcl ⟨e8, e6, e5, e3, hb, f0, f1, f2, f3, f4, f5, f6, f7, f8, f9, f10, f11, f12, f13, f14, f15, f16, f17, f18, f19, f20, f21, f22, f23, f24, f25, f26, f27, f28, f29, f30, f31, f32, f33, f34, f35, f36, f37, f38, f39, f40, f41, f42, f43, f44, f45, f46, f47, f48⟩ K hK
      have g37 := f37 (hd 37 (by decide))
      have g44 := f44 (hd 44 (by decide))
      refine step_want (j := 37) (s := 75) (b := true) rfl rfl ((hv 75).trans (f37 (hd 37 (by decide)))) ?_
      clear hv
      go_simp
      exact hK.out _ _ ⟨e8, e6, e5, e3, hb, f0, f1, f2, f3, f4, f5, f6, f7, f8, f9, f10, f11, f12, f13, f14, f15, f16, f17, f18, f19, f20, f21, f22, f23, f24, f25, f26, f27, f28, f29, f30, f31, f32, f33, f34, f35, f36, f37, f38, f39, f40, f41, f42, f43, f44, fun _ => rfl, f46, f47, f48⟩
    case s46 =>
      rintro L a v w hv hg hL hd hcl ⟨e8, e6, e5, e3, hb, f0, f1, f2, f3, f4, f5, f6, f7, f8, f9, f10, f11, f12, f13, f14, f15, f16, f17, f18, f19, f20, f21, f22, f23, f24, f25, f26, f27, f28, f29, f30, f31, f32, f33, f34, f35, f36, f37, f38, f39, f40, f41, f42, f43, f44, f45, f46, f47, f48⟩ K hK
      have g37 := f37 (hd 37 (by decide))
      have g41 := f41 (hd 41 (by decide))
      have g45 := f45 (hd 45 (by decide))
      refine step_want (j := 37) (s := 75) (b := true) rfl rfl ((hv 75).trans (f37 (hd 37 (by decide)))) ?_
      clear hv
      go_simp
      exact hK.out _ _ ⟨e8, e6, e5, e3, hb, f0, f1, f2, f3, f4, f5, f6, f7, f8, f9, f10, f11, f12, f13, f14, f15, f16, f17, f18, f19, f20, f21, f22, f23, f24, f25, f26, f27, f28, f29, f30, f31, f32, f33, f34, f35, f36, f37, f38, f39, f40, f41, f42, f43, f44, f45, fun _ => rfl, f47, f48⟩
    case s47 =>
      rintro L a v w hv hg hL hd hcl ⟨e8, e6, e5, e3, hb, f0, f1, f2, f3, f4, f5, f6, f7, f8, f9, f10, f11, f12, f13, f14, f15, f16, f17, f18, f19, f20, f21, f22, f23, f24, f25, f26, f27, f28, f29, f30, f31, f32, f33, f34, f35, f36, f37, f38, f39, f40, f41, f42, f43, f44, f45, f46, f47, f48⟩ K hK
      have g37 := f37 (hd 37 (by decide))
      have g46 := f46 (hd 46 (by decide))
      refine step_do rfl ?_
      clear hv
      go_simp
      exact hK.out _ _ ⟨e8, e6, e5, e3, hb, f0, f1, f2, f3, f4, f5, f6, f7, f8, f9, f10, f11, f12, f13, f14, f15, f16, f17, f18, f19, f20, f21, f22, f23, f24, f25, f26, f27, f28, f29, f30, f31, f32, f33, f34, f35, f36, f37, f38, f39, f40, f41, f42, f43, f44, f45, f46, fun _ => rfl, f48⟩
    case s48 =>
      rintro L a v w hv hg hL hd hcl ⟨e8, e6, e5, e3, hb, f0, f1, f2, f3, f4, f5, f6, f7, f8, f9, f10, f11, f12, f13, f14, f15, f16, f17, f18, f19, f20, f21, f22, f23, f24, f25, f26, f27, f28, f29, f30, f31, f32, f33, f34, f35, f36, f37, f38, f39, f40, f41, f42, f43, f44, f45, f46, f47, f48⟩ K hK
      have g0 := f0 (hd 0 (by decide))
      have g2 := f2 (hd 2 (by decide))
      have g5 := f5 (hd 5 (by decide))
      have g6 := f6 (hd 6 (by decide))
      have g7 := f7 (hd 7 (by decide))
      have g8 := f8 (hd 8 (by decide))
      have g9 := f9 (hd 9 (by decide))
      have g10 := f10 (hd 10 (by decide))
      have g11 := f11 (hd 11 (by decide))
      have g12 := f12 (hd 12 (by decide))
      have g13 := f13 (hd 13 (by decide))
      have g14 := f14 (hd 14 (by decide))
      have g15 := f15 (hd 15 (by decide))
      have g16 := f16 (hd 16 (by decide))
      have g17 := f17 (hd 17 (by decide))
      have g18 := f18 (hd 18 (by decide))
      have g19 := f19 (hd 19 (by decide))
      have g20 := f20 (hd 20 (by decide))
      have g21 := f21 (hd 21 (by decide))
      have g22 := f22 (hd 22 (by decide))
      have g23 := f23 (hd 23 (by decide))
      have g24 := f24 (hd 24 (by decide))
      have g25 := f25 (hd 25 (by decide))
      have g26 := f26 (hd 26 (by decide))
      have g27 := f27 (hd 27 (by decide))
      have g28 := f28 (hd 28 (by decide))
      have g29 := f29 (hd 29 (by decide))
      have g31 := f31 (hd 31 (by decide))
      have g32 := f32 (hd 32 (by decide))
      have g34 := f34 (hd 34 (by decide))
      have g35 := f35 (hd 35 (by decide))
      have g36 := f36 (hd 36 (by decide))
      have g37 := f37 (hd 37 (by decide))
      have g38 := f38 (hd 38 (by decide))
      have g39 := f39 (hd 39 (by decide))
      have g40 := f40 (hd 40 (by decide))
      have g41 := f41 (hd 41 (by decide))
      have g42 := f42 (hd 42 (by decide))
      have g43 := f43 (hd 43 (by decide))
      have g44 := f44 (hd 44 (by decide))
      have g45 := f45 (hd 45 (by decide))
      have g46 := f46 (hd 46 (by decide))
      have g47 := f47 (hd 47 (by decide))
      refine step_do rfl ?_
      clear hv
      go_simp
      exact hK.out _ _ ⟨e8, e6, e5, e3, hb, f0, f1, f2, f3, f4, f5, f6, f7, f8, f9, f10, f11, f12, f13, f14, f15, f16, f17, f18, f19, f20, f21, f22, f23, f24, f25, f26, f27, f28, f29, f30, f31, f32, f33, f34, f35, f36, f37, f38, f39, f40, f41, f42, f43, f44, f45, f46, f47, fun _ => rfl⟩
  case hend =>
  rintro L v wz hall ⟨e8, e6, e5, e3, hb, f0, f1, f2, f3, f4, f5, f6, f7, f8, f9, f10, f11, f12, f13, f14, f15, f16, f17, f18, f19, f20, f21, f22, f23, f24, f25, f26, f27, f28, f29, f30, f31, f32, f33, f34, f35, f36, f37, f38, f39, f40, f41, f42, f43, f44, f45, f46, f47, f48⟩
  have hL : ∀ i, i < 49 → L i = true := hall
  have f0 := f0 (hL 0 (by decide))
  have f1 := f1 (hL 1 (by decide))
  have f2 := f2 (hL 2 (by decide))
  have f3 := f3 (hL 3 (by decide))
  have f4 := f4 (hL 4 (by decide))
  have f5 := f5 (hL 5 (by decide))
  have f6 := f6 (hL 6 (by decide))
  have f7 := f7 (hL 7 (by decide))
  have f8 := f8 (hL 8 (by decide))
  have f9 := f9 (hL 9 (by decide))
  have f10 := f10 (hL 10 (by decide))
  have f11 := f11 (hL 11 (by decide))
  have f12 := f12 (hL 12 (by decide))
  have f13 := f13 (hL 13 (by decide))
  have f14 := f14 (hL 14 (by decide))
  have f15 := f15 (hL 15 (by decide))
  have f16 := f16 (hL 16 (by decide))
  have f17 := f17 (hL 17 (by decide))
  have f18 := f18 (hL 18 (by decide))
  have f19 := f19 (hL 19 (by decide))
  have f20 := f20 (hL 20 (by decide))
  have f21 := f21 (hL 21 (by decide))
  have f22 := f22 (hL 22 (by decide))
  have f23 := f23 (hL 23 (by decide))
  have f24 := f24 (hL 24 (by decide))
  have f25 := f25 (hL 25 (by decide))
  have f26 := f26 (hL 26 (by decide))
  have f27 := f27 (hL 27 (by decide))
  have f28 := f28 (hL 28 (by decide))
  have f29 := f29 (hL 29 (by decide))
  have f30 := f30 (hL 30 (by decide))
  have f31 := f31 (hL 31 (by decide))
  have f32 := f32 (hL 32 (by decide))
  have f33 := f33 (hL 33 (by decide))
  have f34 := f34 (hL 34 (by decide))
  have f35 := f35 (hL 35 (by decide))
  have f36 := f36 (hL 36 (by decide))
  have f37 := f37 (hL 37 (by decide))
  have f38 := f38 (hL 38 (by decide))
  have f39 := f39 (hL 39 (by decide))
  have f40 := f40 (hL 40 (by decide))
  have f41 := f41 (hL 41 (by decide))
  have f42 := f42 (hL 42 (by decide))
  have f43 := f43 (hL 43 (by decide))
  have f44 := f44 (hL 44 (by decide))
  have f45 := f45 (hL 45 (by decide))
  have f46 := f46 (hL 46 (by decide))
  have f47 := f47 (hL 47 (by decide))
  have f48 := f48 (hL 48 (by decide))
  simp only [finA, List.foldl_cons, List.foldl_nil, Act.put, List.setIfInBounds_toArray, List.set_cons_succ, List.set_cons_zero, f0, f2, f5, f6, f7, f8, f9, f10, f11, f12, f13, f14, f15, f16, f17, f18, f19, f20, f21, f22, f23, f24, f25, f26, f27, f28, f29, f31, f32, f34, f35, f36, f37, f38, f39, f40, f41, f42, f43, f44, f45, f46, f47, f48, f4, f30, f33]
  have gb := gb.trans (hb.mono gb.size)
  clear e8 e6 e5 e3 f0 f1 f2 f3 f4 f5 f6 f7 f8 f9 f10 f11 f12 f13 f14 f15 f16 f17 f18 f19 f20 f21 f22 f23 f24 f25 f26 f27 f28 f29 f30 f31 f32 f33 f34 f35 f36 f37 f38 f39 f40 f41 f42 f43 f44 f45 f46 f47 f48 hL hall
  go_wp2_with fail
  go_ret
  exact ⟨rfl, gb⟩
set_option maxRecDepth 100000 in
theorem lifted (os : Os) (started : os.Started) (H : Type) (enc : TypeId × Value → H) :
    ReturnsInHanded {} Tryz.checked os 4 .any (Rows.boardTimesSpec.pre6 enc Tryz.prog Tryz.f4 Rows.boardTimesRow.domain false) (Rows.boardTimesSpec.post enc Tryz.prog Tryz.f4 false true false false) := by
  refine returnsInHanded_of_change (C := Tryz.checked) own started (by kernel_rfl) Tryz.func4
    (ChangeSpec.witness6 (enc := enc) (C := Tryz.checked) false ⟨#[], #[.agg #[.int .i64 0, .int .i64 0, .int .i64 0, .int .i64 0, .int .i64 0, .int .i64 0, .int .i64 0, .int .i64 0, .int .i64 0, .int .i64 0, .int .i64 0, .int .i64 0, .int .i64 0, .int .i64 0, .int .i64 0, .int .i64 0, .int .i64 0, .int .i64 0, .int .i64 0, .int .i64 0, .int .i64 0, .int .i64 0, .int .i64 0, .int .i64 0, .int .i64 0, .int .i64 0, .int .i64 0, .int .i64 0, .int .i64 0, .int .i64 0, .int .i64 0, .int .i64 0, .int .i64 0, .int .i64 0, .int .i64 0, .int .i64 0, .int .i64 0, .int .i64 0, .int .i64 0, .int .i64 0, .int .i64 0, .int .i64 0, .int .i64 0, .int .i64 0, .int .i64 0, .int .i64 0, .int .i64 0, .int .i64 0, .slice none 0 0], .agg #[.int .i64 0, .int .i64 0, .int .i64 0]], []⟩ 8 (by kernel_rfl) (by kernel_rfl) (by kernel_rfl) (by kernel_rfl)) ?_
  intro W base args ds gs before hval0 hW hcnd _
  have hval : ∀ (j : Nat) t v, Tryz.f4.params[j]? = some t → args[j]? = some v → Value.okWide Tryz.prog W .any base t v := hval0
  have hW' := hW
  obtain ⟨p, q, hA0, hV, rfl, hfz, hnd⟩ := hW
  have hA : DataW.TrodAll enc Tryz.prog W 0 (fun _ => true) true Tryz.f4.params.toList args.toList ds p := hA0
  rw [Tryz.params4] at hA hval
  obtain ⟨v0, vs0, d0, ds0, p0, q0, hargs, rfl, rfl, h0, r0⟩ := trodAll_cons hA
  obtain ⟨v1, vs1, d1, ds1, p1, q1, rfl, rfl, rfl, h1, r1⟩ := trodAll_cons r0
  obtain ⟨rfl, rfl, rfl⟩ := trodAll_nil r1
  obtain rfl : args = #[v0, v1] := by cases args; simp_all
  obtain ⟨rfl, rfl⟩ := trodVars_none hV
  have lt0 : ∀ x ∈ p0, x.block < W.heap.size := by obtain ⟨m, hm⟩ := h0; exact DataW.trod_lt m _ _ _ hm
  have k0 := h0
  have lt1 : ∀ x ∈ p1, x.block < W.heap.size := by obtain ⟨m, hm⟩ := h1; exact DataW.trod_lt m _ _ _ hm
  have k1 := h1
  obtain ⟨b0, A0, n0, c0, rfl, hs0, hw0, hr0, hn0⟩ := open_board (hval 0 32 v0 rfl rfl) h0
  obtain ⟨x1, y1, z1, rfl, wx1, wy1, wz1⟩ := open_stp (hval 1 49 v1 rfl rfl) h1
  clear hA0 hval0
  refine (walk b0 A0 n0 c0 x1 y1 z1 W hs0 hw0 hr0 hn0).mono fun e W' ⟨he, bel⟩ => ?_
  subst he
  exact ⟨_, rfl, _, _, _, [], _, [], hW', trodAll_mk1 (shut_bool Tryz.underlying4 _), (trodAll_cons_mk (Below.trod laidOut (by kernel_rfl) (of_decide_eq_true (by kernel_rfl)) k0 bel lt0) (trodAll_cons_mk (Below.trod laidOut (by kernel_rfl) (of_decide_eq_true (by kernel_rfl)) k1 bel lt1) trodAll_mk0)), rfl, bel.frame _, fun h => by cases h⟩

theorem proved : Rows.BoardTimesSaid :=
  OpenClaim.holds_of_wide 4 Tryz.f4 rfl rfl rfl rfl rfl rfl rfl ⟨rfl, rfl, rfl, rfl, rfl⟩ rfl rfl rfl rfl rfl (by kernel_rfl) Tryz.func4 (by kernel_rfl)
    (of_decide_eq_true (by kernel_rfl)) (by unfold Func.isWrapper; first | (rw [if_pos (by decide +kernel)]; kernel_rfl) | (rw [if_neg (by decide +kernel)]; exact ⟨rfl, rfl⟩))
    (fun os started H enc _ => lifted os started H enc)
#print axioms proved
end Go.Proofs.YtocoohpekpkmkaaGreat.BoardTimes
