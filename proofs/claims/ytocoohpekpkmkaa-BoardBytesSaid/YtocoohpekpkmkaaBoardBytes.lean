/- BoardBytes: any board's frame, and the board that any body in a frame is, or the error, are the document's; there and back, too; for every input, with no panic (printed by gen/boardbytes.py). -/
import Derived.Test.YtocoohpekpkmkaaBoWrote
import Derived.Test.YtocoohpekpkmkaaSameAny
import Derived.Test.YtocoohpekpkmkaaTallyPut
import Derived.Test.YtocoohpekpkmkaaBytes
import Derived.Deep.CutBlock
/- The walk of the document's Same of boards. -/
namespace Go.Proofs.Ytocoohpekpkmkaa
set_option linter.unusedVariables false
set_option linter.unusedSimpArgs false
set_option maxRecDepth 100000
open Go.RowKit
open Reg (La Vl)
structure WfB (b : Bd) : Prop where
  t : Wf b.t
  p : WfP b.p
  u : Wf b.u
def sameB (a b : Bd) : Bool := decide (a.t = b.t) && decide (a.p = b.p) && (decide (a.u = b.u) && decide (a.l = b.l))
theorem sameB_iff (a b : Bd) : sameB a b = true ↔ a = b := by
  obtain ⟨t, p, u, l⟩ := a
  obtain ⟨t', p', u', l'⟩ := b
  unfold sameB
  simp only [Bool.and_eq_true, decide_eq_true_eq, Bd.mk.injEq]
  constructor
  · rintro ⟨⟨h1, h2⟩, h3, h4⟩; exact ⟨h1, h2, h3, h4⟩
  · rintro ⟨h1, h2, h3, h4⟩; exact ⟨⟨h1, h2⟩, h3, h4⟩
set_option maxHeartbeats 800000 in
theorem bsame_any (a b : Bd) (ha : Bo.Shaped a) (hb : Bo.Shaped b) (wa : WfB a) (wb : WfB b) (q q2 : Value) (w : World) (hq : FrBo a q w) (hq2 : FrBo b q2 w) :
    Calls Try.prog 35 #[q, q2] w (GiveBo w (sameB a b)) := by
  obtain ⟨A, m, c, rfl, hr, hm⟩ := hq
  obtain ⟨A', m', c', rfl, hr', hm'⟩ := hq2
  obtain ⟨e1, h1⟩ : ∃ e, decide (a.t = b.t) = e := ⟨_, rfl⟩
  obtain ⟨e2, h2⟩ : ∃ e, decide (a.p = b.p) = e := ⟨_, rfl⟩
  obtain ⟨e3, h3⟩ : ∃ e, (decide (a.u = b.u) && decide (a.l = b.l)) = e := ⟨_, rfl⟩
  have HV := Lib.hid (show sameB a b = (e1 && e2 && e3) by unfold sameB; rw [h1, h2, h3])
  have HC := Lib.hid fun (w' : World) (hbb : Below w.heap.size w w') => (h3 ▸ sameF ha.u hb.u wa.u wb.u (⟨A, m, c, rfl, (hr.below hbb).size, hm⟩ : Fresh a.u a.l (.agg (uc a.u (.slice A m c))) w') (⟨A', m', c', rfl, (hr'.below hbb).size, hm'⟩ : Fresh b.u b.l (.agg (uc b.u (.slice A' m' c'))) w') : Calls Try.prog _ _ w' (GiveBo w' e3))
  have H1 := Lib.hid h1
  have H2 := Lib.hid h2
  have SA := Lib.hid ha
  have SB := Lib.hid hb
  have WA := Lib.hid wa
  have WB := Lib.hid wb
  have TA := Lib.hid (show (tc a.t).size = 16 by rw [tc_size, ha.t])
  have TB := Lib.hid (show (tc b.t).size = 16 by rw [tc_size, hb.t])
  have PA := Lib.hid (plA_size ha.p)
  have PB := Lib.hid (plA_size hb.p)
  have UA := Lib.hid (uc_size ha.u (.slice A m c))
  have UB := Lib.hid (uc_size hb.u (.slice A' m' c'))
  clear h1 h2 h3 ha hb wa wb hr hr' hm hm'
  go_enter Try.func35, Try.ntmps35
  go_upto_region 1 with fail
  refine nameW ?_
  intro wv hwv
  obtain ⟨g, hg⟩ : ∃ g, g = w.heap.size := ⟨_, rfl⟩
  rw [← hg]
  have ka : Blk wv g 76 (bc a (.slice A m c)) := by rw [hwv, hg]; exact (Blk.new w _ _).alloc _
  have kb : Blk wv (g + 1) 76 (bc b (.slice A' m' c')) := by
    have h := Blk.new (w.alloc (.cells (bc a (.slice A m c)) 76)) 76 (bc b (.slice A' m' c'))
    rw [hwv, hg]
    simpa using h
  have gb : Below w.heap.size w wv := by rw [hwv]; exact ((Below.refl _ _).alloc (Nat.le_refl _) _).alloc (by simp) _
  have pa : wv.rangeAt g 16 (plA a.p).toList := ka.plans SA.out
  have pb : wv.rangeAt (g + 1) 16 (plA b.p).toList := kb.plans SB.out
  have HPV := Lib.hid (HC.out wv gb)
  clear hwv hg HC
  cases e1
  case false =>
    go_wp2_with first
      | ((with_reducible refine wpList_ldr rowRT (ka.tal SA.out) TA.out ?_ ?_); rotate_left; (rfl))
      | ((with_reducible refine wpList_ldr rowRT (kb.tal SB.out) TB.out ?_ ?_); rotate_left; (rfl))
      | ((with_reducible refine wpList_eq twoR SA.out.t SB.out.t WA.out.t WB.out.t ?_ ?_ ?_ ?_); rotate_left; (rfl); (rfl); (rfl); rw [H1.out])
    go_ret
    exact ⟨by rw [HV.out]; rfl, gb⟩
  case true =>
  cases e2
  case false =>
    go_wp2_with first
      | ((with_reducible refine wpList_ldr rowRT (ka.tal SA.out) TA.out ?_ ?_); rotate_left; (rfl))
      | ((with_reducible refine wpList_ldr rowRT (kb.tal SB.out) TB.out ?_ ?_); rotate_left; (rfl))
      | ((with_reducible refine wpList_eq twoR SA.out.t SB.out.t WA.out.t WB.out.t ?_ ?_ ?_ ?_); rotate_left; (rfl); (rfl); (rfl); rw [H1.out])
      | ((with_reducible refine wpList_ldrg rowRPl pa PA.out ?_ ?_ ?_); rotate_left; (rfl); (rfl))
      | ((with_reducible refine wpList_ldrg rowRPl pb PB.out ?_ ?_ ?_); rotate_left; (rfl); (rfl))
      | ((with_reducible refine wpList_eqP SA.out.p SB.out.p WA.out.p WB.out.p ?_ ?_ ?_ ?_); rotate_left; (rfl); (rfl); (rfl); rw [H2.out])
    go_ret
    exact ⟨by rw [HV.out]; rfl, gb⟩
  case true =>
  go_wp2_with first
    | ((with_reducible refine wpList_ldr rowRT (ka.tal SA.out) TA.out ?_ ?_); rotate_left; (rfl))
    | ((with_reducible refine wpList_ldr rowRT (kb.tal SB.out) TB.out ?_ ?_); rotate_left; (rfl))
    | ((with_reducible refine wpList_eq twoR SA.out.t SB.out.t WA.out.t WB.out.t ?_ ?_ ?_ ?_); rotate_left; (rfl); (rfl); (rfl); rw [H1.out])
    | ((with_reducible refine wpList_ldrg rowRPl pa PA.out ?_ ?_ ?_); rotate_left; (rfl); (rfl))
    | ((with_reducible refine wpList_ldrg rowRPl pb PB.out ?_ ?_ ?_); rotate_left; (rfl); (rfl))
    | ((with_reducible refine wpList_eqP SA.out.p SB.out.p WA.out.p WB.out.p ?_ ?_ ?_ ?_); rotate_left; (rfl); (rfl); (rfl); rw [H2.out])
    | ((with_reducible refine wpList_ldrg rowRM (ka.notes SA.out) UA.out ?_ ?_ ?_); rotate_left; (rfl); (rfl))
    | ((with_reducible refine wpList_ldrg rowRM (kb.notes SB.out) UB.out ?_ ?_ ?_); rotate_left; (rfl); (rfl))
  refine HPV.out.mono ?_
  rintro e w2 ⟨rfl, b2⟩
  have gb := gb.trans (b2.mono gb.size)
  clear b2 pa pb ka kb
  go_wp2_with fail
  go_ret
  exact ⟨by rw [HV.out]; simp, gb⟩
end Go.Proofs.Ytocoohpekpkmkaa

/- The walk of board.Note. -/
namespace Go.Proofs.Ytocoohpekpkmkaa
set_option linter.unusedVariables false
set_option linter.unusedSimpArgs false
set_option maxRecDepth 100000
open Go.RowKit
open Reg (La Vl)
theorem bnote_bad {b : Bd} {x y : Int} (h : (Bo.rightB b && decide (0 ≤ y)) = false) : Bo.note b x y = (Bo.zero, 2) := by
  unfold Bo.note
  rw [if_pos]
  simp only [Bool.and_eq_false_iff, decide_eq_false_iff_not] at h
  rcases h with h | h
  · exact .inl h
  · exact .inr (by omega)
set_option maxHeartbeats 4000000 in
theorem bnote_any (b : Bd) (hs : Bo.Shaped b) (nd v : Int) (q : Value) (w : World) (hq : FrBo b q w) : Calls Try.prog 41 #[q, .int .i64 nd, .int .i64 v] w (GiveBdE 49 w (Bo.note b nd v).1 (Bo.note b nd v).2) := by
  obtain ⟨x, k, hx⟩ : ∃ x k, Bo.note b nd v = (x, k) := ⟨_, _, rfl⟩
  rw [hx]
  have HX := Lib.hid hx
  clear hx
  obtain ⟨A, m, c, rfl, hr, hm⟩ := hq
  obtain ⟨R, hR⟩ : ∃ R, R = Bo.rightB b := ⟨_, rfl⟩
  have HC1 := Lib.hid fun (w' : World) (hb : Below w.heap.size w w') => (hR ▸ boRight_any b hs (.agg (bc b (.slice A m c))) w' ⟨A, m, c, rfl, (hr.below hb).size, hm⟩ : Calls Try.prog _ _ w' (GiveBo w' R))
  have HC2 := Lib.hid fun (hr1 : Bo.rightB b = true) (w' : World) (hb : Below w.heap.size w w') => (Bo.own_of hr1 ▸ boOwn_any b hs (.agg (bc b (.slice A m c))) w' ⟨A, m, c, rfl, (hr.below hb).size, hm⟩ : Calls Try.prog _ _ w' (GiveBd 49 w' b))
  have HS := Lib.hid hs
  have h49 := Lib.hid (bc_size (s := .slice A m c) hs)
  have z49 := Lib.hid (bc_size (s := .slice none 0 0) Bo.zero_shaped)
  have o49 := Lib.hid (bc_one (b := b) (s := .slice A m c) rfl)
  have HR := Lib.hid hR
  clear hr hm hs hR
  obtain ⟨r1, hr1⟩ : ∃ r1, r1 = decide (v ≥ 0) := ⟨_, rfl⟩
  have H1 := Lib.hid hr1
  have bad : (R && r1) = false → x = Bo.zero ∧ k = 2 := fun h => by
    have := HX.out
    rw [bnote_bad (by rw [← HR.out]; rw [H1.out] at h; exact h)] at this
    injection this with h1 h2
    exact ⟨h1.symm, h2.symm⟩
  have BAD := Lib.hid bad
  clear bad hr1
  go_enter_defers Try.func41, Try.ntmps41
  go_upto_region 2 with fail
  refine nameW ?_
  intro wv hwv
  obtain ⟨B, hB⟩ : ∃ B, B = w.heap.size := ⟨_, rfl⟩
  rw [← hB]
  have k0 : Blk wv B 83 (bc b (.slice A m c)) := by rw [hwv, hB]; exact ((Blk.new w _ _).alloc _).alloc _
  have ke : Blk wv (B + 1) 83 (bc Bo.zero (.slice none 0 0)) := by
    have h := Blk.new (w.alloc (.cells (bc b (.slice A m c)) 83)) 83 (bc Bo.zero (.slice none 0 0))
    rw [zbo] at h ⊢
    rw [hwv, hB]
    exact (by simpa using h : Blk _ (w.heap.size + 1) _ _).alloc _
  have kf : Blk wv (B + 2) 33 #[.int .i64 0] := by
    have h := Blk.new ((w.alloc (.cells (bc b (.slice A m c)) 83)).alloc (.cells (bc Bo.zero (.slice none 0 0)) 83)) 33 #[.int .i64 0]
    rw [zbo] at h
    rw [hwv, hB]
    simpa using h
  have gb : Below B w wv := by rw [hwv, hB]; exact (((Below.refl _ _).alloc (Nat.le_refl _) _).alloc (by simp) _).alloc (by simp; omega) _
  have HB := Lib.hid hB
  clear hwv hB
  go_wp2_with ((with_reducible refine wpList_ld rowBo k0 h49.out ?_ ?_); rotate_left; (rfl))
  refine (HC1.out wv (by rw [← HB.out]; exact gb)).mono ?_
  rintro e w1 ⟨rfl, b1⟩
  have k0 := k0.below b1 k0.lt
  have ke := ke.below b1 ke.lt
  have kf := kf.below b1 kf.lt
  have gb := gb.trans (b1.mono (by have := gb.size; have := HB.out; omega))
  clear b1
  cases R
  case false =>
    go_wp2_with fail
    refine (bmust_bad 2 _).mono ?_
    rintro e w2 ⟨rfl, rfl⟩
    go_wp2_with fail
    obtain ⟨rfl, rfl⟩ := BAD.out (by simp)
    refine leaves_cons (f := 62) (args := #[.pointer (some ⟨B + 2, 0, none⟩)]) (by simp) (by simp [go_sem]) ?_
    refine (bcaught_panic _ _ _ _ _ (kf.cell 0) (kf.free 0)).mono ?_
    rintro e u' w4 ⟨rfl, rfl, rfl⟩
    have k4 := (kf.alloc (.cells #[.int .i64 2] 171)).set_ 0 (.int .i64 2)
    have e4 := (ke.alloc (.cells #[.int .i64 2] 171)).far (p := ⟨B + 2, 0, none⟩) (by show B + 1 ≠ B + 2; omega) (.int .i64 2)
    have c4 := k4.cell 0
    have g4 := (gb.alloc (by have := gb.size; have := HB.out; omega) (.cells #[.int .i64 2] 171)).setCell (p := ⟨B + 2, 0, none⟩) (by show B ≤ B + 2; omega) (.int .i64 2)
    exact ⟨.tuple #[.agg (bc Bo.zero (.slice none 0 0)), .int .i64 2], results_cc30 rfl rowBo e4 z49.out rfl rfl (by simp [go_sem, c4]), .agg (bc Bo.zero (.slice none 0 0)), rfl, ⟨none, 0, 0, rfl, OwnV.nil _ _ _, by omega⟩, by rw [← HB.out]; exact g4⟩
  case true =>
  cases r1
  case false =>
    have hv0 : decide (0 ≤ v) = false := H1.out.symm
    go_wp2_with fail
    refine (bmust_bad 2 _).mono ?_
    rintro e w2 ⟨rfl, rfl⟩
    go_wp2_with fail
    obtain ⟨rfl, rfl⟩ := BAD.out (by simp)
    refine leaves_cons (f := 62) (args := #[.pointer (some ⟨B + 2, 0, none⟩)]) (by simp) (by simp [go_sem]) ?_
    refine (bcaught_panic _ _ _ _ _ (kf.cell 0) (kf.free 0)).mono ?_
    rintro e u' w4 ⟨rfl, rfl, rfl⟩
    have k4 := (kf.alloc (.cells #[.int .i64 2] 171)).set_ 0 (.int .i64 2)
    have e4 := (ke.alloc (.cells #[.int .i64 2] 171)).far (p := ⟨B + 2, 0, none⟩) (by show B + 1 ≠ B + 2; omega) (.int .i64 2)
    have c4 := k4.cell 0
    have g4 := (gb.alloc (by have := gb.size; have := HB.out; omega) (.cells #[.int .i64 2] 171)).setCell (p := ⟨B + 2, 0, none⟩) (by show B ≤ B + 2; omega) (.int .i64 2)
    exact ⟨.tuple #[.agg (bc Bo.zero (.slice none 0 0)), .int .i64 2], results_cc30 rfl rowBo e4 z49.out rfl rfl (by simp [go_sem, c4]), .agg (bc Bo.zero (.slice none 0 0)), rfl, ⟨none, 0, 0, rfl, OwnV.nil _ _ _, by omega⟩, by rw [← HB.out]; exact g4⟩
  case true =>
  have hv0 : decide (0 ≤ v) = true := H1.out.symm
  clear BAD
  go_wp2_with fail
  refine (bmust_ok 2 _).mono ?_
  rintro e w2 ⟨rfl, rfl⟩
  go_wp2_with ((with_reducible refine wpList_ld rowBo k0 h49.out ?_ ?_); rotate_left; (rfl))
  refine (HC2.out HR.out.symm w1 (by rw [← HB.out]; exact gb)).mono ?_
  rintro e w2 ⟨_, rfl, ⟨A', m', c', rfl, o, hm'⟩, b1⟩
  have k0 := k0.below b1 k0.lt
  have ke := ke.below b1 ke.lt
  have kf := kf.below b1 kf.lt
  have gb := gb.trans (b1.mono (by have := gb.size; have := HB.out; omega))
  clear b1
  have HM := Lib.hid hm'
  have n49 := Lib.hid (bc_size (b := b) (s := .slice A' m' c') HS.out)
  have n1 := Lib.hid (bc_one (b := b) (s := .slice A' m' c') rfl)
  clear hm' HC1 HC2 h49 o49 hv0
  go_upto_region 4 with ((with_reducible refine wpList_st rowBo (Blk.new _ _ _) n49.out ?_ n1.out ?_ ?_ ?_); (rfl); rotate_left; (rfl); (rfl); intro w3 kx g3 z3)
  obtain ⟨X, hX⟩ : ∃ X, X = w2.heap.size := ⟨_, rfl⟩
  rw [← hX] at kx g3 ⊢
  have hXB : B + 2 < X := by have := kf.lt; omega
  have bx : Below w2.heap.size w2 w3 := new_below (hX ▸ g3)
  have k0 := k0.below bx k0.lt
  have ke := ke.below bx ke.lt
  have kf := kf.below bx kf.lt
  have o := o.below bx (Nat.le_refl _)
  have gb := gb.trans (bx.mono (by have := gb.size; have := HB.out; omega))
  clear bx
  clear g3 z3 hX
  obtain ⟨u', l', kt, ht⟩ : ∃ u' l' kt, Reg.putM b.u b.l nd v = ((u', l'), kt) := ⟨_, _, _, rfl⟩
  have had := putF (U := b.u) (l := b.l) HS.out.u nd v (q := .agg (uc b.u (.slice A' m' c'))) (w := w3) ⟨A', m', c', rfl, o.rd, HM.out⟩
  rw [ht] at had
  have HAD := Lib.hid had
  have HT := Lib.hid ht
  have u8 : u'.length = 8 := by
    have := putM_len8 (l := b.l) HS.out.u nd v
    rwa [ht] at this
  have U8 := Lib.hid u8
  have S9 := Lib.hid (uc_size HS.out.u (.slice A' m' c'))
  clear had ht u8
  go_wp2_with ((with_reducible refine wpList_ldr rowM (kx.notes HS.out) S9.out ?_ ?_); rotate_left; (rfl))
  refine HAD.out.mono ?_
  rintro e w4 ⟨_, rfl, ⟨A2, m2, c2, rfl, o2, hm2⟩, b1⟩
  have k0 := k0.below b1 k0.lt
  have ke := ke.below b1 ke.lt
  have kf := kf.below b1 kf.lt
  have kx := kx.below b1 kx.lt
  have gb := gb.trans (b1.mono (by have := gb.size; have := HB.out; omega))
  clear b1
  have HM2 := Lib.hid hm2
  clear HAD o hm2
  by_cases hkt : kt = 0
  case neg =>
    have HK := Lib.hid hkt
    go_wp2_with fail
    refine (gotM_bad (uc u' (.slice A2 m2 c2)) kt HK.out _).mono ?_
    rintro e w5 ⟨rfl, b1⟩
    have k0 := k0.below b1 k0.lt
    have ke := ke.below b1 ke.lt
    have kf := kf.below b1 kf.lt
    have gb := gb.trans (b1.mono (by have := gb.size; have := HB.out; omega))
    clear b1
    have hxk : x = Bo.zero ∧ k = kt := by
      have := HX.out
      unfold Bo.note at this
      rw [if_neg (by have := of_decide_eq_true H1.out.symm; rw [← HR.out]; simp; omega), if_pos (by rw [HT.out]; exact HK.out), HT.out] at this
      injection this with h1 h2
      exact ⟨h1.symm, h2.symm⟩
    obtain ⟨rfl, rfl⟩ := hxk
    clear HX HT hkt HK
    go_wp2_with fail
    refine leaves_cons (f := 62) (args := #[.pointer (some ⟨B + 2, 0, none⟩)]) (by simp) (by simp [go_sem]) ?_
    refine (bcaught_panic _ _ _ _ _ (kf.cell 0) (kf.free 0)).mono ?_
    rintro e u' w4 ⟨rfl, rfl, rfl⟩
    have k4 := (kf.alloc (.cells #[.int .i64 k] 171)).set_ 0 (.int .i64 k)
    have e4 := (ke.alloc (.cells #[.int .i64 k] 171)).far (p := ⟨B + 2, 0, none⟩) (by show B + 1 ≠ B + 2; omega) (.int .i64 k)
    have c4 := k4.cell 0
    have g4 := (gb.alloc (by have := gb.size; have := HB.out; omega) (.cells #[.int .i64 k] 171)).setCell (p := ⟨B + 2, 0, none⟩) (by show B ≤ B + 2; omega) (.int .i64 k)
    exact ⟨.tuple #[.agg (bc Bo.zero (.slice none 0 0)), .int .i64 k], results_cc30 rfl rowBo e4 z49.out rfl rfl (by simp [go_sem, c4]), .agg (bc Bo.zero (.slice none 0 0)), rfl, ⟨none, 0, 0, rfl, OwnV.nil _ _ _, by omega⟩, by rw [← HB.out]; exact g4⟩
  case pos =>
  subst hkt
  go_wp2_with fail
  refine (gotM_ok (uc u' (.slice A2 m2 c2)) (uc_size U8.out _) (uc_one rfl) _).mono ?_
  rintro e w5 ⟨rfl, b1⟩
  have k0 := k0.below b1 k0.lt
  have ke := ke.below b1 ke.lt
  have kf := kf.below b1 kf.lt
  have kx := kx.below b1 kx.lt
  have o2 := o2.below b1 (Nat.le_refl _)
  have gb := gb.trans (b1.mono (by have := gb.size; have := HB.out; omega))
  clear b1
  have hth := kx.there_ (o := 40) (n := 9) (by rw [n49.out]; omega)
  have SB := Lib.hid (uc_size U8.out (.slice A2 m2 c2))
  have OB := Lib.hid (uc_one (U := u') (s := .slice A2 m2 c2) rfl)
  go_upto_region 5 with ((with_reducible refine wpList_str rowM hth SB.out OB.out ?_ ?_ ?_); rotate_left; (rfl); (rfl); intro w9 hw9)
  have gx := cells_grown w5 X 40 (uc u' (.slice A2 m2 c2)).toList
  rw [← hw9] at gx
  have ke := ke.grown gx (fun h => by injection h; omega)
  have kf := kf.grown gx (fun h => by injection h; omega)
  have o := o2.grown gx (.inr (own_ne o2.2 kx (by decide)))
  have gb := gb.grown gx (by have := gb.size; have := HB.out; omega) (fun q hq => by injection hq; have := HB.out; omega)
  have kx := kx.setN HS.out (l := l') (s' := .slice A2 m2 c2) U8.out
  have kx : Blk w9 X 83 (bc { b with u := u', l := l' } (.slice A2 m2 c2)) := by rw [hw9]; exact kx
  have hxk : x = { b with u := u', l := l' } ∧ k = 0 := by
    have := HX.out
    unfold Bo.note at this
    rw [if_neg (by have := of_decide_eq_true H1.out.symm; rw [← HR.out]; simp; omega), if_neg (by rw [HT.out]; simp), HT.out] at this
    injection this with h1 h2
    exact ⟨h1.symm, h2.symm⟩
  have hs3 : Bo.Shaped x := by rw [hxk.1]; exact ⟨HS.out.t, HS.out.p, U8.out⟩
  have hl3 : x.l = l' := by rw [hxk.1]
  rw [← hxk.1] at kx
  obtain ⟨_, rfl⟩ := hxk
  have N49 := Lib.hid (bc_size (b := x) (s := .slice A2 m2 c2) hs3)
  have N1 := Lib.hid (bc_one (b := x) (s := .slice A2 m2 c2) rfl)
  have HL := Lib.hid hl3
  clear hs3 hl3 gx hth hw9 k0 o2
  have cf := kf.cell 0
  have ff := kf.free 0
  go_wp2_with first
    | ((with_reducible refine wpList_ld rowBo kx N49.out ?_ ?_); rotate_left; (rfl))
    | ((with_reducible refine wpList_st rowBo ke N49.out z49.out N1.out ?_ ?_ ?_); rotate_left; (rfl); (rfl); intro w10 k10 g10 z10; have kf := kf.grown g10 (fun h => by injection h; omega); have cf := kf.cell 0; have ff := kf.free 0)
  have o := o.grown g10 (.inr (own_ne o.2 ke (by decide)))
  have gb := gb.grown g10 (by have := gb.size; have := HB.out; omega) (fun q hq => by injection hq; have := HB.out; omega)
  refine leaves_cons (f := 62) (args := #[.pointer (some ⟨B + 2, 0, none⟩)]) (by simp) (by simp [go_sem]) ?_
  refine (bcaught_none _ _).mono ?_
  rintro e u' w11 ⟨rfl, rfl, rfl⟩
  have k12 := k10.far (p := ⟨B + 2, 0, none⟩) (by show B + 1 ≠ B + 2; omega) (.int .i64 0)
  have f12 := kf.set_ 0 (.int .i64 0)
  have c12 := f12.cell 0
  have o12 := o.setFar (p := ⟨B + 2, 0, none⟩) (own_ne o.2 kf (by decide)) (.int .i64 0)
  have g12 := gb.setCell (p := ⟨B + 2, 0, none⟩) (by show B ≤ B + 2; omega) (.int .i64 0)
  rw [← HL.out] at o12
  exact ⟨.tuple #[.agg (bc x (.slice A2 m2 c2)), .int .i64 0], results_cc30 rfl rowBo k12 N49.out rfl rfl (by simp [go_sem, c12]), .agg (bc x (.slice A2 m2 c2)), rfl, ⟨A2, m2, c2, rfl, o12, HM2.out⟩, by rw [← HB.out]; exact g12⟩
end Go.Proofs.Ytocoohpekpkmkaa

/- A right board's numbers are those of an int64. -/
namespace Go.Proofs.Ytocoohpekpkmkaa
set_option linter.unusedVariables false
set_option linter.unusedSimpArgs false
open Go.RowKit
open Reg (La Vl)
theorem right_wfB {b : Bd} (h : Bo.rightB b = true) : WfB b := by
  obtain ⟨h1, h2, h3, h4⟩ := (Bo.right_iff b).1 h
  refine ⟨right_wf h3, fun q hq => ?_, fun x hx => ?_⟩
  · have := (Bo.planB_iff q).1 (h1 q hq)
    obtain ⟨x, y, z⟩ := q
    show (Lit.int .i64 x).wf = true ∧ (Lit.int .i64 y).wf = true ∧ (Lit.int .i64 z).wf = true
    rcases this with e | e
    · injection e with e1 e2
      injection e2 with e2 e3
      subst e1 e2 e3
      exact ⟨wf_of (by omega) (by omega), wf_of (by omega) (by omega), wf_of (by omega) (by omega)⟩
    · simp only at e
      exact ⟨wf_of (by omega) (by omega), wf_of (by omega) (by omega), wf_of (by omega) (by omega)⟩
  · have hm := (Reg.rightM_iff b.u b.l).1 h4
    have := (Reg.numOk_iff x).1 (List.all_eq_true.1 hm.1 x hx)
    exact wf_of (by omega) (by omega)
theorem zero_wfB : WfB Bo.zero := right_wfB Bo.zero_right
/-- what was read of bytes is right, and gives the bytes -/
theorem getX_ok {xs : List UInt8} {b : Bd} (h : Bo.getX xs = .ok b) : Bo.rightB b = true ∧ bodyL b = xs := by
  unfold Bo.getX at h
  split at h
  · cases h
  split at h
  · cases h
  split at h
  · cases h
  split at h
  case isTrue hc =>
    injection h with h
    rw [← h]
    exact hc
  case isFalse => cases h
theorem getBo_right (bs : List UInt8) : Bo.rightB (getBo bs).1 = true := by
  unfold getBo
  cases hg : Bo.getE bs with
  | error y => exact Bo.zero_right
  | ok b =>
    unfold Bo.getE at hg
    split at hg
    · cases hg
    · split at hg
      · exact (getX_ok hg).1
      · cases hg
end Go.Proofs.Ytocoohpekpkmkaa

/- How boards read when they come in. -/
namespace Go.Proofs.Ytocoohpekpkmkaa
set_option linter.unusedVariables false
set_option linter.unusedSimpArgs false
open Go.ChangeShapes Go.WideShapes Go.ChangeAt Go.RowKit Go.Deep
open Reg (La Vl)
set_option maxRecDepth 100000
theorem cellsRPl : (Try.prog).cellsOf 74 = 24 := by kernel_rfl
theorem cellsRT : (Try.prog).cellsOf 73 = 16 := by kernel_rfl
theorem cellsRBo : (Try.prog).cellsOf 76 = 49 := by kernel_rfl
theorem cellsStp : (Try.prog).cellsOf 97 = 3 := by kernel_rfl
section
variable {H : Type} {enc : TypeId × Value → H} {W : World} {base : Nat} {sp : Nat → Bool} {held : Bool} {fuel : Nat} {cs : List Value} {x : DataW H × List MemPlace}
theorem rd_lac (hf : DataW.trod enc Try.prog W base sp held fuel 61 cs = some x) : ∃ d : La, cs = pc d ∧ (Lit.int .i64 d.1).wf = true ∧ (Lit.int .i64 d.2.1).wf = true ∧ (Lit.int .i64 d.2.2).wf = true := by
  have hl := rd_len Try.underlying61 cellsLa hf
  obtain ⟨_, _, g0⟩ := rd_field Try.underlying61 hf 0 3 0 1 rfl cellsI
  obtain ⟨_, _, g1⟩ := rd_field Try.underlying61 hf 1 3 1 1 rfl cellsI
  obtain ⟨_, _, g2⟩ := rd_field Try.underlying61 hf 2 3 2 1 rfl cellsI
  obtain ⟨x0, e0, h0⟩ := rd_int g0
  obtain ⟨x1, e1, h1⟩ := rd_int g1
  obtain ⟨x2, e2, h2⟩ := rd_int g2
  match cs, hl with
  | [a, b, c], _ =>
    simp at e0 e1 e2
    exact ⟨(x0, x1, x2), by rw [e0, e1, e2]; rfl, wf_of h0.1 h0.2, wf_of h1.1 h1.2, wf_of h2.1 h2.2⟩
theorem rd_arrP (hf : DataW.trod enc Try.prog W base sp held fuel 74 cs = some x) : ∃ p : List La, cs = plansC p ∧ p.length = 8 ∧ WfP p := by
  obtain ⟨xs, m, _, _, hl, hxl, hg⟩ := DataW.trod_array Try.underlying74 hf
  rw [cellsRPl] at hl
  rw [cellsLa] at hg
  have key : ∀ i, i < 8 → ∃ d : La, (cs.drop (i * 3)).take 3 = pc d ∧ (Lit.int .i64 d.1).wf = true ∧ (Lit.int .i64 d.2.1).wf = true ∧ (Lit.int .i64 d.2.2).wf = true := fun i hi => by
    have h := hg i hi
    rw [List.getElem?_eq_getElem (by omega)] at h
    exact rd_lac h
  have hex : ∀ i, ∃ d : La, i < 8 → (cs.drop (i * 3)).take 3 = pc d ∧ (Lit.int .i64 d.1).wf = true ∧ (Lit.int .i64 d.2.1).wf = true ∧ (Lit.int .i64 d.2.2).wf = true := fun i => by
    by_cases hi : i < 8
    · obtain ⟨d, h⟩ := key i hi
      exact ⟨d, fun _ => h⟩
    · exact ⟨(0, 0, 0), fun h => absurd h hi⟩
  refine ⟨(List.range 8).map fun i => (hex i).choose, ?_, by simp, fun z hz => ?_⟩
  · apply List.ext_getElem?
    intro j
    by_cases hj : j < 24
    · obtain ⟨i, r, hr, rfl⟩ : ∃ i r, r < 3 ∧ j = i * 3 + r := ⟨j / 3, j % 3, Nat.mod_lt _ (by omega), by omega⟩
      have hi : i < 8 := by omega
      rw [plansC_at _ i r (by simpa using hi) hr, List.getD_eq_getElem?_getD, List.getElem?_map, List.getElem?_range hi]
      show _ = (pc (hex i).choose)[r]?
      rw [← ((hex i).choose_spec hi).1, List.getElem?_take, if_pos hr, List.getElem?_drop]
    · rw [List.getElem?_eq_none (by omega), List.getElem?_eq_none (by rw [plansC_len]; simp; omega)]
  · obtain ⟨i, hi, rfl⟩ := List.mem_map.1 hz
    exact ((hex i).choose_spec (by simpa using hi)).2
theorem rd_talR (hf : DataW.trod enc Try.prog W base sp held fuel 73 cs = some x) : ∃ l : List Int, cs = l.map (Value.int .i64) ∧ l.length = 16 ∧ Wf l := by
  obtain ⟨⟨f0, f1, hu, t0, o0, t1, o1, _, _⟩, hc, _, _⟩ := twoR
  have hl := rd_len hu hc hf
  obtain ⟨_, _, g0⟩ := rd_field hu hf 0 22 0 8 (by simp [t0, o0]) cellsA
  obtain ⟨_, _, g1⟩ := rd_field hu hf 1 22 8 8 (by simp [t1, o1]) cellsA
  obtain ⟨l0, e0, n0, w0⟩ := rd_arr8 g0
  obtain ⟨l1, e1, n1, w1⟩ := rd_arr8 g1
  refine ⟨l0 ++ l1, ?_, by simp [n0, n1], fun z hz => ?_⟩
  · rw [List.map_append, ← e0, ← e1, List.drop_zero, List.take_of_length_le (l := cs.drop 8) (by simp; omega), List.take_append_drop]
  · rcases List.mem_append.1 hz with h | h
    · exact w0 z h
    · exact w1 z h
theorem rd_board (hf : DataW.trod enc Try.prog W base sp held fuel 76 cs = some x) : ∃ (b : Bd) (A : Option Addr) (n c : Nat), cs = (bc b (.slice A n c)).toList ∧ Bo.Shaped b ∧ WfB b ∧ RdV W W.heap.size A n b.l ∧ n ≤ maxLen := by
  have hl := rd_len Try.underlying76 cellsRBo hf
  obtain ⟨_, _, g0⟩ := rd_field Try.underlying76 hf 0 73 0 16 rfl cellsRT
  obtain ⟨_, _, g1⟩ := rd_field Try.underlying76 hf 1 74 16 24 rfl cellsRPl
  obtain ⟨_, _, g2⟩ := rd_field Try.underlying76 hf 2 25 40 9 rfl cellsRM
  obtain ⟨t, e0, h0, w0⟩ := rd_talR g0
  obtain ⟨p, e1, h1, w1⟩ := rd_arrP g1
  obtain ⟨U, A, n, c, l, e2, hU, wU, hr, hn⟩ := rd_many g2
  refine ⟨⟨t, p, U, l⟩, A, n, c, ?_, ⟨h0, h1, hU⟩, ⟨w0, w1, wU⟩, hr, hn⟩
  have hall : cs = (cs.drop 0).take 16 ++ ((cs.drop 16).take 24 ++ ((cs.drop 40).take 9 ++ [])) := by
    rw [← List.drop_eq_nil_of_le (i := 49) (Nat.le_of_eq hl), cut_row _ 40 9, cut_row _ 16 24, cut_row _ 0 16, List.drop_zero]
  rw [e0, e1, e2] at hall
  rw [hall]
  simp [bc, uc]
end
section
variable {H : Type} {enc : TypeId × Value → H} {W : World} {base : Nat} {sp : Nat → Bool} {held : Bool} {r : Reach} {b0 : Nat} {v : Value} {d : DataW H} {p : List MemPlace}
theorem open_board (hv : Value.okWide Try.prog W r b0 76 v) (h : DataW.Trod enc Try.prog W base sp held 76 v d p) :
    ∃ (b : Bd) (A : Option Addr) (n c : Nat), v = .agg (bc b (.slice A n c)) ∧ Bo.Shaped b ∧ WfB b ∧ RdV W W.heap.size A n b.l ∧ n ≤ maxLen := by
  obtain ⟨cs, rfl, hsz⟩ := okWide_struct Try.underlying76 hv
  obtain ⟨fuel, hf0⟩ := h
  have hf : DataW.trod enc Try.prog W base sp held fuel 76 cs.toList = some (d, p) := hf0
  obtain ⟨b, A, n, c, h1, h2⟩ := rd_board hf
  exact ⟨b, A, n, c, by rw [← Array.toArray_toList (xs := cs), h1], h2⟩
theorem open_stp (hv : Value.okWide Try.prog W r b0 97 v) (h : DataW.Trod enc Try.prog W base sp held 97 v d p) :
    ∃ x y z : Int, v = .agg #[.int .i64 x, .int .i64 y, .int .i64 z] ∧ (Lit.int .i64 x).wf = true ∧ (Lit.int .i64 y).wf = true ∧ (Lit.int .i64 z).wf = true := by
  obtain ⟨cs, rfl, hsz⟩ := okWide_struct Try.underlying97 hv
  obtain ⟨fuel, hf0⟩ := h
  have hf : DataW.trod enc Try.prog W base sp held fuel 97 cs.toList = some (d, p) := hf0
  have hl := rd_len Try.underlying97 cellsStp hf
  obtain ⟨_, _, g0⟩ := rd_field Try.underlying97 hf 0 3 0 1 rfl cellsI
  obtain ⟨_, _, g1⟩ := rd_field Try.underlying97 hf 1 3 1 1 rfl cellsI
  obtain ⟨_, _, g2⟩ := rd_field Try.underlying97 hf 2 3 2 1 rfl cellsI
  obtain ⟨x0, e0, h0⟩ := rd_int g0
  obtain ⟨x1, e1, h1⟩ := rd_int g1
  obtain ⟨x2, e2, h2⟩ := rd_int g2
  refine ⟨x0, x1, x2, ?_, wf_of h0.1 h0.2, wf_of h1.1 h1.2, wf_of h2.1 h2.2⟩
  congr 1
  apply Array.ext'
  generalize cs.toList = ls at *
  match ls, hl with
  | [a, b, c], _ =>
    simp at e0 e1 e2
    rw [e0, e1, e2]
end
end Go.Proofs.Ytocoohpekpkmkaa

/- The document's example of boards: numbers. -/
namespace Go.Proofs.Ytocoohpekpkmkaa
set_option linter.unusedVariables false
set_option linter.unusedSimpArgs false
set_option maxRecDepth 100000
open Go.RowKit
open Reg (La Vl)
def exBA : Bd := ⟨[0, 1, 0, 0, 0, 0, 0, 0, 0, 0, 0, 0, 0, 0, 0, 0], [(0, 0, 0), (0, 0, 0), (1, 1, 5), (0, 0, 0), (0, 0, 0), (0, 0, 0), (0, 0, 0), (0, 0, 0)], [0, 0, 0, 0, 0, 0, 0, 0], []⟩
def exBB : Bd := ⟨[0, 1, 0, 1, 0, 0, 0, 0, 0, 0, 0, 0, 0, 0, 0, 0], [(0, 0, 0), (0, 0, 0), (2, 3, 6), (0, 0, 0), (0, 0, 0), (0, 0, 0), (0, 0, 0), (0, 0, 0)], [0, 0, 0, 0, 0, 0, 0, 0], []⟩
theorem exA_wrote : Bo.wrote Bo.zero 1 2 5 = (exBA, 0) := Prod.ext ((sameB_iff _ _).1 (by decide +kernel)) (by decide +kernel)
theorem exB_wrote : Bo.wrote exBA 3 2 6 = (exBB, 0) := Prod.ext ((sameB_iff _ _).1 (by decide +kernel)) (by decide +kernel)
theorem exB_right : Bo.rightB exBB = true := by decide +kernel
theorem exB_put : putBo exBB = (Frame.frm (bodyL exBB), 0) := by unfold putBo; rw [if_pos exB_right]
def okIs (r : Except Nat Bd) (b : Bd) : Bool := match r with
  | .ok x => sameB x b
  | .error _ => false
theorem okIs_eq {r : Except Nat Bd} {b : Bd} (h : okIs r b = true) : r = .ok b := by
  cases r with
  | error y => cases h
  | ok x => rw [(sameB_iff x b).1 h]
theorem exB_getX : Bo.getX (bodyL exBB) = .ok exBB := okIs_eq (by decide +kernel)
theorem exB_len : (bodyL exBB).length ≤ 4096 := by decide +kernel
theorem exB_get : getBo (Frame.frm (bodyL exBB)) = (exBB, 0) := by
  have hd := Frame.dec_frm exB_len []
  rw [List.append_nil] at hd
  exact getBo_ok (by rw [getE_x hd, exB_getX])
end Go.Proofs.Ytocoohpekpkmkaa

/- The walk of the law's alive. -/
namespace Go.Proofs.Ytocoohpekpkmkaa
set_option linter.unusedVariables false
set_option linter.unusedSimpArgs false
set_option maxRecDepth 100000
open Go.RowKit
open Reg (La Vl)
theorem exBs : Bo.Shaped exBB := ⟨rfl, rfl, rfl⟩
theorem exAs : Bo.Shaped exBA := ⟨rfl, rfl, rfl⟩
theorem exB_val : Tally.valueL exBB.t = 2 := by decide +kernel
theorem exB_same : sameB exBB exBB = true := (sameB_iff _ _).2 rfl
theorem exBw : WfB exBB := ⟨by unfold Wf; decide +kernel, by unfold WfP; decide +kernel, by unfold Wf; decide +kernel⟩
set_option maxHeartbeats 4000000 in
theorem balive_any (w : World) : Calls Try.prog 29 #[] w (GiveBo w true) := by
  have HBD := Lib.hid fun (w : World) => (show (Instr.build 83 #[]).run Try.prog w = .ok (.agg (bc Bo.zero (.slice none 0 0))) w by kernel_rfl)
  obtain ⟨zz, hzz⟩ : ∃ zz, zz = Bo.zero := ⟨_, rfl⟩
  have hw1 := fun w => bwrote_any Bo.zero Bo.zero_shaped 1 2 5 (.agg (bc Bo.zero (.slice none 0 0))) w ⟨none, 0, 0, rfl, RdV.nil _ _ _, by omega⟩
  rw [exA_wrote] at hw1
  have HW1 := Lib.hid hw1
  clear hw1 hzz
  go_enter Try.func29, Try.ntmps29
  go_wp2_with ((refine wpList_bdV (v := .agg (bc Bo.zero (.slice none 0 0))) (w' := _) rfl 83 #[] rfl ?_ ?_); (simp only [List.map_toArray, List.map_nil]; exact HBD.out _))
  refine (HW1.out w).mono ?_
  rintro e w1 ⟨_, rfl, hA, gb⟩
  obtain ⟨A1, m1, c1, rfl, oA, hmA⟩ := hA
  have FA : FoBo 49 exBA (.agg (bc exBA (.slice A1 m1 c1))) w1 := ⟨A1, m1, c1, rfl, oA, hmA⟩
  have NA := Lib.hid (bc_size (s := .slice A1 m1 c1) exAs)
  have OA := Lib.hid (bc_one (b := exBA) (s := .slice A1 m1 c1) rfl)
  generalize hcA : bc exBA (.slice A1 m1 c1) = cA at *
  go_upto_region 2 with ((with_reducible refine wpList_st rowBo (Blk.new _ _ _) NA.out ?_ OA.out ?_ ?_ ?_); (rfl); rotate_left; (rfl); (rfl); intro w2 kA g2 z2)
  have bq : Below w1.heap.size w1 w2 := new_below g2
  have FA := FA.below bq
  have gb := gb.trans (bq.mono gb.size)
  clear g2 z2 bq oA
  have hw2 := bwrote_any exBA exAs 3 2 6 (.agg cA) w2 FA.fresh
  rw [exB_wrote] at hw2
  have HW2 := Lib.hid hw2
  clear hw2
  go_wp2_with ((with_reducible refine wpList_ld rowBo kA NA.out ?_ ?_); rotate_left; (rfl))
  refine HW2.out.mono ?_
  rintro e w3 ⟨_, rfl, hB, b3⟩
  have gb := gb.trans (b3.mono gb.size)
  obtain ⟨B1, n1, d1, rfl, oB, hmB⟩ := hB
  have FB : FoBo 49 exBB (.agg (bc exBB (.slice B1 n1 d1))) w3 := ⟨B1, n1, d1, rfl, oB, hmB⟩
  have N49 := Lib.hid (bc_size (s := .slice B1 n1 d1) exBs)
  have OB := Lib.hid (bc_one (b := exBB) (s := .slice B1 n1 d1) rfl)
  obtain ⟨cB, hcB⟩ : ∃ cB, cB = bc exBB (.slice B1 n1 d1) := ⟨_, rfl⟩
  rw [← hcB] at FB N49 OB ⊢
  have HCB := Lib.hid hcB
  clear kA b3 HW2 HW1 oB hcB FA
  go_upto_region 3 with ((with_reducible refine wpList_st rowBo (Blk.new _ _ _) N49.out ?_ OB.out ?_ ?_ ?_); (rfl); rotate_left; (rfl); (rfl); intro w4 kB g4 z4)
  obtain ⟨gB, hgB⟩ : ∃ gB, gB = w3.heap.size := ⟨_, rfl⟩
  rw [← hgB] at kB ⊢
  have bq : Below w3.heap.size w3 w4 := new_below g4
  have FB := FB.below bq
  have gb := gb.trans (bq.mono gb.size)
  clear g4 z4 bq hgB
  have hp := bput_any exBB exBs (.agg cB) w4 FB.fresh
  rw [exB_put] at hp
  have HP := Lib.hid hp
  clear hp
  go_wp2_with ((with_reducible refine wpList_ld rowBo kB N49.out ?_ ?_); rotate_left; (rfl))
  refine HP.out.mono ?_
  rintro e w5 ⟨AX, nX, cX, rfl, oX, b5⟩
  have kB := kB.below b5 kB.lt
  have FB := FB.below b5
  have gb := gb.trans (b5.mono gb.size)
  have hnx : nX ≤ 1000000 := by
    rw [oX.1]
    show (Frame.frm (bodyL exBB)).length ≤ 1000000
    rw [Frame.frm_length]
    have h1 := exB_len
    have h2 := Vint.enc_length (bodyL exBB).length
    omega
  have hcap := ownsRow_le oX.2
  clear b5 HP
  have hg := bget_any AX nX cX (Frame.frm (bodyL exBB)) w5 oX.rd hnx hcap.1 hcap.2
  rw [exB_get] at hg
  have HGT := Lib.hid hg
  clear hg hnx hcap oX
  generalize (Frame.frm (bodyL exBB)) = xsx at *
  go_wp2_with fail
  refine HGT.out.mono ?_
  rintro e w6 ⟨_, rfl, hC, b6⟩
  have kB := kB.below b6 kB.lt
  have FB := FB.below b6
  have gb := gb.trans (b6.mono gb.size)
  obtain ⟨C1, n2, d2, rfl, oC, hmC⟩ := hC
  have FC : FoBo 49 exBB (.agg (bc exBB (.slice C1 n2 d2))) w6 := ⟨C1, n2, d2, rfl, oC, hmC⟩
  have C49 := Lib.hid (bc_size (s := .slice C1 n2 d2) exBs)
  have OC := Lib.hid (bc_one (b := exBB) (s := .slice C1 n2 d2) rfl)
  obtain ⟨cC, hcC⟩ : ∃ cC, cC = bc exBB (.slice C1 n2 d2) := ⟨_, rfl⟩
  rw [← hcC] at FC C49 OC ⊢
  clear b6 HGT oC hcC
  go_upto_region 5 with ((with_reducible refine wpList_st rowBo (Blk.new _ _ _) C49.out ?_ OC.out ?_ ?_ ?_); (rfl); rotate_left; (rfl); (rfl); intro w9 kC g9 z9)
  obtain ⟨gC, hgC⟩ : ∃ gC, gC = w6.heap.size := ⟨_, rfl⟩
  rw [← hgC] at kC ⊢
  have bq : Below w6.heap.size w6 w9 := new_below g9
  have kB := kB.below bq kB.lt
  have FB := FB.below bq
  have FC := FC.below bq
  have gb := gb.trans (bq.mono gb.size)
  clear g9 z9 bq hgC
  have kB2 : Blk w9 gB 83 (bc exBB (.slice B1 n1 d1)) := by rw [← HCB.out]; exact kB
  have hQ := FB.fresh
  have hQC := FC.fresh
  refine wp_region_tail 34 (fun L v w => v 3 = .pointer (some ⟨gB, 0, none⟩) ∧ v 7 = .pointer (some ⟨gC, 0, none⟩) ∧ v 2 = .int .i64 0 ∧ v 4 = .int .i64 0 ∧ v 6 = .int .i64 0 ∧ v 8 = .int .i64 0 ∧ Below w9.heap.size w9 w ∧ (L 0 = true → v 29 = .int .i64 0) ∧ (L 1 = true → v 30 = .bool true) ∧ (L 2 = true → v 31 = .bool true) ∧ (L 3 = true → v 32 = .int .i64 0) ∧ (L 4 = true → v 33 = .bool true) ∧ (L 5 = true → v 34 = .bool true) ∧ (L 6 = true → v 35 = .bool true) ∧ (L 7 = true → v 36 = .pointer (some ⟨gB, 0, none⟩)) ∧ (L 8 = true → v 37 = .agg (tc exBB.t)) ∧ (L 9 = true → v 38 = .int .i64 2) ∧ (L 10 = true → v 39 = .bool true) ∧ (L 11 = true → v 40 = .bool true) ∧ (L 12 = true → v 41 = .bool true) ∧ (L 13 = true → v 42 = .pointer (some ⟨gB, 16, none⟩)) ∧ (L 14 = true → v 43 = .pointer (some ⟨gB, 22, none⟩)) ∧ (L 15 = true → v 44 = .agg #[.int .i64 2, .int .i64 3, .int .i64 6]) ∧ (L 16 = true → v 45 = .agg #[.int .i64 2, .int .i64 3, .int .i64 6]) ∧ (L 17 = true → v 46 = .bool true) ∧ (L 18 = true → v 47 = .bool true) ∧ (L 19 = true → v 48 = .bool true) ∧ (L 20 = true → v 49 = .int .i64 0) ∧ (L 21 = true → v 50 = .bool true) ∧ (L 22 = true → v 51 = .bool true) ∧ (L 23 = true → v 52 = .bool true) ∧ (L 24 = true → v 53 = .int .i64 0) ∧ (L 25 = true → v 54 = .bool true) ∧ (L 26 = true → v 55 = .bool true) ∧ (L 27 = true → v 56 = .bool true) ∧ (L 28 = true → v 57 = .agg cB) ∧ (L 29 = true → FoBo 105 exBB (v 58) w) ∧ (L 30 = true → v 59 = .agg cC) ∧ (L 31 = true → FoBo 105 exBB (v 60) w) ∧ (L 32 = true → v 61 = .bool true) ∧ (L 33 = true → v 62 = .bool true)) [29, 30, 31, 32, 33, 34, 35, 36, 37, 38, 39, 40, 41, 42, 43, 44, 45, 46, 47, 48, 49, 50, 51, 52, 53, 54, 55, 56, 57, 58, 59, 60, 61, 62] (by kernel_rfl) (by kernel_rfl) (by kernel_rfl) (by kernel_rfl) (by kernel_rfl) (by kernel_rfl) ?h0 ?hst ?hend
  case h0 =>
    intro L h0
    have h0 : ∀ i, i < 34 → L i = false := h0
    exact ⟨rfl, rfl, rfl, rfl, rfl, rfl, (Below.refl _ _).drew, offF h0 (i := 0) (by decide), offF h0 (i := 1) (by decide), offF h0 (i := 2) (by decide), offF h0 (i := 3) (by decide), offF h0 (i := 4) (by decide), offF h0 (i := 5) (by decide), offF h0 (i := 6) (by decide), offF h0 (i := 7) (by decide), offF h0 (i := 8) (by decide), offF h0 (i := 9) (by decide), offF h0 (i := 10) (by decide), offF h0 (i := 11) (by decide), offF h0 (i := 12) (by decide), offF h0 (i := 13) (by decide), offF h0 (i := 14) (by decide), offF h0 (i := 15) (by decide), offF h0 (i := 16) (by decide), offF h0 (i := 17) (by decide), offF h0 (i := 18) (by decide), offF h0 (i := 19) (by decide), offF h0 (i := 20) (by decide), offF h0 (i := 21) (by decide), offF h0 (i := 22) (by decide), offF h0 (i := 23) (by decide), offF h0 (i := 24) (by decide), offF h0 (i := 25) (by decide), offF h0 (i := 26) (by decide), offF h0 (i := 27) (by decide), offF h0 (i := 28) (by decide), offF h0 (i := 29) (by decide), offF h0 (i := 30) (by decide), offF h0 (i := 31) (by decide), offF h0 (i := 32) (by decide), offF h0 (i := 33) (by decide)⟩
  case hst =>
    show FactSteps _ _ _ _ [0, 1, 2, 3, 4, 5, 6, 7, 8, 9, 10, 11, 12, 13, 14, 15, 16, 17, 18, 19, 20, 21, 22, 23, 24, 25, 26, 27, 28, 29, 30, 31, 32, 33]
    refine @FactSteps.cons _ _ _ _ 0 _ [] _ rfl (by kernel_rfl) ?s0 ?_
    rotate_left
    refine @FactSteps.cons _ _ _ _ 1 _ [0] _ rfl (by kernel_rfl) ?s1 ?_
    rotate_left
    refine @FactSteps.cons _ _ _ _ 2 _ [1] _ rfl (by kernel_rfl) ?s2 ?_
    rotate_left
    refine @FactSteps.cons _ _ _ _ 3 _ [2] _ rfl (by kernel_rfl) ?s3 ?_
    rotate_left
    refine @FactSteps.cons _ _ _ _ 4 _ [3, 2] _ rfl (by kernel_rfl) ?s4 ?_
    rotate_left
    refine @FactSteps.cons _ _ _ _ 5 _ [2, 4] _ rfl (by kernel_rfl) ?s5 ?_
    rotate_left
    refine @FactSteps.cons _ _ _ _ 6 _ [5, 2] _ rfl (by kernel_rfl) ?s6 ?_
    rotate_left
    refine @FactSteps.cons _ _ _ _ 7 _ [6] _ rfl (by kernel_rfl) ?s7 ?_
    rotate_left
    refine @FactSteps.cons _ _ _ _ 8 _ [7, 6] _ rfl (by kernel_rfl) ?s8 ?_
    rotate_left
    refine @FactSteps.cons _ _ _ _ 9 _ [8, 6, 6] _ rfl (by kernel_rfl) ?s9 ?_
    rotate_left
    refine @FactSteps.cons _ _ _ _ 10 _ [9, 6] _ rfl (by kernel_rfl) ?s10 ?_
    rotate_left
    refine @FactSteps.cons _ _ _ _ 11 _ [6, 10] _ rfl (by kernel_rfl) ?s11 ?_
    rotate_left
    refine @FactSteps.cons _ _ _ _ 12 _ [11, 9] _ rfl (by kernel_rfl) ?s12 ?_
    rotate_left
    refine @FactSteps.cons _ _ _ _ 13 _ [12] _ rfl (by kernel_rfl) ?s13 ?_
    rotate_left
    refine @FactSteps.cons _ _ _ _ 14 _ [13, 12] _ rfl (by kernel_rfl) ?s14 ?_
    rotate_left
    refine @FactSteps.cons _ _ _ _ 15 _ [14, 12] _ rfl (by kernel_rfl) ?s15 ?_
    rotate_left
    refine @FactSteps.cons _ _ _ _ 16 _ [12] _ rfl (by kernel_rfl) ?s16 ?_
    rotate_left
    refine @FactSteps.cons _ _ _ _ 17 _ [15, 16, 12] _ rfl (by kernel_rfl) ?s17 ?_
    rotate_left
    refine @FactSteps.cons _ _ _ _ 18 _ [12, 17] _ rfl (by kernel_rfl) ?s18 ?_
    rotate_left
    refine @FactSteps.cons _ _ _ _ 19 _ [18, 12] _ rfl (by kernel_rfl) ?s19 ?_
    rotate_left
    refine @FactSteps.cons _ _ _ _ 20 _ [19] _ rfl (by kernel_rfl) ?s20 ?_
    rotate_left
    refine @FactSteps.cons _ _ _ _ 21 _ [20, 19] _ rfl (by kernel_rfl) ?s21 ?_
    rotate_left
    refine @FactSteps.cons _ _ _ _ 22 _ [19, 21] _ rfl (by kernel_rfl) ?s22 ?_
    rotate_left
    refine @FactSteps.cons _ _ _ _ 23 _ [22, 19] _ rfl (by kernel_rfl) ?s23 ?_
    rotate_left
    refine @FactSteps.cons _ _ _ _ 24 _ [23] _ rfl (by kernel_rfl) ?s24 ?_
    rotate_left
    refine @FactSteps.cons _ _ _ _ 25 _ [24, 23] _ rfl (by kernel_rfl) ?s25 ?_
    rotate_left
    refine @FactSteps.cons _ _ _ _ 26 _ [23, 25] _ rfl (by kernel_rfl) ?s26 ?_
    rotate_left
    refine @FactSteps.cons _ _ _ _ 27 _ [26, 23] _ rfl (by kernel_rfl) ?s27 ?_
    rotate_left
    refine @FactSteps.cons _ _ _ _ 28 _ [27] _ rfl (by kernel_rfl) ?s28 ?_
    rotate_left
    refine @FactSteps.cons _ _ _ _ 29 _ [28, 27, 27] _ rfl (by kernel_rfl) ?s29 ?_
    rotate_left
    refine @FactSteps.cons _ _ _ _ 30 _ [27] _ rfl (by kernel_rfl) ?s30 ?_
    rotate_left
    refine @FactSteps.cons _ _ _ _ 31 _ [30, 29, 27] _ rfl (by kernel_rfl) ?s31 ?_
    rotate_left
    refine @FactSteps.cons _ _ _ _ 32 _ [29, 31, 31, 27] _ rfl (by kernel_rfl) ?s32 ?_
    rotate_left
    refine @FactSteps.cons _ _ _ _ 33 _ [27, 32] _ rfl (by kernel_rfl) ?s33 ?_
    rotate_left
    exact FactSteps.nil
    case s0 =>
      rintro L a v w hv hg hL hd hcl ⟨e3, e7, e2, e4, e6, e8, hb, f0, f1, f2, f3, f4, f5, f6, f7, f8, f9, f10, f11, f12, f13, f14, f15, f16, f17, f18, f19, f20, f21, f22, f23, f24, f25, f26, f27, f28, f29, f30, f31, f32, f33⟩ K hK
      refine step_do rfl ?_
      clear hv
      go_simp
      exact hK.out _ _ ⟨e3, e7, e2, e4, e6, e8, hb, fun _ => rfl, f1, f2, f3, f4, f5, f6, f7, f8, f9, f10, f11, f12, f13, f14, f15, f16, f17, f18, f19, f20, f21, f22, f23, f24, f25, f26, f27, f28, f29, f30, f31, f32, f33⟩
    case s1 =>
      rintro L a v w hv hg hL hd hcl ⟨e3, e7, e2, e4, e6, e8, hb, f0, f1, f2, f3, f4, f5, f6, f7, f8, f9, f10, f11, f12, f13, f14, f15, f16, f17, f18, f19, f20, f21, f22, f23, f24, f25, f26, f27, f28, f29, f30, f31, f32, f33⟩ K hK
      have g0 := f0 (hd 0 (by decide))
      refine step_do rfl ?_
      clear hv
      go_simp
      exact hK.out _ _ ⟨e3, e7, e2, e4, e6, e8, hb, f0, fun _ => rfl, f2, f3, f4, f5, f6, f7, f8, f9, f10, f11, f12, f13, f14, f15, f16, f17, f18, f19, f20, f21, f22, f23, f24, f25, f26, f27, f28, f29, f30, f31, f32, f33⟩
    case s2 =>
      rintro L a v w hv hg hL hd hcl ⟨e3, e7, e2, e4, e6, e8, hb, f0, f1, f2, f3, f4, f5, f6, f7, f8, f9, f10, f11, f12, f13, f14, f15, f16, f17, f18, f19, f20, f21, f22, f23, f24, f25, f26, f27, f28, f29, f30, f31, f32, f33⟩ K hK
      have g1 := f1 (hd 1 (by decide))
      refine step_do rfl ?_
      clear hv
      go_simp
      exact hK.out _ _ ⟨e3, e7, e2, e4, e6, e8, hb, f0, f1, fun _ => rfl, f3, f4, f5, f6, f7, f8, f9, f10, f11, f12, f13, f14, f15, f16, f17, f18, f19, f20, f21, f22, f23, f24, f25, f26, f27, f28, f29, f30, f31, f32, f33⟩
    case s3 =>
      rintro L a v w hv hg hL hd hcl ⟨e3, e7, e2, e4, e6, e8, hb, f0, f1, f2, f3, f4, f5, f6, f7, f8, f9, f10, f11, f12, f13, f14, f15, f16, f17, f18, f19, f20, f21, f22, f23, f24, f25, f26, f27, f28, f29, f30, f31, f32, f33⟩ K hK
      have g2 := f2 (hd 2 (by decide))
      refine step_want (j := 2) (s := 31) (b := true) rfl rfl ((hv 31).trans (f2 (hd 2 (by decide)))) ?_
      clear hv
      go_simp
      exact hK.out _ _ ⟨e3, e7, e2, e4, e6, e8, hb, f0, f1, f2, fun _ => rfl, f4, f5, f6, f7, f8, f9, f10, f11, f12, f13, f14, f15, f16, f17, f18, f19, f20, f21, f22, f23, f24, f25, f26, f27, f28, f29, f30, f31, f32, f33⟩
    case s4 =>
      rintro L a v w hv hg hL hd hcl ⟨e3, e7, e2, e4, e6, e8, hb, f0, f1, f2, f3, f4, f5, f6, f7, f8, f9, f10, f11, f12, f13, f14, f15, f16, f17, f18, f19, f20, f21, f22, f23, f24, f25, f26, f27, f28, f29, f30, f31, f32, f33⟩ K hK
      have g2 := f2 (hd 2 (by decide))
      have g3 := f3 (hd 3 (by decide))
      refine step_want (j := 2) (s := 31) (b := true) rfl rfl ((hv 31).trans (f2 (hd 2 (by decide)))) ?_
      clear hv
      go_simp
      exact hK.out _ _ ⟨e3, e7, e2, e4, e6, e8, hb, f0, f1, f2, f3, fun _ => rfl, f5, f6, f7, f8, f9, f10, f11, f12, f13, f14, f15, f16, f17, f18, f19, f20, f21, f22, f23, f24, f25, f26, f27, f28, f29, f30, f31, f32, f33⟩
    case s5 =>
      rintro L a v w hv hg hL hd hcl ⟨e3, e7, e2, e4, e6, e8, hb, f0, f1, f2, f3, f4, f5, f6, f7, f8, f9, f10, f11, f12, f13, f14, f15, f16, f17, f18, f19, f20, f21, f22, f23, f24, f25, f26, f27, f28, f29, f30, f31, f32, f33⟩ K hK
      have g2 := f2 (hd 2 (by decide))
      have g4 := f4 (hd 4 (by decide))
      refine step_do rfl ?_
      clear hv
      go_simp
      exact hK.out _ _ ⟨e3, e7, e2, e4, e6, e8, hb, f0, f1, f2, f3, f4, fun _ => rfl, f6, f7, f8, f9, f10, f11, f12, f13, f14, f15, f16, f17, f18, f19, f20, f21, f22, f23, f24, f25, f26, f27, f28, f29, f30, f31, f32, f33⟩
    case s6 =>
      rintro L a v w hv hg hL hd hcl ⟨e3, e7, e2, e4, e6, e8, hb, f0, f1, f2, f3, f4, f5, f6, f7, f8, f9, f10, f11, f12, f13, f14, f15, f16, f17, f18, f19, f20, f21, f22, f23, f24, f25, f26, f27, f28, f29, f30, f31, f32, f33⟩ K hK
      have g2 := f2 (hd 2 (by decide))
      have g5 := f5 (hd 5 (by decide))
      refine step_do rfl ?_
      clear hv
      go_simp
      exact hK.out _ _ ⟨e3, e7, e2, e4, e6, e8, hb, f0, f1, f2, f3, f4, f5, fun _ => rfl, f7, f8, f9, f10, f11, f12, f13, f14, f15, f16, f17, f18, f19, f20, f21, f22, f23, f24, f25, f26, f27, f28, f29, f30, f31, f32, f33⟩
    case s7 =>
      rintro L a v w hv hg hL hd hcl ⟨e3, e7, e2, e4, e6, e8, hb, f0, f1, f2, f3, f4, f5, f6, f7, f8, f9, f10, f11, f12, f13, f14, f15, f16, f17, f18, f19, f20, f21, f22, f23, f24, f25, f26, f27, f28, f29, f30, f31, f32, f33⟩ K hK
      have g6 := f6 (hd 6 (by decide))
      refine step_want (j := 6) (s := 35) (b := true) rfl rfl ((hv 35).trans (f6 (hd 6 (by decide)))) ?_
      clear hv
      go_simp
      exact hK.out _ _ ⟨e3, e7, e2, e4, e6, e8, hb, f0, f1, f2, f3, f4, f5, f6, fun _ => rfl, f8, f9, f10, f11, f12, f13, f14, f15, f16, f17, f18, f19, f20, f21, f22, f23, f24, f25, f26, f27, f28, f29, f30, f31, f32, f33⟩
    case s8 =>
      rintro L a v w hv hg hL hd hcl ⟨e3, e7, e2, e4, e6, e8, hb, f0, f1, f2, f3, f4, f5, f6, f7, f8, f9, f10, f11, f12, f13, f14, f15, f16, f17, f18, f19, f20, f21, f22, f23, f24, f25, f26, f27, f28, f29, f30, f31, f32, f33⟩ K hK
      have g6 := f6 (hd 6 (by decide))
      have g7 := f7 (hd 7 (by decide))
      refine step_want (j := 6) (s := 35) (b := true) rfl rfl ((hv 35).trans (f6 (hd 6 (by decide)))) ?_
      refine wp_ldr rowT (.tmp 36) rfl ((hv 36).trans g7) ((kB2.below hb kB2.lt).tal exBs) rfl ?_
      exact hK.out _ _ ⟨e3, e7, e2, e4, e6, e8, hb, f0, f1, f2, f3, f4, f5, f6, f7, fun _ => rfl, f9, f10, f11, f12, f13, f14, f15, f16, f17, f18, f19, f20, f21, f22, f23, f24, f25, f26, f27, f28, f29, f30, f31, f32, f33⟩
    case s9 =>
      rintro L a v w hv hg hL hd hcl ⟨e3, e7, e2, e4, e6, e8, hb, f0, f1, f2, f3, f4, f5, f6, f7, f8, f9, f10, f11, f12, f13, f14, f15, f16, f17, f18, f19, f20, f21, f22, f23, f24, f25, f26, f27, f28, f29, f30, f31, f32, f33⟩ K hK
      have h8 := f8 (hd 8 (by decide))
      refine step_want (j := 6) (s := 35) (b := true) rfl rfl ((hv 35).trans (f6 (hd 6 (by decide)))) ?_
      clear hv
      go_simp
      refine (value_any exBB.t w rfl).mono ?_
      rintro e wy ⟨rfl, bb⟩
      rw [exB_val]
      exact hK.out _ _ ⟨e3, e7, e2, e4, e6, e8, (hb.trans (bb.mono hb.size)), f0, f1, f2, f3, f4, f5, f6, f7, f8, fun _ => rfl, f10, f11, f12, f13, f14, f15, f16, f17, f18, f19, f20, f21, f22, f23, f24, f25, f26, f27, f28, (fun h => (f29 h).below bb), f30, (fun h => (f31 h).below bb), f32, f33⟩
    case s10 =>
      rintro L a v w hv hg hL hd hcl ⟨e3, e7, e2, e4, e6, e8, hb, f0, f1, f2, f3, f4, f5, f6, f7, f8, f9, f10, f11, f12, f13, f14, f15, f16, f17, f18, f19, f20, f21, f22, f23, f24, f25, f26, f27, f28, f29, f30, f31, f32, f33⟩ K hK
      have g6 := f6 (hd 6 (by decide))
      refine step_want (j := 6) (s := 35) (b := true) rfl rfl ((hv 35).trans (f6 (hd 6 (by decide)))) ?_
      clear hv
      go_simp
      exact hK.out _ _ ⟨e3, e7, e2, e4, e6, e8, hb, f0, f1, f2, f3, f4, f5, f6, f7, f8, f9, fun _ => rfl, f11, f12, f13, f14, f15, f16, f17, f18, f19, f20, f21, f22, f23, f24, f25, f26, f27, f28, f29, f30, f31, f32, f33⟩
    case s11 =>
      rintro L a v w hv hg hL hd hcl ⟨e3, e7, e2, e4, e6, e8, hb, f0, f1, f2, f3, f4, f5, f6, f7, f8, f9, f10, f11, f12, f13, f14, f15, f16, f17, f18, f19, f20, f21, f22, f23, f24, f25, f26, f27, f28, f29, f30, f31, f32, f33⟩ K hK
      have g6 := f6 (hd 6 (by decide))
      have g10 := f10 (hd 10 (by decide))
      refine step_do rfl ?_
      clear hv
      go_simp
      exact hK.out _ _ ⟨e3, e7, e2, e4, e6, e8, hb, f0, f1, f2, f3, f4, f5, f6, f7, f8, f9, f10, fun _ => rfl, f12, f13, f14, f15, f16, f17, f18, f19, f20, f21, f22, f23, f24, f25, f26, f27, f28, f29, f30, f31, f32, f33⟩
    case s12 =>
      rintro L a v w hv hg hL hd hcl ⟨e3, e7, e2, e4, e6, e8, hb, f0, f1, f2, f3, f4, f5, f6, f7, f8, f9, f10, f11, f12, f13, f14, f15, f16, f17, f18, f19, f20, f21, f22, f23, f24, f25, f26, f27, f28, f29, f30, f31, f32, f33⟩ K hK
      have g11 := f11 (hd 11 (by decide))
      refine step_do rfl ?_
      clear hv
      go_simp
      exact hK.out _ _ ⟨e3, e7, e2, e4, e6, e8, hb, f0, f1, f2, f3, f4, f5, f6, f7, f8, f9, f10, f11, fun _ => rfl, f13, f14, f15, f16, f17, f18, f19, f20, f21, f22, f23, f24, f25, f26, f27, f28, f29, f30, f31, f32, f33⟩
    case s13 =>
      rintro L a v w hv hg hL hd hcl ⟨e3, e7, e2, e4, e6, e8, hb, f0, f1, f2, f3, f4, f5, f6, f7, f8, f9, f10, f11, f12, f13, f14, f15, f16, f17, f18, f19, f20, f21, f22, f23, f24, f25, f26, f27, f28, f29, f30, f31, f32, f33⟩ K hK
      have g12 := f12 (hd 12 (by decide))
      refine step_want (j := 12) (s := 41) (b := true) rfl rfl ((hv 41).trans (f12 (hd 12 (by decide)))) ?_
      clear hv
      go_simp
      exact hK.out _ _ ⟨e3, e7, e2, e4, e6, e8, hb, f0, f1, f2, f3, f4, f5, f6, f7, f8, f9, f10, f11, f12, fun _ => rfl, f14, f15, f16, f17, f18, f19, f20, f21, f22, f23, f24, f25, f26, f27, f28, f29, f30, f31, f32, f33⟩
    case s14 =>
      rintro L a v w hv hg hL hd hcl ⟨e3, e7, e2, e4, e6, e8, hb, f0, f1, f2, f3, f4, f5, f6, f7, f8, f9, f10, f11, f12, f13, f14, f15, f16, f17, f18, f19, f20, f21, f22, f23, f24, f25, f26, f27, f28, f29, f30, f31, f32, f33⟩ K hK
      have g12 := f12 (hd 12 (by decide))
      have g13 := f13 (hd 13 (by decide))
      refine step_want (j := 12) (s := 41) (b := true) rfl rfl ((hv 41).trans (f12 (hd 12 (by decide)))) ?_
      clear hv
      go_simp
      exact hK.out _ _ ⟨e3, e7, e2, e4, e6, e8, hb, f0, f1, f2, f3, f4, f5, f6, f7, f8, f9, f10, f11, f12, f13, fun _ => rfl, f15, f16, f17, f18, f19, f20, f21, f22, f23, f24, f25, f26, f27, f28, f29, f30, f31, f32, f33⟩
    case s15 =>
      rintro L a v w hv hg hL hd hcl ⟨e3, e7, e2, e4, e6, e8, hb, f0, f1, f2, f3, f4, f5, f6, f7, f8, f9, f10, f11, f12, f13, f14, f15, f16, f17, f18, f19, f20, f21, f22, f23, f24, f25, f26, f27, f28, f29, f30, f31, f32, f33⟩ K hK
      have g12 := f12 (hd 12 (by decide))
      have g14 := f14 (hd 14 (by decide))
      refine step_want (j := 12) (s := 41) (b := true) rfl rfl ((hv 41).trans (f12 (hd 12 (by decide)))) ?_
      refine wp_ldr rowLa (.tmp 43) rfl ((hv 43).trans g14) ((kB2.below hb kB2.lt).plan exBs (i := 2) (by decide) : w.rangeAt gB 22 (#[.int .i64 2, .int .i64 3, .int .i64 6] : Array Value).toList) rfl ?_
      exact hK.out _ _ ⟨e3, e7, e2, e4, e6, e8, hb, f0, f1, f2, f3, f4, f5, f6, f7, f8, f9, f10, f11, f12, f13, f14, fun _ => rfl, f16, f17, f18, f19, f20, f21, f22, f23, f24, f25, f26, f27, f28, f29, f30, f31, f32, f33⟩
    case s16 =>
      rintro L a v w hv hg hL hd hcl ⟨e3, e7, e2, e4, e6, e8, hb, f0, f1, f2, f3, f4, f5, f6, f7, f8, f9, f10, f11, f12, f13, f14, f15, f16, f17, f18, f19, f20, f21, f22, f23, f24, f25, f26, f27, f28, f29, f30, f31, f32, f33⟩ K hK
      have g12 := f12 (hd 12 (by decide))
      refine step_want (j := 12) (s := 41) (b := true) rfl rfl ((hv 41).trans (f12 (hd 12 (by decide)))) ?_
      clear hv
      go_simp
      exact hK.out _ _ ⟨e3, e7, e2, e4, e6, e8, hb, f0, f1, f2, f3, f4, f5, f6, f7, f8, f9, f10, f11, f12, f13, f14, f15, fun _ => rfl, f17, f18, f19, f20, f21, f22, f23, f24, f25, f26, f27, f28, f29, f30, f31, f32, f33⟩
    case s17 =>
      rintro L a v w hv hg hL hd hcl ⟨e3, e7, e2, e4, e6, e8, hb, f0, f1, f2, f3, f4, f5, f6, f7, f8, f9, f10, f11, f12, f13, f14, f15, f16, f17, f18, f19, f20, f21, f22, f23, f24, f25, f26, f27, f28, f29, f30, f31, f32, f33⟩ K hK
      have g12 := f12 (hd 12 (by decide))
      have g15 := f15 (hd 15 (by decide))
      have g16 := f16 (hd 16 (by decide))
      refine step_want (j := 12) (s := 41) (b := true) rfl rfl ((hv 41).trans (f12 (hd 12 (by decide)))) ?_
      clear hv
      go_simp
      exact hK.out _ _ ⟨e3, e7, e2, e4, e6, e8, hb, f0, f1, f2, f3, f4, f5, f6, f7, f8, f9, f10, f11, f12, f13, f14, f15, f16, fun _ => rfl, f18, f19, f20, f21, f22, f23, f24, f25, f26, f27, f28, f29, f30, f31, f32, f33⟩
    case s18 =>
      rintro L a v w hv hg hL hd hcl ⟨e3, e7, e2, e4, e6, e8, hb, f0, f1, f2, f3, f4, f5, f6, f7, f8, f9, f10, f11, f12, f13, f14, f15, f16, f17, f18, f19, f20, f21, f22, f23, f24, f25, f26, f27, f28, f29, f30, f31, f32, f33⟩ K hK
      have g12 := f12 (hd 12 (by decide))
      have g17 := f17 (hd 17 (by decide))
      refine step_do rfl ?_
      clear hv
      go_simp
      exact hK.out _ _ ⟨e3, e7, e2, e4, e6, e8, hb, f0, f1, f2, f3, f4, f5, f6, f7, f8, f9, f10, f11, f12, f13, f14, f15, f16, f17, fun _ => rfl, f19, f20, f21, f22, f23, f24, f25, f26, f27, f28, f29, f30, f31, f32, f33⟩
    case s19 =>
      rintro L a v w hv hg hL hd hcl ⟨e3, e7, e2, e4, e6, e8, hb, f0, f1, f2, f3, f4, f5, f6, f7, f8, f9, f10, f11, f12, f13, f14, f15, f16, f17, f18, f19, f20, f21, f22, f23, f24, f25, f26, f27, f28, f29, f30, f31, f32, f33⟩ K hK
      have g12 := f12 (hd 12 (by decide))
      have g18 := f18 (hd 18 (by decide))
      refine step_do rfl ?_
      clear hv
      go_simp
      exact hK.out _ _ ⟨e3, e7, e2, e4, e6, e8, hb, f0, f1, f2, f3, f4, f5, f6, f7, f8, f9, f10, f11, f12, f13, f14, f15, f16, f17, f18, fun _ => rfl, f20, f21, f22, f23, f24, f25, f26, f27, f28, f29, f30, f31, f32, f33⟩
    case s20 =>
      rintro L a v w hv hg hL hd hcl ⟨e3, e7, e2, e4, e6, e8, hb, f0, f1, f2, f3, f4, f5, f6, f7, f8, f9, f10, f11, f12, f13, f14, f15, f16, f17, f18, f19, f20, f21, f22, f23, f24, f25, f26, f27, f28, f29, f30, f31, f32, f33⟩ K hK
      have g19 := f19 (hd 19 (by decide))
      refine step_want (j := 19) (s := 48) (b := true) rfl rfl ((hv 48).trans (f19 (hd 19 (by decide)))) ?_
      clear hv
      go_simp
      exact hK.out _ _ ⟨e3, e7, e2, e4, e6, e8, hb, f0, f1, f2, f3, f4, f5, f6, f7, f8, f9, f10, f11, f12, f13, f14, f15, f16, f17, f18, f19, fun _ => rfl, f21, f22, f23, f24, f25, f26, f27, f28, f29, f30, f31, f32, f33⟩
    case s21 =>
      rintro L a v w hv hg hL hd hcl ⟨e3, e7, e2, e4, e6, e8, hb, f0, f1, f2, f3, f4, f5, f6, f7, f8, f9, f10, f11, f12, f13, f14, f15, f16, f17, f18, f19, f20, f21, f22, f23, f24, f25, f26, f27, f28, f29, f30, f31, f32, f33⟩ K hK
      have g19 := f19 (hd 19 (by decide))
      have g20 := f20 (hd 20 (by decide))
      refine step_want (j := 19) (s := 48) (b := true) rfl rfl ((hv 48).trans (f19 (hd 19 (by decide)))) ?_
      clear hv
      go_simp
      exact hK.out _ _ ⟨e3, e7, e2, e4, e6, e8, hb, f0, f1, f2, f3, f4, f5, f6, f7, f8, f9, f10, f11, f12, f13, f14, f15, f16, f17, f18, f19, f20, fun _ => rfl, f22, f23, f24, f25, f26, f27, f28, f29, f30, f31, f32, f33⟩
    case s22 =>
      rintro L a v w hv hg hL hd hcl ⟨e3, e7, e2, e4, e6, e8, hb, f0, f1, f2, f3, f4, f5, f6, f7, f8, f9, f10, f11, f12, f13, f14, f15, f16, f17, f18, f19, f20, f21, f22, f23, f24, f25, f26, f27, f28, f29, f30, f31, f32, f33⟩ K hK
      have g19 := f19 (hd 19 (by decide))
      have g21 := f21 (hd 21 (by decide))
      refine step_do rfl ?_
      clear hv
      go_simp
      exact hK.out _ _ ⟨e3, e7, e2, e4, e6, e8, hb, f0, f1, f2, f3, f4, f5, f6, f7, f8, f9, f10, f11, f12, f13, f14, f15, f16, f17, f18, f19, f20, f21, fun _ => rfl, f23, f24, f25, f26, f27, f28, f29, f30, f31, f32, f33⟩
    case s23 =>
      rintro L a v w hv hg hL hd hcl ⟨e3, e7, e2, e4, e6, e8, hb, f0, f1, f2, f3, f4, f5, f6, f7, f8, f9, f10, f11, f12, f13, f14, f15, f16, f17, f18, f19, f20, f21, f22, f23, f24, f25, f26, f27, f28, f29, f30, f31, f32, f33⟩ K hK
      have g19 := f19 (hd 19 (by decide))
      have g22 := f22 (hd 22 (by decide))
      refine step_do rfl ?_
      clear hv
      go_simp
      exact hK.out _ _ ⟨e3, e7, e2, e4, e6, e8, hb, f0, f1, f2, f3, f4, f5, f6, f7, f8, f9, f10, f11, f12, f13, f14, f15, f16, f17, f18, f19, f20, f21, f22, fun _ => rfl, f24, f25, f26, f27, f28, f29, f30, f31, f32, f33⟩
    case s24 =>
      rintro L a v w hv hg hL hd hcl ⟨e3, e7, e2, e4, e6, e8, hb, f0, f1, f2, f3, f4, f5, f6, f7, f8, f9, f10, f11, f12, f13, f14, f15, f16, f17, f18, f19, f20, f21, f22, f23, f24, f25, f26, f27, f28, f29, f30, f31, f32, f33⟩ K hK
      have g23 := f23 (hd 23 (by decide))
      refine step_want (j := 23) (s := 52) (b := true) rfl rfl ((hv 52).trans (f23 (hd 23 (by decide)))) ?_
      clear hv
      go_simp
      exact hK.out _ _ ⟨e3, e7, e2, e4, e6, e8, hb, f0, f1, f2, f3, f4, f5, f6, f7, f8, f9, f10, f11, f12, f13, f14, f15, f16, f17, f18, f19, f20, f21, f22, f23, fun _ => rfl, f25, f26, f27, f28, f29, f30, f31, f32, f33⟩
    case s25 =>
      rintro L a v w hv hg hL hd hcl ⟨e3, e7, e2, e4, e6, e8, hb, f0, f1, f2, f3, f4, f5, f6, f7, f8, f9, f10, f11, f12, f13, f14, f15, f16, f17, f18, f19, f20, f21, f22, f23, f24, f25, f26, f27, f28, f29, f30, f31, f32, f33⟩ K hK
      have g23 := f23 (hd 23 (by decide))
      have g24 := f24 (hd 24 (by decide))
      refine step_want (j := 23) (s := 52) (b := true) rfl rfl ((hv 52).trans (f23 (hd 23 (by decide)))) ?_
      clear hv
      go_simp
      exact hK.out _ _ ⟨e3, e7, e2, e4, e6, e8, hb, f0, f1, f2, f3, f4, f5, f6, f7, f8, f9, f10, f11, f12, f13, f14, f15, f16, f17, f18, f19, f20, f21, f22, f23, f24, fun _ => rfl, f26, f27, f28, f29, f30, f31, f32, f33⟩
    case s26 =>
      rintro L a v w hv hg hL hd hcl ⟨e3, e7, e2, e4, e6, e8, hb, f0, f1, f2, f3, f4, f5, f6, f7, f8, f9, f10, f11, f12, f13, f14, f15, f16, f17, f18, f19, f20, f21, f22, f23, f24, f25, f26, f27, f28, f29, f30, f31, f32, f33⟩ K hK
      have g23 := f23 (hd 23 (by decide))
      have g25 := f25 (hd 25 (by decide))
      refine step_do rfl ?_
      clear hv
      go_simp
      exact hK.out _ _ ⟨e3, e7, e2, e4, e6, e8, hb, f0, f1, f2, f3, f4, f5, f6, f7, f8, f9, f10, f11, f12, f13, f14, f15, f16, f17, f18, f19, f20, f21, f22, f23, f24, f25, fun _ => rfl, f27, f28, f29, f30, f31, f32, f33⟩
    case s27 =>
      rintro L a v w hv hg hL hd hcl ⟨e3, e7, e2, e4, e6, e8, hb, f0, f1, f2, f3, f4, f5, f6, f7, f8, f9, f10, f11, f12, f13, f14, f15, f16, f17, f18, f19, f20, f21, f22, f23, f24, f25, f26, f27, f28, f29, f30, f31, f32, f33⟩ K hK
      have g23 := f23 (hd 23 (by decide))
      have g26 := f26 (hd 26 (by decide))
      refine step_do rfl ?_
      clear hv
      go_simp
      exact hK.out _ _ ⟨e3, e7, e2, e4, e6, e8, hb, f0, f1, f2, f3, f4, f5, f6, f7, f8, f9, f10, f11, f12, f13, f14, f15, f16, f17, f18, f19, f20, f21, f22, f23, f24, f25, f26, fun _ => rfl, f28, f29, f30, f31, f32, f33⟩
    case s28 =>
      rintro L a v w hv hg hL hd hcl ⟨e3, e7, e2, e4, e6, e8, hb, f0, f1, f2, f3, f4, f5, f6, f7, f8, f9, f10, f11, f12, f13, f14, f15, f16, f17, f18, f19, f20, f21, f22, f23, f24, f25, f26, f27, f28, f29, f30, f31, f32, f33⟩ K hK
      refine step_want (j := 27) (s := 56) (b := true) rfl rfl ((hv 56).trans (f27 (hd 27 (by decide)))) ?_
      refine wp_ld rowBo (.tmp 3) rfl ((hv 3).trans e3) (kB.below hb kB.lt) N49.out ?_
      exact hK.out _ _ ⟨e3, e7, e2, e4, e6, e8, hb, f0, f1, f2, f3, f4, f5, f6, f7, f8, f9, f10, f11, f12, f13, f14, f15, f16, f17, f18, f19, f20, f21, f22, f23, f24, f25, f26, f27, fun _ => rfl, f29, f30, f31, f32, f33⟩
    case s29 =>
      rintro L a v w hv hg hL hd hcl ⟨e3, e7, e2, e4, e6, e8, hb, f0, f1, f2, f3, f4, f5, f6, f7, f8, f9, f10, f11, f12, f13, f14, f15, f16, f17, f18, f19, f20, f21, f22, f23, f24, f25, f26, f27, f28, f29, f30, f31, f32, f33⟩ K hK
      have h28 := f28 (hd 28 (by decide))
      refine step_want (j := 27) (s := 56) (b := true) rfl rfl ((hv 56).trans (f27 (hd 27 (by decide)))) ?_
      clear hv
      go_simp
      refine (boFrom_any exBB exBs _ w (hQ.below hb)).mono ?_
      rintro e wy ⟨q, rfl, hq, bb⟩
      exact hK.out _ _ ⟨e3, e7, e2, e4, e6, e8, (hb.trans (bb.mono hb.size)), f0, f1, f2, f3, f4, f5, f6, f7, f8, f9, f10, f11, f12, f13, f14, f15, f16, f17, f18, f19, f20, f21, f22, f23, f24, f25, f26, f27, f28, fun _ => hq, f30, (fun h => (f31 h).below bb), f32, f33⟩
    case s30 =>
      rintro L a v w hv hg hL hd hcl ⟨e3, e7, e2, e4, e6, e8, hb, f0, f1, f2, f3, f4, f5, f6, f7, f8, f9, f10, f11, f12, f13, f14, f15, f16, f17, f18, f19, f20, f21, f22, f23, f24, f25, f26, f27, f28, f29, f30, f31, f32, f33⟩ K hK
      refine step_want (j := 27) (s := 56) (b := true) rfl rfl ((hv 56).trans (f27 (hd 27 (by decide)))) ?_
      refine wp_ld rowBo (.tmp 7) rfl ((hv 7).trans e7) (kC.below hb kC.lt) C49.out ?_
      exact hK.out _ _ ⟨e3, e7, e2, e4, e6, e8, hb, f0, f1, f2, f3, f4, f5, f6, f7, f8, f9, f10, f11, f12, f13, f14, f15, f16, f17, f18, f19, f20, f21, f22, f23, f24, f25, f26, f27, f28, f29, fun _ => rfl, f31, f32, f33⟩
    case s31 =>
      rintro L a v w hv hg hL hd hcl ⟨e3, e7, e2, e4, e6, e8, hb, f0, f1, f2, f3, f4, f5, f6, f7, f8, f9, f10, f11, f12, f13, f14, f15, f16, f17, f18, f19, f20, f21, f22, f23, f24, f25, f26, f27, f28, f29, f30, f31, f32, f33⟩ K hK
      have h30 := f30 (hd 30 (by decide))
      refine step_want (j := 27) (s := 56) (b := true) rfl rfl ((hv 56).trans (f27 (hd 27 (by decide)))) ?_
      clear hv
      go_simp
      refine (boFrom_any exBB exBs _ w (hQC.below hb)).mono ?_
      rintro e wy ⟨q, rfl, hq, bb⟩
      exact hK.out _ _ ⟨e3, e7, e2, e4, e6, e8, (hb.trans (bb.mono hb.size)), f0, f1, f2, f3, f4, f5, f6, f7, f8, f9, f10, f11, f12, f13, f14, f15, f16, f17, f18, f19, f20, f21, f22, f23, f24, f25, f26, f27, f28, (fun h => (f29 h).below bb), f30, fun _ => hq, f32, f33⟩
    case s32 =>
      rintro L a v w hv hg hL hd hcl ⟨e3, e7, e2, e4, e6, e8, hb, f0, f1, f2, f3, f4, f5, f6, f7, f8, f9, f10, f11, f12, f13, f14, f15, f16, f17, f18, f19, f20, f21, f22, f23, f24, f25, f26, f27, f28, f29, f30, f31, f32, f33⟩ K hK
      have h29 := f29 (hd 29 (by decide))
      have h31 := f31 (hd 31 (by decide))
      refine step_want (j := 27) (s := 56) (b := true) rfl rfl ((hv 56).trans (f27 (hd 27 (by decide)))) ?_
      clear hv
      go_simp
      refine (bsame_any exBB exBB exBs exBs exBw exBw _ _ w h29.fresh h31.fresh).mono ?_
      rintro e wy ⟨rfl, bb⟩
      rw [exB_same]
      exact hK.out _ _ ⟨e3, e7, e2, e4, e6, e8, (hb.trans (bb.mono hb.size)), f0, f1, f2, f3, f4, f5, f6, f7, f8, f9, f10, f11, f12, f13, f14, f15, f16, f17, f18, f19, f20, f21, f22, f23, f24, f25, f26, f27, f28, (fun h => (f29 h).below bb), f30, (fun h => (f31 h).below bb), fun _ => rfl, f33⟩
    case s33 =>
      rintro L a v w hv hg hL hd hcl ⟨e3, e7, e2, e4, e6, e8, hb, f0, f1, f2, f3, f4, f5, f6, f7, f8, f9, f10, f11, f12, f13, f14, f15, f16, f17, f18, f19, f20, f21, f22, f23, f24, f25, f26, f27, f28, f29, f30, f31, f32, f33⟩ K hK
      have g27 := f27 (hd 27 (by decide))
      refine step_do rfl ?_
      clear hv
      go_simp
      exact hK.out _ _ ⟨e3, e7, e2, e4, e6, e8, hb, f0, f1, f2, f3, f4, f5, f6, f7, f8, f9, f10, f11, f12, f13, f14, f15, f16, f17, f18, f19, f20, f21, f22, f23, f24, f25, f26, f27, f28, f29, f30, f31, f32, fun _ => rfl⟩
  case hend =>
  rintro L v wx hall ⟨e3, e7, e2, e4, e6, e8, hb, f0, f1, f2, f3, f4, f5, f6, f7, f8, f9, f10, f11, f12, f13, f14, f15, f16, f17, f18, f19, f20, f21, f22, f23, f24, f25, f26, f27, f28, f29, f30, f31, f32, f33⟩
  have hL : ∀ i, i < 34 → L i = true := hall
  have f0 := f0 (hL 0 (by decide))
  have f1 := f1 (hL 1 (by decide))
  have f2 := f2 (hL 2 (by decide))
  have f3 := f3 (hL 3 (by decide))
  have f4 := f4 (hL 4 (by decide))
  have f5 := f5 (hL 5 (by decide))
  have f6 := f6 (hL 6 (by decide))
  have f7 := f7 (hL 7 (by decide))
  have f8 := f8 (hL 8 (by decide))
  have f9 := f9 (hL 9 (by decide))
  have f10 := f10 (hL 10 (by decide))
  have f11 := f11 (hL 11 (by decide))
  have f12 := f12 (hL 12 (by decide))
  have f13 := f13 (hL 13 (by decide))
  have f14 := f14 (hL 14 (by decide))
  have f15 := f15 (hL 15 (by decide))
  have f16 := f16 (hL 16 (by decide))
  have f17 := f17 (hL 17 (by decide))
  have f18 := f18 (hL 18 (by decide))
  have f19 := f19 (hL 19 (by decide))
  have f20 := f20 (hL 20 (by decide))
  have f21 := f21 (hL 21 (by decide))
  have f22 := f22 (hL 22 (by decide))
  have f23 := f23 (hL 23 (by decide))
  have f24 := f24 (hL 24 (by decide))
  have f25 := f25 (hL 25 (by decide))
  have f26 := f26 (hL 26 (by decide))
  have f27 := f27 (hL 27 (by decide))
  have f28 := f28 (hL 28 (by decide))
  have f29 := f29 (hL 29 (by decide))
  have f30 := f30 (hL 30 (by decide))
  have f31 := f31 (hL 31 (by decide))
  have f32 := f32 (hL 32 (by decide))
  have f33 := f33 (hL 33 (by decide))
  simp only [finA, List.foldl_cons, List.foldl_nil, Act.put, List.setIfInBounds_toArray, List.set_cons_succ, List.set_cons_zero, f0, f1, f2, f3, f4, f5, f6, f7, f8, f10, f11, f12, f13, f14, f15, f16, f17, f18, f19, f20, f21, f22, f23, f24, f25, f26, f27, f28, f30, f33, f9, f32]
  have bb := hb
  have gb := gb.trans (bb.mono gb.size)
  clear e3 e7 e2 e4 e6 e8 f0 f1 f2 f3 f4 f5 f6 f7 f8 f9 f10 f11 f12 f13 f14 f15 f16 f17 f18 f19 f20 f21 f22 f23 f24 f25 f26 f27 f28 f29 f30 f31 f32 f33 hL hall hb bb
  show wpList _ _ _ [_] _ _
  go_wp2_with fail
  go_ret
  exact ⟨rfl, gb⟩
end Go.Proofs.Ytocoohpekpkmkaa

/- The walk of the document's Put of tallies. -/
namespace Go.Proofs.Ytocoohpekpkmkaa
set_option linter.unusedVariables false
set_option linter.unusedSimpArgs false
set_option maxRecDepth 100000
open Go.RowKit
open Tally
theorem nums_put (l : List Int) (k a b : Nat) (hx : l.getD k 0 = a) (hy : l.getD (8 + k) 0 = b) (h : 0 < a + b) : encs (numsL l (k + 1)) = ((encs (numsL l k) ++ Vint.enc (k + 1)) ++ Vint.enc a) ++ Vint.enc b := by
  show encs (numsL l k ++ (if 0 < l.getD k 0 + l.getD (8 + k) 0 then [(k : Int) + 1, l.getD k 0, l.getD (8 + k) 0] else [])) = _
  rw [hx, hy, if_pos (by omega)]
  unfold encs
  rw [List.flatMap_append]
  simp only [List.flatMap_cons, List.flatMap_nil, List.append_nil, List.append_assoc]
  rfl
theorem nums_skip (l : List Int) (k a b : Nat) (hx : l.getD k 0 = a) (hy : l.getD (8 + k) 0 = b) (h : ¬ 0 < a + b) : encs (numsL l (k + 1)) = encs (numsL l k) := by
  show encs (numsL l k ++ (if 0 < l.getD k 0 + l.getD (8 + k) 0 then [(k : Int) + 1, l.getD k 0, l.getD (8 + k) 0] else [])) = _
  rw [hx, hy, if_neg (by omega), List.append_nil]
set_option maxHeartbeats 800000 in
theorem rtput_any (l : List Int) (w : World) (hl : l.length = 16) (hr : rightB l = true) :
    Calls Try.prog 103 #[.agg (tc l)] w (GiveBE w (encs (numsL l 8 ++ [0])) 0) := by
  have HS := Lib.hid (show (tc l).size = 16 by rw [tc_size, hl])
  have HL := Lib.hid hl
  have HR := Lib.hid hr
  clear hl hr
  have k0 : Blk (w.alloc (.cells (tc l) 73)) w.heap.size 73 (tc l) := Blk.new w _ _
  have hb : Below w.heap.size w (w.alloc (.cells (tc l) 73)) := (Below.refl _ _).alloc (Nat.le_refl _) _
  go_enter Try.func103, Try.ntmps103
  go_upto_region 1 with fail
  refine nameW ?_
  intro wv hwv
  rw [← hwv] at k0 hb
  obtain ⟨g, hg⟩ : ∃ g, g = w.heap.size := ⟨_, rfl⟩
  rw [← hg] at k0 ⊢
  clear hwv hg
  go_wp2_with ((with_reducible refine wpList_ld rowRT k0 HS.out ?_ ?_); rotate_left; (rfl))
  refine (rright_any l wv HL.out).mono ?_
  rw [HR.out]
  rintro e w1 ⟨rfl, h1⟩
  have k1 := k0.below h1 k0.lt
  have b1 := hb.trans (h1.mono hb.size)
  clear k0 hb h1
  go_wp2_with fail
  go_loopw [4, 5] (fun s i wr => ∃ (k : Nat) (A : Option Addr) (n c : Nat), k ≤ 8 ∧ i = .int .i64 (k : Nat) ∧ s = .slice A n c ∧ OwnB wr w.heap.size A n c (encs (numsL l k)) ∧ Blk wr g 73 (tc l) ∧ Below w.heap.size w wr) (fun _ i _ => 8 - (intOf i).toNat)
  case atStart => exact ⟨0, none, 0, 0, by omega, rfl, rfl, OwnB.nil _ _, k1, b1⟩
  case round =>
    clear k1 b1
    obtain ⟨k, A, n, c, hk, rfl, rfl, ho, k1, b1⟩ := hrel
    have hnl := nums_len l k
    have hel := encs_len (numsL l k)
    have hnn : n ≤ 500 := by rw [ho.1]; omega
    clear hnl hel
    by_cases hlt : k < 8
    · have c1 := k1.tcell (i := k) (by rw [HL.out]; omega)
      have c2 := k1.tcell (i := 8 + k) (by rw [HL.out]; omega)
      have r1 := right_at HR.out k
      have r2 := right_at HR.out (8 + k)
      unfold top at r1 r2
      obtain ⟨a, hx⟩ : ∃ a : Nat, l.getD k 0 = a := ⟨(l.getD k 0).toNat, by omega⟩
      obtain ⟨b, hy⟩ : ∃ b : Nat, l.getD (8 + k) 0 = b := ⟨(l.getD (8 + k) 0).toNat, by omega⟩
      have HP := Lib.hid (nums_put l k a b hx hy)
      have HSK := Lib.hid (nums_skip l k a b hx hy)
      have HX := Lib.hid hx
      have HY := Lib.hid hy
      rw [hx] at c1 r1
      rw [hy] at c2 r2
      clear hx hy
      have ha := r1.2
      have hb' := r2.2
      have HA := Lib.hid (show a ≤ 1099511627776 by omega)
      have HB := Lib.hid (show b ≤ 1099511627776 by omega)
      clear r1 r2 ha hb'
      have hk0 : (0 : Int) ≤ (k : Int) := by omega
      have hk1 : (k : Int) < 8 := by omega
      have ew : IntKind.i64.wrap ((k : Int) + 1) = ((k + 1 : Nat) : Int) := by rw [IntWalk.i64_in _ (by omega)]; rfl
      have C1 := Lib.hid fun (w' : World) (h : Blk w' g 73 (tc l)) => (show w'.cell? ⟨g, k, none⟩ = some (.int .i64 (a : Nat)) by have := h.tcell (i := k) (by rw [HL.out]; omega); rw [HX.out] at this; exact this)
      have C2 := Lib.hid fun (w' : World) (h : Blk w' g 73 (tc l)) => (show w'.cell? ⟨g, 8 + k, none⟩ = some (.int .i64 (b : Nat)) by have := h.tcell (i := 8 + k) (by rw [HL.out]; omega); rw [HY.out] at this; exact this)
      by_cases hp : 0 < a + b
      · have hor : 0 < a ∨ (a = 0 ∧ 0 < b) := by omega
        have HPP := Lib.hid (HP.out hp)
        clear hp HP HSK
        rcases hor with d1 | ⟨rfl, d2⟩
        · go_wp2_with fail
          refine (rput_ok A n c (encs (numsL l k)) (k + 1) wr.heap.size wr ho.rd (Nat.le_refl _) (by omega) (by omega)).mono ?_
          rintro e w2 ⟨A2, n2, c2', rfl, o2, bb⟩
          have k1 := k1.below bb k1.lt
          have b2 := b1.trans (bb.mono b1.size)
          have l2 : n2 ≤ 506 := by have h := o2.1; have h2 := ho.1; have := Vint.enc_length (k + 1); rw [List.length_append] at h; omega
          have o2 := o2.mono b1.size
          have c1 := C1.out _ k1
          obtain ⟨P2, hP2⟩ : ∃ P2, P2 = encs (numsL l k) ++ Vint.enc (k + 1) := ⟨_, rfl⟩
          rw [← hP2] at o2
          have HP2 := Lib.hid hP2
          clear ho bb b1 hP2
          go_wp2_with fail
          refine (rput_ok A2 n2 c2' P2 a w2.heap.size w2 o2.rd (Nat.le_refl _) (Nat.le_trans l2 (Nat.le_of_ble_eq_true rfl)) HA.out).mono ?_
          rintro e w3 ⟨A3, n3, c3, rfl, o3, bb⟩
          have k1 := k1.below bb k1.lt
          have b3 := b2.trans (bb.mono b2.size)
          have l3 : n3 ≤ 512 := by have h := o3.1; have h2 := o2.1; have := Vint.enc_length a; rw [List.length_append] at h; omega
          have o3 := o3.mono b2.size
          have c2 := C2.out _ k1
          obtain ⟨P3, hP3⟩ : ∃ P3, P3 = P2 ++ Vint.enc a := ⟨_, rfl⟩
          rw [← hP3] at o3
          have HP3 := Lib.hid hP3
          clear o2 bb b2 c1 hP3
          go_wp2_with fail
          refine (rput_ok A3 n3 c3 P3 b w3.heap.size w3 o3.rd (Nat.le_refl _) (Nat.le_trans l3 (Nat.le_of_ble_eq_true rfl)) HB.out).mono ?_
          rintro e w4 ⟨A4, n4, c4, rfl, o4, bb⟩
          have k1 := k1.below bb k1.lt
          have b4 := b3.trans (bb.mono b3.size)
          have o4 := o4.mono b3.size
          rw [HP3.out, HP2.out, ← HPP.out] at o4
          have HO := Lib.hid o4
          clear o3 o4 bb b3 c2
          go_wp2_with fail
          go_roundw
          case rel => exact ⟨k + 1, A4, n4, c4, by omega, by go_num, rfl, HO.out, k1, b4⟩
          case measure => simp [intOf]; omega
        · go_wp2_with fail
          refine (rput_ok A n c (encs (numsL l k)) (k + 1) wr.heap.size wr ho.rd (Nat.le_refl _) (by omega) (by omega)).mono ?_
          rintro e w2 ⟨A2, n2, c2', rfl, o2, bb⟩
          have k1 := k1.below bb k1.lt
          have b2 := b1.trans (bb.mono b1.size)
          have l2 : n2 ≤ 506 := by have h := o2.1; have h2 := ho.1; have := Vint.enc_length (k + 1); rw [List.length_append] at h; omega
          have o2 := o2.mono b1.size
          have c1 := C1.out _ k1
          obtain ⟨P2, hP2⟩ : ∃ P2, P2 = encs (numsL l k) ++ Vint.enc (k + 1) := ⟨_, rfl⟩
          rw [← hP2] at o2
          have HP2 := Lib.hid hP2
          clear ho bb b1 hP2 d2
          go_wp2_with fail
          refine (rput_ok A2 n2 c2' P2 0 w2.heap.size w2 o2.rd (Nat.le_refl _) (Nat.le_trans l2 (Nat.le_of_ble_eq_true rfl)) HA.out).mono ?_
          rintro e w3 ⟨A3, n3, c3, rfl, o3, bb⟩
          have k1 := k1.below bb k1.lt
          have b3 := b2.trans (bb.mono b2.size)
          have l3 : n3 ≤ 512 := by have h := o3.1; have h2 := o2.1; have := Vint.enc_length 0; rw [List.length_append] at h; omega
          have o3 := o3.mono b2.size
          have c2 := C2.out _ k1
          obtain ⟨P3, hP3⟩ : ∃ P3, P3 = P2 ++ Vint.enc 0 := ⟨_, rfl⟩
          rw [← hP3] at o3
          have HP3 := Lib.hid hP3
          clear o2 bb b2 c1 hP3
          go_wp2_with fail
          refine (rput_ok A3 n3 c3 P3 b w3.heap.size w3 o3.rd (Nat.le_refl _) (Nat.le_trans l3 (Nat.le_of_ble_eq_true rfl)) HB.out).mono ?_
          rintro e w4 ⟨A4, n4, c4, rfl, o4, bb⟩
          have k1 := k1.below bb k1.lt
          have b4 := b3.trans (bb.mono b3.size)
          have o4 := o4.mono b3.size
          rw [HP3.out, HP2.out, ← HPP.out] at o4
          have HO := Lib.hid o4
          clear o3 o4 bb b3 c2
          go_wp2_with fail
          go_roundw
          case rel => exact ⟨k + 1, A4, n4, c4, by omega, by go_num, rfl, HO.out, k1, b4⟩
          case measure => simp [intOf]; omega
      · obtain ⟨rfl, rfl⟩ : a = 0 ∧ b = 0 := by omega
        go_wp2_with fail
        go_roundw
        case rel => exact ⟨k + 1, A, n, c, by omega, by go_num, rfl, by rw [HSK.out hp]; exact ho, k1, b1⟩
        case measure => simp [intOf]; omega
    · obtain rfl : k = 8 := by omega
      have hb2 := b1.alloc b1.size (.cells #[.int .u8 0] 5)
      have HE := Lib.hid (show encs (numsL l 8 ++ [0]) = encs (numsL l 8) ++ [0] by unfold encs; rw [List.flatMap_append]; rfl)
      clear k1
      go_wp2_with (at_builtin; refine wpList_appB rfl (.tmp 50) (.tmp 51) rfl (by rfl) (ho.alloc _) (by rfl) (RdB.made wr [0] _ _ _ rfl) (by simp; omega) hb2.size ?_)
      intro A2 c2 w2 ho2 _ _ hb3
      have b3 := hb2.trans hb3
      have HO := Lib.hid ho2
      clear ho ho2 hb2 hb3 b1
      go_wp2_with fail
      go_ret2
      exact ⟨A2, _, c2, rfl, by rw [HE.out]; exact HO.out, b3⟩
end Go.Proofs.Ytocoohpekpkmkaa

/- The walk of the document's body of boards. -/
namespace Go.Proofs.Ytocoohpekpkmkaa
set_option linter.unusedVariables false
set_option linter.unusedSimpArgs false
set_option maxRecDepth 100000
open Go.RowKit
open Reg (La Vl)
set_option maxHeartbeats 4000000 in
theorem brbody_any (b : Bd) (hs : Bo.Shaped b) (hright : Bo.rightB b = true) (q : Value) (w : World) (hq : FrBo b q w) : Calls Try.prog 61 #[q] w fun e w' => ∃ A n c, e = .returned (.slice A n c) ∧ OwnB w' w.heap.size A n c (bodyL b) ∧ Below w.heap.size w w' := by
  obtain ⟨A, m, c, rfl, hr, hm⟩ := hq
  have HRV := Lib.hid fun (w' : World) (hb : Below w.heap.size w w') => hr.below hb
  have HM := Lib.hid (show m = b.l.length from hr.1)
  have HS := Lib.hid hs
  have HR := Lib.hid hright
  have h49 := Lib.hid (bc_size (s := .slice A m c) hs)
  have HL8 := Lib.hid (right_len (Reg.right_facts ((Bo.right_iff b).1 hright).2.2.2))
  clear hr hm hs hright
  go_enter Try.func61, Try.ntmps61
  go_upto_region 1 with fail
  refine nameW ?_
  intro wv hwv
  obtain ⟨g, hg⟩ : ∃ g, g = w.heap.size := ⟨_, rfl⟩
  rw [← hg]
  have k0 : Blk wv g 76 (bc b (.slice A m c)) := by rw [hwv, hg]; exact Blk.new w _ _
  have gb : Below w.heap.size w wv := by rw [hwv]; exact (Below.refl _ _).alloc (Nat.le_refl _) _
  have HG := Lib.hid hg
  clear hwv hg
  have S16 := Lib.hid (show (tc b.t).size = 16 by rw [tc_size, HS.out.t])
  have S24 := Lib.hid (plA_size HS.out.p)
  go_wp2_with ((with_reducible refine wpList_ldr rowRT (k0.tal HS.out) S16.out ?_ ?_); rotate_left; (rfl))
  refine (rtput_any b.t wv HS.out.t ((Bo.right_iff b).1 HR.out).2.2.1).mono ?_
  rintro e w1 ⟨Ab, nb, cb, rfl, ob, b1⟩
  have ob := ob.mono gb.size
  have k0 := k0.below b1 k0.lt
  have gb := gb.trans (b1.mono gb.size)
  clear b1
  have hpl : w1.rangeAt g 16 (plA b.p).toList := k0.plans HS.out
  go_wp2_with ((with_reducible refine wpList_ldr rowRPl hpl S24.out ?_ ?_); rotate_left; (rfl))
  go_loopw [5, 22] (fun s i wr => ∃ (k : Nat) (A : Option Addr) (n c : Nat), k ≤ 8 ∧ i = .int .i64 k ∧ s = .slice A n c ∧ OwnI wr w1.heap.size A n c (Bo.plansN b.p k) ∧ Below w1.heap.size w1 wr) (fun _ i _ => 8 - (intOf i).toNat)
  case atStart => exact ⟨0, none, 0, 0, by omega, rfl, rfl, OwnI.nil _ _, Below.refl _ _⟩
  case round =>
    obtain ⟨k, A1, n1, c1, hk, rfl, rfl, ho, bl⟩ := hrel
    by_cases hlt : k < 8
    · have hix := fun w' => run_indexRP w' b.p HS.out.p k hlt
      have hst := plansN_succ b.p k
      have hnl := Bo.plans_len b.p k
      have hn1 : n1 ≤ 32 := by rw [ho.1]; omega
      have hps : ∃ q, q = b.p.getD k (0, 0, 0) := ⟨_, rfl⟩
      obtain ⟨q, hq⟩ := hps
      have hqb : Bo.planB q = true := by
        have hm : q ∈ b.p := by rw [hq, List.getD_eq_getElem?_getD, List.getElem?_eq_getElem (by rw [HS.out.p]; exact hlt)]; exact List.getElem_mem _
        exact ((Bo.right_iff b).1 HR.out).1 q hm
      have hqs := (Bo.planB_iff q).1 hqb
      rw [← hq] at hix hst
      obtain ⟨x, y, z⟩ := q
      simp only at hst hqs
      unfold v3 at hix
      simp only at hix
      have HIX := Lib.hid hix
      have HST := Lib.hid hst
      have HO := Lib.hid ho
      have hk0 : (0 : Int) ≤ (k : Int) := by omega
      have hk1 : (k : Int) < 8 := by omega
      have ew : IntKind.i64.wrap ((k : Int) + 1) = (k : Int) + 1 := IntWalk.i64_in _ (by omega)
      clear hix hst hnl hq hqb ho
      go_upto_region 6 with first
        | ((with_reducible refine wpList_ix (HIX.out _) ?_ ?_ ?_); rotate_left; (rfl); (rfl))
        | ((with_reducible refine wpList_st (cs := #[.int .i64 x, .int .i64 y, .int .i64 z]) rowRLa (Blk.new _ _ _) (th_size _ _ _) ?_ (th_one _ _ _) ?_ ?_ ?_); (rfl); rotate_left; (rfl); (rfl); intro w3 kq g3 z3)
      have bq : Below wr.heap.size wr w3 := new_below g3
      have HO3 := Lib.hid (HO.out.below bq (Nat.le_refl _))
      have b3 := bl.trans (bq.mono bl.size)
      have q0 := kq.cell 0
      have q1 := kq.cell 1
      have q2 := kq.cell 2
      clear g3 z3 bq HIX bl
      by_cases hz : x = 0 ∧ y = 0 ∧ z = 0
      · obtain ⟨rfl, rfl, rfl⟩ := hz
        go_wp2_with ((with_reducible refine wpList_ld rowRLa kq (th_size _ _ _) ?_ ?_); rotate_left; (rfl))
        go_roundw
        case rel => exact ⟨k + 1, A1, n1, c1, by omega, by go_num, rfl, by rw [HST.out, if_pos rfl, List.append_nil]; exact HO3.out, b3⟩
        case measure => simp [intOf]; omega
      · have hzz : ¬ ((x, y, z) : La) = (0, 0, 0) := fun h => hz (by injection h with h1 h2; injection h2 with h2 h3; exact ⟨h1, h2, h3⟩)
        have hxyz : (1 ≤ x ∧ x ≤ 1099511627776) ∧ (0 ≤ y ∧ y ≤ 7) ∧ 0 ≤ z ∧ z ≤ 1000 := by
          rcases hqs with h | h
          · exact absurd h hzz
          · exact h
        have HZZ := Lib.hid hzz
        have hx0 : ¬ x = 0 := by omega
        clear hz hzz hqs
        go_wp2_with first
          | ((with_reducible refine wpList_ld rowRLa kq (th_size _ _ _) ?_ ?_); rotate_left; (rfl))
          | (at_builtin; refine stop ?_)
        unfold Stop
        have ba := b3.alloc b3.size (.cells #[.int .i64 ((k : Int) + 1), .int .i64 x, .int .i64 y, .int .i64 z] 3)
        refine wpList_appI rfl (.tmp 29) (.tmp 38) rfl (by rfl) (HO3.out.alloc _) (by rfl) (RdI.made w3 [(k : Int) + 1, x, y, z] _ _ _ rfl) (by simp; omega) ba.size ?_
        intro A2 c2 w4 ho4 _ _ b4
        have HO4 := Lib.hid ho4
        have b5 := ba.trans b4
        clear ho4 b4 ba b3
        go_wp2_with fail
        go_roundw
        case rel => exact ⟨k + 1, A2, _, c2, by omega, by go_num, rfl, by rw [HST.out, if_neg HZZ.out]; exact HO4.out, b5⟩
        case measure => simp [intOf]; omega
    · obtain rfl : k = 8 := by omega
      have HO := Lib.hid ho
      have hpn := Bo.plans_len b.p 8
      have hn1 : n1 ≤ 32 := by rw [ho.1]; omega
      clear hpn ho
      obtain ⟨PL, hPL⟩ : ∃ PL, PL = Bo.plansN b.p 8 := ⟨_, rfl⟩
      rw [← hPL] at HO
      have HPL := Lib.hid hPL
      clear hPL hk hlt hpl
      have ba := bl.alloc bl.size (.cells #[.int .i64 0] 3)
      go_upto_region 10 with (at_builtin; refine wpList_appI rfl (.tmp 41) (.tmp 42) rfl (by rfl) (HO.out.alloc _) (by rfl) (RdI.made _ [0] _ _ _ rfl) (by simp; omega) ba.size ?_; intro A2 c2 w4 ho2 _ _ b4)
      have hbz := ba.trans b4
      have kw := k0.below hbz k0.lt
      have HO2 := Lib.hid ho2
      have S8 := Lib.hid (show (b.u.map (Value.int .i64)).toArray.size = 8 by simp [HS.out.u])
      have hun : w4.rangeAt g 40 (b.u.map (Value.int .i64)).toArray.toList := fun j v hv => by
        have hj : j < 8 := by
          have := (List.getElem?_eq_some_iff.1 hv).1
          simpa [HS.out.u] using this
        have := (kw.notes HS.out) j v
        rw [this]
        unfold uc
        rw [List.getElem?_append_left (by simp [HS.out.u]; exact hj)]
        exact hv
      clear ho2 ba b4 bl
      go_wp2_with ((with_reducible refine wpList_ldr row8 hun S8.out ?_ ?_); rotate_left; (rfl))
      go_loopw [5, 47] (fun s i wr => ∃ (k : Nat) (A' : Option Addr) (n c' : Nat), k ≤ 8 ∧ i = .int .i64 k ∧ s = .slice A' n c' ∧ OwnI wr w1.heap.size A' n c' (PL ++ [0] ++ b.u.take k) ∧ Below w1.heap.size w1 wr) (fun _ i _ => 8 - (intOf i).toNat)
      case atStart => exact ⟨0, A2, _, c2, by omega, rfl, rfl, by simpa using HO2.out, hbz⟩
      case round =>
      clear HO2 hun kw hbz
      obtain ⟨k, A3, n3, c3, hk, rfl, rfl, ho3, hb5⟩ := hrel
      have hpll : PL.length = n1 := HO.out.1.symm
      have hn3 : n3 = n1 + 1 + k := by
        rw [ho3.1, List.length_append, List.length_append, List.length_take, HS.out.u, hpll, Nat.min_eq_left hk]
        rfl
      have HN3 := Lib.hid hn3
      have hn4 : n3 ≤ 41 := by omega
      clear hn3 hpll
      by_cases hlt : k < 8
      · have hix := fun w' => run_index8 w' b.u HS.out.u k hlt
        have hsn : b.u.take (k + 1) = b.u.take k ++ [b.u.getD k 0] := by
          rw [take_snoc b.u (by rw [HS.out.u]; exact hlt), List.getD_eq_getElem?_getD, List.getElem?_eq_getElem (by rw [HS.out.u]; exact hlt)]
          rfl
        generalize b.u.getD k 0 = z at *
        have HIX := Lib.hid hix
        have HSN := Lib.hid hsn
        have HO3 := Lib.hid ho3
        have hk0 : (0 : Int) ≤ (k : Int) := by omega
        have hk1 : (k : Int) < 8 := by omega
        clear hix hsn ho3
        have ba := hb5.alloc hb5.size (.cells #[.int .i64 z] 3)
        go_wp2_with first
          | ((with_reducible refine wpList_ix (HIX.out _) ?_ ?_ ?_); rotate_left; (rfl); (rfl))
          | (at_builtin; refine wpList_appI rfl (.tmp 50) (.tmp 52) rfl (by rfl) (HO3.out.alloc _) (by rfl) (RdI.made _ [z] _ _ _ rfl) (by simp; omega) ba.size ?_; intro A4 c4 w5 ho4 _ _ b4)
        have b5 := ba.trans b4
        have HO4 := Lib.hid ho4
        clear ho4 ba b4 hb5 HO3
        go_wp2_with fail
        go_roundw
        case rel => exact ⟨k + 1, A4, _, c4, by omega, by go_num, rfl, by rw [HSN.out, ← List.append_assoc]; exact HO4.out, b5⟩
        case measure => simp [intOf]; omega
      obtain rfl : k = 8 := by omega
      have hu8 : b.u.take 8 = b.u := List.take_of_length_le (by rw [HS.out.u]; exact Nat.le_refl _)
      rw [hu8] at ho3
      have h38 : n3 = n1 + 1 + 8 := HN3.out
      subst h38
      clear hu8 HN3 hn4 hlt hk
      obtain ⟨w5, rfl⟩ : ∃ w5, w5 = wr := ⟨_, rfl⟩
      have k5 := k0.below hb5 k0.lt
      have HO3 := Lib.hid ho3
      clear ho3
      have c48 : w5.cell? ⟨g, 48, none⟩ = some (.slice A m c) := (k5.cell 48).trans (bc_last HS.out)
      have hm8 : m ≤ 8 := by rw [HM.out]; exact HL8.out
      have HM8 := Lib.hid hm8
      clear hm8
      go_upto_region 16 with (at_builtin; refine wpList_appI rfl (.tmp 55) (.tmp 60) rfl (by rfl) (HO3.out.alloc _) (by rfl) (RdI.made _ [(m : Int)] _ _ _ rfl) (by simp; omega) (hb5.alloc hb5.size _).size ?_; intro A4 c4 w6 ho4 _ _ b6)
      have hb6 := (hb5.alloc hb5.size (.cells #[.int .i64 (m : Int)] 3)).trans b6
      have k6 := k0.below hb6 k0.lt
      have c48 : w6.cell? ⟨g, 48, none⟩ = some (.slice A m c) := (k6.cell 48).trans (bc_last HS.out)
      have HO4 := Lib.hid ho4
      clear ho4 b6 k5 hb5 HO3
      go_wp2_with fail
      obtain ⟨Z, hZ⟩ : ∃ Z, Z = PL ++ [0] ++ b.u ++ [(m : Int)] := ⟨_, rfl⟩
      obtain ⟨nz, hnz⟩ : ∃ nz, nz = n1 + 1 + 8 + [(m : Int)].length := ⟨_, rfl⟩
      have hnz2 : nz ≤ 42 := by rw [hnz]; simp; omega
      have HNZ := Lib.hid (show nz = n1 + 1 + 8 + 1 from hnz)
      rw [← hZ, ← hnz] at HO4
      have HZ := Lib.hid hZ
      have hzl : nz = Z.length := HO4.out.1
      have HZL := Lib.hid hzl
      clear hZ hnz c48 hzl hn1 HO
      go_loopw [5, 66] (fun s i wr => ∃ (k : Nat) (A' : Option Addr) (n c' : Nat), k ≤ m ∧ i = .int .i64 k ∧ s = .slice A' n c' ∧ OwnI wr w1.heap.size A' n c' (Z ++ Bo.valsN (b.l.take k)) ∧ Below w1.heap.size w1 wr) (fun _ i _ => m - (intOf i).toNat)
      case atStart => exact ⟨0, A4, n1 + 1 + 8 + 1, c4, by omega, rfl, rfl, by rw [← HNZ.out]; simpa [Bo.valsN] using HO4.out, hb6⟩
      case round =>
        obtain ⟨k, A5, n5, c5, hk, rfl, rfl, ho, bk⟩ := hrel
        have hn5 : n5 = nz + 3 * k := by
          rw [ho.1, HZL.out, List.length_append, Bo.vals_len, List.length_take, Nat.min_eq_left (by rw [← HM.out]; exact hk)]
        have hm8 := HM8.out
        have hn9 : n5 ≤ 70 := by omega
        clear hn5
        by_cases hlt : k < m
        · have hkl : k < b.l.length := by rw [← HM.out]; exact hlt
          obtain ⟨ad, hA, q5, q0, q1, q2⟩ := (HRV.out _ (gb.trans (bk.mono gb.size))).2 k _ (List.getElem?_eq_getElem hkl)
          have hst := valsN_snoc b.l hkl
          have hk0 : (0 : Int) ≤ (k : Int) := by omega
          have hkn : (k : Int) < (m : Int) := by omega
          have HO5 := Lib.hid ho
          generalize b.l[k] = d at *
          obtain ⟨x, y, z⟩ := d
          simp only at q0 q1 q2 hst
          subst hA
          have HST := Lib.hid hst
          clear hst ho
          go_upto_region 19 with ((with_reducible refine wpList_st (cs := #[.int .i64 x, .int .i64 y, .int .i64 z]) rowRV (Blk.new _ _ _) (th_size _ _ _) ?_ (th_one _ _ _) ?_ ?_ ?_); (rfl); rotate_left; (rfl); (rfl); intro w7 kq g7 z7)
          have bq : Below wr.heap.size wr w7 := new_below g7
          have HO6 := Lib.hid (HO5.out.below bq (Nat.le_refl _))
          have b7 := bk.trans (bq.mono bk.size)
          have c0 := kq.cell 0
          have c1' := kq.cell 1
          have c2 := kq.cell 2
          clear g7 z7 bq bk HO5 q5 q0 q1 q2
          go_wp2_with (at_builtin; refine stop ?_)
          unfold Stop
          have ba := b7.alloc b7.size (.cells #[.int .i64 x, .int .i64 y, .int .i64 z] 3)
          refine wpList_appI rfl (.tmp 70) (.tmp 77) rfl (by rfl) (HO6.out.alloc _) (by rfl) (RdI.made w7 [x, y, z] _ _ _ rfl) (by simp; omega) ba.size ?_
          intro A8 c8 w8 ho8 _ _ b8
          have HO8 := Lib.hid ho8
          have b9 := ba.trans b8
          clear ho8 b8 ba b7
          go_wp2_with fail
          go_roundw
          case rel => exact ⟨k + 1, A8, _, c8, by omega, by go_num, rfl, by rw [HST.out, ← List.append_assoc]; exact HO8.out, b9⟩
          case measure => simp [intOf]; omega
        · obtain rfl : k = m := by omega
          have hfull : b.l.take k = b.l := List.take_of_length_le (by rw [← HM.out]; omega)
          rw [hfull] at ho
          have hms : Bo.restN b = Z ++ Bo.valsN b.l := by rw [HZ.out, HPL.out, HM.out]; rfl
          rw [← hms] at ho
          have hall : ∀ x ∈ Bo.restN b, 0 ≤ x ∧ x ≤ 1099511627776 := Bo.rest_small HS.out HR.out
          have HALL := Lib.hid hall
          obtain ⟨ms, hmsd⟩ : ∃ ms, ms = Bo.restN b := ⟨_, rfl⟩
          rw [← hmsd] at ho HALL
          have HMS := Lib.hid hmsd
          have hnb1 : nb ≤ 162 := by
            rw [ob.1]
            have h1 := encs_len (Tally.numsL b.t 8 ++ [0])
            have h2 := Tally.nums_len b.t 8
            simp at h1
            omega
          have ob3 := ob.below bk (Nat.le_refl _)
          have HOB := Lib.hid ob3
          have hmle := ownsRow_le ho.2
          have ho2 := ho
          clear hall hms hmsd hfull ho ob ob3 hk hlt HO4 hm8
          go_wp2_with fail
          obtain ⟨w9, rfl⟩ : ∃ w9, w9 = wr := ⟨_, rfl⟩
          go_loopw [3, 82] (fun s i wq => ∃ (j : Nat) (A' : Option Addr) (nc cc : Nat), j ≤ n5 ∧ i = .int .i64 j ∧ s = .slice A' nc cc ∧ OwnB wq w.heap.size A' nc cc (encs (Tally.numsL b.t 8 ++ [0]) ++ encs (ms.take j)) ∧ Below w9.heap.size w9 wq) (fun _ i _ => n5 - (intOf i).toNat)
          case atStart => exact ⟨0, Ab, nb, cb, by omega, rfl, rfl, by simpa [encs] using HOB.out, Below.refl _ _⟩
          case round =>
            obtain ⟨j, A', nc, cc, hj, rfl, rfl, ob, bl2⟩ := hrel
            by_cases hjm : j < n5
            · have hjl : j < ms.length := by rw [← ho2.1]; exact hjm
              obtain ⟨ad, rfl, _, c1⟩ := (ho2.rd.below bl2).at_ hjl
              have hxb := HALL.out _ (List.getElem_mem hjl)
              have hes := encs_snoc ms hjl
              have HES := Lib.hid hes
              have hel := encs_len (ms.take j)
              have hnb : nc ≤ 600 := by
                have h1 := ob.1
                have h2 : (ms.take j).length ≤ j := List.length_take_le _ _
                have h3 := HOB.out.1
                rw [List.length_append] at h1
                omega
              clear hes hel
              generalize ms[j] = x at *
              obtain ⟨x, rfl⟩ := Int.eq_ofNat_of_zero_le hxb.1
              rw [Int.toNat_natCast] at HES
              have hj0 : (0 : Int) ≤ (j : Int) := by omega
              have hj1 : (j : Int) < (n5 : Int) := by omega
              go_wp2_with fail
              refine (rput_ok A' nc cc _ x _ _ ob.rd (Nat.le_refl _) (by omega) (by omega)).mono ?_
              rintro e w4 ⟨A4, n4, c4, rfl, o4, b4⟩
              have O4 : OwnB w4 w.heap.size A4 n4 c4 (encs (Tally.numsL b.t 8 ++ [0]) ++ encs (ms.take (j + 1))) := by rw [HES.out, ← List.append_assoc]; exact o4.mono (Nat.le_trans gb.size (Nat.le_trans bk.size bl2.size))
              have B4 := bl2.trans (b4.mono bl2.size)
              have HO := Lib.hid O4
              clear O4 o4 b4 ob bl2
              go_wp2_with fail
              go_roundw
              case rel => exact ⟨j + 1, A4, n4, c4, by omega, by go_num, rfl, HO.out, B4⟩
              case measure => simp [intOf]; omega
            · have hfull : ms.take j = ms := List.take_of_length_le (by rw [← ho2.1]; omega)
              have HFL := Lib.hid hfull
              clear hfull
              go_wp2_with fail
              go_ret
              refine ⟨A', nc, cc, rfl, ?_, gb.trans ((bk.trans (bl2.mono bk.size)).mono gb.size)⟩
              rw [HFL.out, HMS.out, ← encs_app] at ob
              exact ob
end Go.Proofs.Ytocoohpekpkmkaa

/- The walk of the document's Right of boards. -/
namespace Go.Proofs.Ytocoohpekpkmkaa
set_option linter.unusedVariables false
set_option linter.unusedSimpArgs false
set_option maxRecDepth 100000
open Go.RowKit
open Reg (La Vl)
theorem planB_cases (x y z : Int) : (Bo.planB (x, y, z) = true ∧ ((x = 0 ∧ y = 0 ∧ z = 0) ∨ (¬ x = 0 ∧ ¬ x < 1 ∧ ¬ 1099511627776 < x ∧ ¬ y < 0 ∧ ¬ 7 < y ∧ ¬ z < 0 ∧ ¬ 1000 < z))) ∨
    (Bo.planB (x, y, z) = false ∧ (¬ x = 0 ∨ (x = 0 ∧ ¬ y = 0) ∨ (x = 0 ∧ y = 0 ∧ ¬ z = 0)) ∧
      (x < 1 ∨ (¬ x < 1 ∧ 1099511627776 < x) ∨ (¬ x < 1 ∧ ¬ 1099511627776 < x ∧ y < 0) ∨ (¬ x < 1 ∧ ¬ 1099511627776 < x ∧ ¬ y < 0 ∧ 7 < y) ∨ (¬ x < 1 ∧ ¬ 1099511627776 < x ∧ ¬ y < 0 ∧ ¬ 7 < y ∧ z < 0) ∨ (¬ x < 1 ∧ ¬ 1099511627776 < x ∧ ¬ y < 0 ∧ ¬ 7 < y ∧ ¬ z < 0 ∧ 1000 < z))) := by
  cases h : Bo.planB (x, y, z) with
  | true =>
    refine .inl ⟨rfl, ?_⟩
    rcases (Bo.planB_iff _).1 h with e | e
    · injection e with e1 e2
      injection e2 with e2 e3
      exact .inl ⟨e1, e2, e3⟩
    · simp only at e
      exact .inr (by omega)
  | false =>
    refine .inr ⟨rfl, ?_⟩
    have hn : ¬ (((x, y, z) : La) = (0, 0, 0) ∨ ((1 ≤ x ∧ x ≤ 1099511627776) ∧ (0 ≤ y ∧ y ≤ 7) ∧ 0 ≤ z ∧ z ≤ 1000)) := fun e => by
      rw [(Bo.planB_iff (x, y, z)).2 e] at h
      cases h
    have h1 : ¬ (x = 0 ∧ y = 0 ∧ z = 0) := fun e => hn (.inl (by rw [e.1, e.2.1, e.2.2]))
    have h2 : ¬ ((1 ≤ x ∧ x ≤ 1099511627776) ∧ (0 ≤ y ∧ y ≤ 7) ∧ 0 ≤ z ∧ z ≤ 1000) := fun e => hn (.inr e)
    clear hn h
    constructor
    · omega
    · omega
theorem all_take_bad {α : Type} {f : α → Bool} {l : List α} {k : Nat} {x : α} (hx : l[k]? = some x) (hf : f x = false) : l.all f = false := by
  rw [List.all_eq_false]
  exact ⟨x, List.mem_of_getElem? hx, by simp [hf]⟩
theorem all_of_at {α : Type} {f : α → Bool} {l : List α} (h : ∀ (j : Nat) (x : α), l[j]? = some x → f x = true) : l.all f = true := by
  rw [List.all_eq_true]
  intro x hx
  obtain ⟨j, hj, e⟩ := List.getElem_of_mem hx
  exact h j x (by rw [List.getElem?_eq_getElem hj, e])
set_option maxHeartbeats 1600000 in
theorem brright_any (b : Bd) (hs : Bo.Shaped b) (q : Value) (w : World) (hq : FrBo b q w) : Calls Try.prog 44 #[q] w (GiveBo w (Bo.rightB b)) := by
  obtain ⟨A, m, c, rfl, hr, hm⟩ := hq
  obtain ⟨R, hR⟩ : ∃ R, R = Bo.rightB b := ⟨_, rfl⟩
  rw [← hR]
  have HR := Lib.hid hR
  have HS := Lib.hid hs
  have HRV := Lib.hid fun (w' : World) (hb : Below w.heap.size w w') => hr.below hb
  have HM := Lib.hid hm
  have HN := Lib.hid hr.1
  have S24 := Lib.hid (plA_size hs.p)
  have BADP := Lib.hid (fun (k : Nat) (q : La) (hk : b.p[k]? = some q) (h : Bo.planB q = false) => (show R = false by rw [hR]; unfold Bo.rightB; rw [all_take_bad hk h]; rfl))
  clear hR hr hm hs
  go_enter Try.func44, Try.ntmps44
  go_upto_region 1 with fail
  refine nameW ?_
  intro wv hwv
  obtain ⟨g, hg⟩ : ∃ g, g = w.heap.size := ⟨_, rfl⟩
  rw [← hg]
  have k0 : Blk wv g 76 (bc b (.slice A m c)) := by rw [hwv, hg]; exact Blk.new w _ _
  have gb : Below w.heap.size w wv := by rw [hwv]; exact (Below.refl _ _).alloc (Nat.le_refl _) _
  have HG := Lib.hid hg
  clear hwv hg
  have hpl : wv.rangeAt g 16 (plA b.p).toList := k0.plans HS.out
  go_wp2_with ((with_reducible refine wpList_ldr rowRPl hpl S24.out ?_ ?_); rotate_left; (rfl))
  go_loopw [9] (fun i wr => ∃ k : Nat, k ≤ 8 ∧ i = .int .i64 (k : Nat) ∧ (∀ j x, j < k → b.p[j]? = some x → Bo.planB x = true) ∧ Blk wr g 76 (bc b (.slice A m c)) ∧ Below w.heap.size w wr) (fun i _ => 8 - (intOf i).toNat)
  case atStart => exact ⟨0, by omega, rfl, fun j x h => by omega, k0, gb⟩
  case round =>
    clear k0 gb hpl
    obtain ⟨k, hk, rfl, hall, k0, gb⟩ := hrel
    have HALL := Lib.hid hall
    clear hall
    by_cases hlt : k < 8
    · have hix := fun w' => run_indexRP w' b.p HS.out.p k hlt
      have hk1 : (k : Int) < 8 := by omega
      obtain ⟨q, hq⟩ : ∃ q, q = b.p.getD k (0, 0, 0) := ⟨_, rfl⟩
      have hget : b.p[k]? = some q := by rw [hq, List.getD_eq_getElem?_getD, List.getElem?_eq_getElem (by rw [HS.out.p]; exact hlt)]; rfl
      rw [← hq] at hix
      obtain ⟨x, y, z⟩ := q
      unfold v3 at hix
      simp only at hix
      have HIX := Lib.hid hix
      have HGET := Lib.hid hget
      have hpc := planB_cases x y z
      clear hix hq hget
      go_upto_region 4 with first
        | ((with_reducible refine wpList_ix (HIX.out _) ?_ ?_ ?_); rotate_left; (rfl); (rfl))
        | ((with_reducible refine wpList_st (cs := #[.int .i64 x, .int .i64 y, .int .i64 z]) rowRLa (Blk.new _ _ _) (th_size _ _ _) ?_ (th_one _ _ _) ?_ ?_ ?_); (rfl); rotate_left; (rfl); (rfl); intro w3 kq g3 z3)
      have bq : Below wr.heap.size wr w3 := new_below g3
      have k0 := k0.below bq k0.lt
      have gb := gb.trans (bq.mono gb.size)
      have q0 := kq.cell 0
      have q1 := kq.cell 1
      have q2 := kq.cell 2
      clear g3 z3 bq HIX
      rcases hpc with ⟨hp, hc⟩ | ⟨hp, hc, hd⟩
      · have HP := Lib.hid hp
        clear hp
        rcases hc with ⟨rfl, rfl, rfl⟩ | ⟨hx, h1, h2, h3, h4, h5, h6⟩
        all_goals
          go_wp2_with ((with_reducible refine wpList_ld rowRLa kq (th_size _ _ _) ?_ ?_); rotate_left; (rfl))
          go_roundw
          case rel => exact ⟨k + 1, by omega, by go_num, fun j v hj hv => by
            by_cases e : j = k
            · subst e; rw [HGET.out] at hv; injection hv with hv; subst hv; exact HP.out
            · exact HALL.out j v (by omega) hv, k0, gb⟩
          case measure => simp [intOf]; omega
      · have hr0 := BADP.out k _ HGET.out hp
        clear hp
        subst hr0
        rcases hc with hx | ⟨rfl, hx⟩ | ⟨rfl, rfl, hx⟩
        all_goals
          rcases hd with h1 | ⟨h1, h2⟩ | ⟨h1, h2, h3⟩ | ⟨h1, h2, h3, h4⟩ | ⟨h1, h2, h3, h4, h5⟩ | ⟨h1, h2, h3, h4, h5, h6⟩
        all_goals
          first
            | (exfalso; omega)
            | (go_wp2_with ((with_reducible refine wpList_ld rowRLa kq (th_size _ _ _) ?_ ?_); rotate_left; (rfl))
               go_ret
               exact ⟨rfl, gb⟩)
    · obtain rfl : k = 8 := by omega
      have hP : b.p.all Bo.planB = true := all_of_at fun j x hj => HALL.out j x (by have := (List.getElem?_eq_some_iff.1 hj).1; rw [HS.out.p] at this; exact this) hj
      obtain ⟨r3, hr3⟩ : ∃ r3, r3 = Tally.rightB b.t := ⟨_, rfl⟩
      obtain ⟨r4, hr4⟩ : ∃ r4, r4 = Reg.rightM b.u b.l := ⟨_, rfl⟩
      have HRR := Lib.hid (show R = ((b.l.all fun v => decide (0 ≤ v.2.2)) && r3 && r4) by rw [HR.out, hr3, hr4]; unfold Bo.rightB; rw [hP]; rfl)
      have HC3 := Lib.hid fun (w' : World) => (hr3 ▸ rright_any b.t w' HS.out.t : Calls Try.prog _ _ w' fun e w'' => e = .returned (.bool r3) ∧ Below w'.heap.size w' w'')
      have HC4 := Lib.hid fun (w' : World) (hb : Below w.heap.size w w') => (hr4 ▸ rright29_any b.u HS.out.u A m c b.l w' (HRV.out w' hb).size HM.out : Calls Try.prog _ _ w' fun e w'' => e = .returned (.bool r4) ∧ Below w'.heap.size w' w'')
      have c48 : wr.cell? ⟨g, 48, none⟩ = some (.slice A m c) := (k0.cell 48).trans (bc_last HS.out)
      have HT := Lib.hid (show (tc b.t).size = 16 by rw [tc_size, HS.out.t])
      have HU := Lib.hid (uc_size HS.out.u (.slice A m c))
      clear hP hr3 hr4 hk hlt HALL HR BADP
      go_wp2_with fail
      go_loopw [50] (fun i wq => ∃ k : Nat, k ≤ m ∧ i = .int .i64 (k : Nat) ∧ (∀ j x, j < k → b.l[j]? = some x → decide (0 ≤ x.2.2) = true) ∧ Blk wq g 76 (bc b (.slice A m c)) ∧ Below w.heap.size w wq) (fun i _ => m - (intOf i).toNat)
      case atStart => exact ⟨0, by omega, rfl, fun j x h => by omega, k0, gb⟩
      case round =>
        clear k0 gb c48
        obtain ⟨k, hk, rfl, hall, k0, gb⟩ := hrel
        have HALL := Lib.hid hall
        clear hall
        by_cases hlt : k < m
        · have hkl : k < b.l.length := by rw [← HN.out]; exact hlt
          obtain ⟨ad, hA, q5, q0, q1, q2⟩ := (HRV.out _ gb).2 k _ (List.getElem?_eq_getElem hkl)
          have hpk : b.l[k]? = some b.l[k] := List.getElem?_eq_getElem hkl
          have hk0 : (0 : Int) ≤ (k : Int) := by omega
          have hkn : (k : Int) < (m : Int) := by omega
          have hmb := HM.out
          generalize b.l[k] = d at *
          obtain ⟨x, y, z⟩ := d
          simp only at q0 q1 q2
          subst hA
          have HPK := Lib.hid hpk
          clear hpk
          by_cases hz : z < 0
          · have hr0 : R = false := by rw [HRR.out, all_take_bad HPK.out (decide_eq_false (by show ¬ 0 ≤ z; omega))]; rfl
            subst hr0
            go_wp2_with fail
            go_ret
            exact ⟨rfl, gb.alloc gb.size _⟩
          · have k1 := k0.alloc (.cells #[.int .i64 x, .int .i64 y, .int .i64 z] 105)
            have gb1 := gb.alloc gb.size (.cells #[.int .i64 x, .int .i64 y, .int .i64 z] 105)
            go_wp2_with fail
            go_roundw
            case rel => exact ⟨k + 1, by omega, by go_num, fun j v hj hv => by
              by_cases e : j = k
              · subst e; rw [HPK.out] at hv; injection hv with hv; subst hv; exact decide_eq_true (by show 0 ≤ z; omega)
              · exact HALL.out j v (by omega) hv, k1, gb1⟩
            case measure => simp [intOf]; omega
        · obtain rfl : k = m := by omega
          have hP : (b.l.all fun v => decide (0 ≤ v.2.2)) = true := all_of_at fun j x hj => HALL.out j x (by have := (List.getElem?_eq_some_iff.1 hj).1; rw [← HN.out] at this; exact this) hj
          have HR2 := Lib.hid (show R = (r3 && r4) by rw [HRR.out, hP]; rfl)
          clear hP
          go_wp2_with ((with_reducible refine wpList_ldr rowRT (k0.tal HS.out) HT.out ?_ ?_); rotate_left; (rfl))
          refine (HC3.out _).mono ?_
          rintro e w5 ⟨rfl, b5⟩
          have k0 := k0.below b5 k0.lt
          have gb := gb.trans (b5.mono gb.size)
          clear b5
          cases r3
          case false =>
            have hr0 : R = false := by rw [HR2.out]; rfl
            subst hr0
            go_wp2_with fail
            go_ret
            exact ⟨rfl, gb⟩
          case true =>
            have hr0 : R = r4 := by rw [HR2.out]; simp
            subst hr0
            go_wp2_with ((with_reducible refine wpList_ldrg rowRM (k0.notes HS.out) HU.out ?_ ?_ ?_); rotate_left; (rfl); (rfl))
            refine (HC4.out _ gb).mono ?_
            rintro e w6 ⟨rfl, b6⟩
            have gb := gb.trans (b6.mono gb.size)
            clear b6
            go_wp2_with fail
            go_ret
            exact ⟨rfl, gb⟩
end Go.Proofs.Ytocoohpekpkmkaa

/- The walk of the document's Put of boards. -/
namespace Go.Proofs.Ytocoohpekpkmkaa
set_option linter.unusedVariables false
set_option linter.unusedSimpArgs false
set_option maxRecDepth 100000
open Go.RowKit
open Reg (La Vl)
set_option maxHeartbeats 400000 in
theorem brput_any (b : Bd) (hs : Bo.Shaped b) (q : Value) (w : World) (hq : FrBo b q w) : Calls Try.prog 32 #[q] w (GiveBE w (putBo b).1 (putBo b).2) := by
  obtain ⟨A, m, c, rfl, hr, hm⟩ := hq
  obtain ⟨R, hR⟩ : ∃ R, R = Bo.rightB b := ⟨_, rfl⟩
  have HC1 := Lib.hid fun (w' : World) (hb : Below w.heap.size w w') => (hR ▸ brright_any b hs (.agg (bc b (.slice A m c))) w' ⟨A, m, c, rfl, (hr.below hb).size, hm⟩ : Calls Try.prog _ _ w' (GiveBo w' R))
  have HC2 := Lib.hid fun (h : Bo.rightB b = true) (w' : World) (hb : Below w.heap.size w w') => brbody_any b hs h (.agg (bc b (.slice A m c))) w' ⟨A, m, c, rfl, (hr.below hb).size, hm⟩
  have h49 := Lib.hid (bc_size (s := .slice A m c) hs)
  have HP := Lib.hid (show putBo b = if R then (Frame.frm (bodyL b), 0) else ([], 2) by rw [hR]; rfl)
  have HR := Lib.hid hR
  have HL := Lib.hid fun (h : Bo.rightB b = true) => bodyL_len hs (right_l8 h)
  clear hR hr hm hs
  go_enter Try.func32, Try.ntmps32
  go_upto_region 1 with fail
  refine nameW ?_
  intro wv hwv
  obtain ⟨g, hg⟩ : ∃ g, g = w.heap.size := ⟨_, rfl⟩
  rw [← hg]
  have k0 : Blk wv g 76 (bc b (.slice A m c)) := by rw [hwv, hg]; exact Blk.new w _ _
  have gb : Below w.heap.size w wv := by rw [hwv]; exact (Below.refl _ _).alloc (Nat.le_refl _) _
  clear hwv hg
  go_wp2_with ((with_reducible refine wpList_ld rowRBo k0 h49.out ?_ ?_); rotate_left; (rfl))
  refine (HC1.out wv gb).mono ?_
  rintro e w1 ⟨rfl, b1⟩
  have k0 := k0.below b1 k0.lt
  have gb := gb.trans (b1.mono gb.size)
  clear b1
  cases R
  case false =>
    go_wp2_with fail
    go_ret2
    rw [HP.out]
    exact ⟨none, 0, 0, rfl, OwnB.nil _ _, gb⟩
  case true =>
    go_wp2_with ((with_reducible refine wpList_ld rowRBo k0 h49.out ?_ ?_); rotate_left; (rfl))
    refine (HC2.out HR.out.symm w1 gb).mono ?_
    rintro e w2 ⟨A2, n2, c2, rfl, o, b1⟩
    have hn : n2 ≤ 4096 := Nat.le_trans (Nat.le_of_eq o.1) (Nat.le_trans (HL.out HR.out.symm) (by decide))
    have HN := Lib.hid hn
    clear hn
    have gb2 := gb.trans (b1.mono gb.size)
    clear b1
    go_wp2_with fail
    refine (Frame.rput_ok A2 n2 c2 (bodyL b) w2.heap.size w2 o.rd (Nat.le_refl _) HN.out).mono ?_
    rintro e w3 ⟨A3, n3, c3, rfl, o3, b3⟩
    have gb3 := gb2.trans (b3.mono gb2.size)
    have o3' := o3.mono (base' := w.heap.size) gb2.size
    clear o o3 b3
    go_wp2_with fail
    go_ret2
    rw [HP.out]
    exact ⟨A3, n3, c3, rfl, o3', gb3⟩
end Go.Proofs.Ytocoohpekpkmkaa

/- The walk of the document's Read of tallies: a reader that keeps its error. -/
namespace Go.Proofs.Ytocoohpekpkmkaa
set_option linter.unusedVariables false
set_option linter.unusedSimpArgs false
set_option maxRecDepth 100000
open Go.RowKit
open Reg (La Vl)
namespace Bo
/-- rows from here on: the next place is to be read -/
def rowsC {σ : Type} (step : Nat → σ → List UInt8 → Except Nat (σ × List UInt8)) (k last : Nat) (st : σ) (r : List UInt8) : Except Nat (σ × List UInt8) :=
  match Vint.dec r with
  | .error x => .error x
  | .ok (n, r') => rowsE step k last st n r'
theorem rows_C {σ : Type} (step : Nat → σ → List UInt8 → Except Nat (σ × List UInt8)) (st : σ) (r : List UInt8) : rows step st r = rowsC step 9 0 st r := rfl
theorem rowsC_err {σ : Type} {step : Nat → σ → List UInt8 → Except Nat (σ × List UInt8)} {k last : Nat} {st : σ} {r : List UInt8} {x : Nat} (h : Vint.dec r = .error x) : rowsC step k last st r = .error x := by unfold rowsC; rw [h]
theorem rowsC_ok {σ : Type} {step : Nat → σ → List UInt8 → Except Nat (σ × List UInt8)} {k last : Nat} {st : σ} {r r' : List UInt8} {n : Nat} (h : Vint.dec r = .ok (n, r')) : rowsC step k last st r = rowsE step k last st n r' := by unfold rowsC; rw [h]
theorem rowsE_C {σ : Type} {step : Nat → σ → List UInt8 → Except Nat (σ × List UInt8)} {k last n : Nat} {st st' : σ} {r r' : List UInt8} (h : n ≠ 0) (h2 : last < n ∧ n ≤ 8) (hs : step (n - 1) st r = .ok (st', r')) : rowsE step (k + 1) last st n r = rowsC step k n st' r' := by
  unfold rowsC
  cases hd : Vint.dec r' with
  | error y => exact rowsE_num k last st r h h2 hs hd
  | ok p =>
    obtain ⟨n', r''⟩ := p
    exact rowsE_on k last st r h h2 hs hd
theorem intM_e {l : List UInt8} {x : Nat} (h : Vint.dec l = .error x) : Vint.intM l 0 = (0, l, x) := by simp [Vint.intM, h]
theorem dec_ne {l : List UInt8} {x : Nat} (h : Vint.dec l = .error x) : x ≠ 0 := by have := Vint.dec_err h; omega
/-- a tally's row by a reader that keeps its error -/
theorem stepT_int (p : Nat) (t : List Int) (r : List UInt8) : stepT p t r =
    (let x := Vint.intM r 0
     let y := Vint.intM x.2.1 x.2.2
     if y.2.2 ≠ 0 then .error y.2.2 else if 0 < x.1 + y.1 then .ok ((t.set p (x.1 : Nat)).set (8 + p) (y.1 : Nat), y.2.1) else .error 4) := by
  unfold stepT
  cases hd : Vint.dec r with
  | error e => simp [intM_e hd, intM_err (dec_ne hd), dec_ne hd]
  | ok q =>
    obtain ⟨a, r1⟩ := q
    simp only [Vint.intM_ok hd]
    cases hd2 : Vint.dec r1 with
    | error e => simp [intM_e hd2, dec_ne hd2]
    | ok q2 =>
      obtain ⟨c, r2⟩ := q2
      simp [Vint.intM_ok hd2]
theorem rows_nz {r : List UInt8} {n : Nat} {r' : List UInt8} (h : Vint.dec r = .ok (n, r')) : Vint.intM r 0 = (n, r', 0) := Vint.intM_ok h
end Bo
section
variable {w w' : World} {g n c : Nat} {A : Option Addr} {bs r : List UInt8} {e : Nat}
theorem RSt.err (h : RSt w g A n c bs r e) : w.cell? ⟨g, 2, none⟩ = some (.int .i64 (e : Nat)) := by
  obtain ⟨at', _, h2, _⟩ := h
  exact h2.cell 2
theorem RSt.fr (h : RSt w g A n c bs r e) : w.frozen? ⟨g, 2, none⟩ = false := by
  obtain ⟨at', _, h2, _⟩ := h
  exact h2.free 2
theorem RSt.setE (h : RSt w g A n c bs r e) (y : Nat) : RSt (w.setCell ⟨g, 2, none⟩ (.int .i64 (y : Nat))) g A n c bs r y := by
  obtain ⟨at', h1, h2, h3⟩ := h
  exact ⟨at', h1, h2.set_ 2 (.int .i64 (y : Nat)), h3⟩
theorem RSt.below (h : RSt w g A n c bs r e) (hb : Below w.heap.size w w') : RSt w' g A n c bs r e := h.map fun t cs k => k.below hb k.lt
theorem RSt.grown {b : Nat} (h : RSt w g A n c bs r e) (hg : w.grownBy w' (some b)) (hne : b ≠ g) : RSt w' g A n c bs r e := h.map fun t cs k => k.grown hg (by intro x; injection x with x; exact hne x)
theorem RSt.far {p : Addr} (h : RSt w g A n c bs r e) (hp : g ≠ p.block) (u : Value) : RSt (w.setCell p u) g A n c bs r e := h.map fun t cs k => k.far hp u
theorem RSt.lt (h : RSt w g A n c bs r e) : g < w.heap.size := by
  obtain ⟨at', _, h2, _⟩ := h
  exact h2.lt
end
theorem set_grown (w : World) (b i : Nat) (v : Value) : w.grownBy (w.setCell ⟨b, i, none⟩ v) (some b) := cells_grown w b i [v]
theorem below_grows {w w' : World} (hb : Below w.heap.size w w') (row : Option Nat) : w.grownBy w' row := ⟨hb.os, hb.tape, hb.output, hb.size, fun k hk _ => hb.block k hk⟩
theorem set2_at {t : List Int} (ht : t.length = 16) {p : Nat} (hp : p < 8) (a c : Int) : ((t.set p a).set (8 + p) c).getD p 0 = a ∧ ((t.set p a).set (8 + p) c).getD (8 + p) 0 = c := by
  constructor
  · rw [List.getD_eq_getElem?_getD, List.getElem?_set_ne (by omega), List.getElem?_set_self (by omega)]
    rfl
  · rw [List.getD_eq_getElem?_getD, List.getElem?_set_self (by rw [List.length_set]; omega)]
    rfl
/-- what reading a tally leaves -/
def RTEnd (w : World) (g : Nat) (A : Option Addr) (n c : Nat) (bs : List UInt8) (R : Except Nat (List Int × List UInt8)) (x : Ending) (w' : World) : Prop :=
  ∃ t, x = .returned (.agg (tc t)) ∧ t.length = 16 ∧ w.grownBy w' (some g) ∧ ∃ r e, RSt w' g A n c bs r e ∧ ((e = 0 ∧ R = .ok (t, r)) ∨ (e ≠ 0 ∧ R = .error e))
set_option maxHeartbeats 1600000 in
theorem rtread_any (g : Nat) (A : Option Addr) (n c B : Nat) (bs r : List UInt8) (w0 : World) (hR : RSt w0 g A n c bs r 0) (hb : RdB w0 B A n bs) (hBg : B ≤ g) (hn : n ≤ 1000000000) :
    Calls Try.prog 75 #[.pointer (some ⟨g, 0, none⟩)] w0 (RTEnd w0 g A n c bs (Bo.rows Bo.stepT Tally.zero r)) := by
  obtain ⟨R, hRR⟩ : ∃ R, R = Bo.rows Bo.stepT Tally.zero r := ⟨_, rfl⟩
  rw [← hRR]
  have hBw : B ≤ w0.heap.size := by have := hR.lt; omega
  have HRB := Lib.hid fun (w : World) (h : w0.grownBy w (some g)) => hb.below (((Below.refl B w0).grown h hBw (fun q hq => by injection hq; omega)) : Below B w0 w)
  have HINT := Lib.hid (show ∀ (w : World) (r : List UInt8) (e z : Nat) (rz : List UInt8) (ez : Nat), Vint.intM r e = (z, rz, ez) → RSt w g A n c bs r e → w0.grownBy w (some g) → Calls Try.prog 76 #[.pointer (some ⟨g, 0, none⟩)] w (fun x w' => x = .returned (.int .i64 (z : Nat)) ∧ w.grownBy w' (some g) ∧ RSt w' g A n c bs rz ez) from fun w r e z rz ez he h hg => by
    have := rint_m g A n c B bs r e w h (HRB.out w hg) hn
    unfold RIntM at this
    rw [he] at this
    exact this)
  have hg0 := hR.lt
  have HR0 := Lib.hid hR
  have HRR := Lib.hid (show R = Bo.rowsC Bo.stepT 9 0 Tally.zero r by rw [hRR]; rfl)
  have Z16 := Lib.hid (show (tc Tally.zero).size = 16 from rfl)
  clear hRR hb hBw hR
  go_enter Try.func75, Try.ntmps75
  go_upto_region 2 with fail
  refine nameW ?_
  intro wv hwv
  obtain ⟨X, hX⟩ : ∃ X, X = w0.heap.size := ⟨_, rfl⟩
  obtain ⟨Y, hY⟩ : ∃ Y, Y = X + 1 := ⟨_, rfl⟩
  rw [← hX, ← hY]
  have kX : Blk wv X 73 (tc Tally.zero) := by rw [hwv, hX]; exact (Blk.new w0 _ _).alloc _
  have kY : Blk wv Y 73 (tc Tally.zero) := by
    have h := Blk.new (w0.alloc (.cells (tc Tally.zero) 73)) 73 (tc Tally.zero)
    rw [zero_tc] at h ⊢
    rw [hwv, hY, hX]
    simpa using h
  have hbv : Below w0.heap.size w0 wv := by rw [hwv]; exact ((Below.refl _ _).alloc (Nat.le_refl _) _).alloc (by simp) _
  have hR := HR0.out.below hbv
  have gg : w0.grownBy wv (some g) := below_grows hbv _
  have hXg : g < X := by omega
  have hYg : g < Y := by omega
  have hXY : X ≠ Y := by omega
  have hXw : w0.heap.size ≤ X := by omega
  have hYw : w0.heap.size ≤ Y := by omega
  clear hwv hX hY hbv HR0 hg0
  go_wp2_with fail
  go_loopw [4] (fun la wr => ∃ (k last : Nat) (t : List Int) (r' : List UInt8) (e : Nat), la = .int .i64 (last : Nat) ∧ last ≤ 8 ∧ 9 ≤ k + last ∧ t.length = 16 ∧ Blk wr X 73 (tc Tally.zero) ∧ Blk wr Y 73 (tc t) ∧ RSt wr g A n c bs r' e ∧ w0.grownBy wr (some g) ∧ ((e = 0 ∧ R = Bo.rowsC Bo.stepT k last t r') ∨ (e ≠ 0 ∧ R = .error e))) (fun la _ => 9 - (intOf la).toNat)
  case atStart => exact ⟨9, 0, Tally.zero, r, 0, rfl, by omega, by omega, rfl, kX, kY, hR, gg, .inl ⟨rfl, HRR.out⟩⟩
  case round =>
  clear kX kY hR gg HRR
  obtain ⟨k, last, t, r', e, rfl, hl8, hk9, ht, kX, kY, hR, gg, hst⟩ := hrel
  have cE := hR.err
  rcases hst with ⟨rfl, hC⟩ | ⟨hne, hE⟩
  rotate_left
  · have hq : (((e : Nat) : Int) == 0) = false := by rw [beq_eq_false_iff_ne]; omega
    have TS := Lib.hid (show (tc t).size = 16 by rw [tc_size, ht])
    have T1 := Lib.hid (tc_one t)
    have HEE := Lib.hid (show (e = 0 ∧ R = .ok (t, r')) ∨ (e ≠ 0 ∧ R = .error e) from .inr ⟨hne, hE⟩)
    go_wp2_with first
      | ((with_reducible refine wpList_ld rowRT kY TS.out ?_ ?_); rotate_left; (rfl))
      | ((with_reducible refine wpList_st rowRT kX TS.out Z16.out T1.out ?_ ?_ ?_); rotate_left; (rfl); (rfl); intro w9 k9 g9 z9)
    exact bodyPost_ret (v := .agg (tc t)) (results_blk rfl rowRT k9 TS.out rfl) rfl ⟨t, rfl, ht, grown_on gg g9 (by omega), r', e, hR.grown g9 (by omega), HEE.out⟩
  obtain ⟨k, rfl⟩ : ∃ k', k = k' + 1 := ⟨k - 1, by omega⟩
  cases hd : Vint.dec r' with
  | error y =>
    have hC2 := Lib.hid (show R = .error y by rw [hC, Bo.rowsC_err hd])
    have hny := Bo.dec_ne hd
    go_wp2_with fail
    refine (HINT.out _ r' 0 0 r' y (Bo.intM_e hd) hR gg).mono ?_
    rintro x w1 ⟨rfl, g1, hR1⟩
    have kX := kX.grown g1 (fun h => by injection h; omega)
    have kY := kY.grown g1 (fun h => by injection h; omega)
    have gg := grownBy_trans gg g1
    have cE := hR1.err
    have hq : (((y : Nat) : Int) != 0) = true := by rw [bne_iff_ne]; omega
    clear hR g1 hC hd
    have TS := Lib.hid (show (tc t).size = 16 by rw [tc_size, ht])
    have T1 := Lib.hid (tc_one t)
    have HEE := Lib.hid (show (y = 0 ∧ R = .ok (t, r')) ∨ (y ≠ 0 ∧ R = .error y) from .inr ⟨hny, hC2.out⟩)
    go_wp2_with first
      | ((with_reducible refine wpList_ld rowRT kY TS.out ?_ ?_); rotate_left; (rfl))
      | ((with_reducible refine wpList_st rowRT kX TS.out Z16.out T1.out ?_ ?_ ?_); rotate_left; (rfl); (rfl); intro w9 k9 g9 z9)
    exact bodyPost_ret (v := .agg (tc t)) (results_blk rfl rowRT k9 TS.out rfl) rfl ⟨t, rfl, ht, grown_on gg g9 (by omega), r', y, hR1.grown g9 (by omega), HEE.out⟩
  | ok q =>
  obtain ⟨m, r1⟩ := q
  have hC2 := Lib.hid (show R = Bo.rowsE Bo.stepT (k + 1) last t m r1 by rw [hC, Bo.rowsC_ok hd])
  go_wp2_with fail
  refine (HINT.out _ r' 0 m r1 0 (Vint.intM_ok hd) hR gg).mono ?_
  rintro x w1 ⟨rfl, g1, hR1⟩
  have kX := kX.grown g1 (fun h => by injection h; omega)
  have kY := kY.grown g1 (fun h => by injection h; omega)
  have gg := grownBy_trans gg g1
  have cE := hR1.err
  have hR := hR1
  clear g1 hC hd hR1
  by_cases hm0 : m = 0
  · subst hm0
    have hC3 := Lib.hid (show R = .ok (t, r1) by rw [hC2.out, Bo.rowsE_end])
    have TS := Lib.hid (show (tc t).size = 16 by rw [tc_size, ht])
    have T1 := Lib.hid (tc_one t)
    have HEE := Lib.hid (show (0 = 0 ∧ R = .ok (t, r1)) ∨ (0 ≠ 0 ∧ R = .error 0) from .inl ⟨rfl, hC3.out⟩)
    go_wp2_with first
      | ((with_reducible refine wpList_ld rowRT kY TS.out ?_ ?_); rotate_left; (rfl))
      | ((with_reducible refine wpList_st rowRT kX TS.out Z16.out T1.out ?_ ?_ ?_); rotate_left; (rfl); (rfl); intro w9 k9 g9 z9)
    exact bodyPost_ret (v := .agg (tc t)) (results_blk rfl rowRT k9 TS.out rfl) rfl ⟨t, rfl, ht, grown_on gg g9 (by omega), r1, 0, hR.grown g9 (by omega), .inl ⟨rfl, hC3.out⟩⟩
  have hqm : (((m : Nat) : Int) == 0) = false := by rw [beq_eq_false_iff_ne]; omega
  have HM0 := Lib.hid hm0
  clear hm0
  by_cases hlm : last < m ∧ m ≤ 8
  rotate_left
  · have hC3 := Lib.hid (show R = .error 4 by rw [hC2.out, Bo.rowsE_bad _ _ _ _ _ HM0.out hlm])
    have fE := hR.fr
    have hR4 : RSt (w1.setCell ⟨g, 2, none⟩ (.int .i64 4)) g A n c bs r1 4 := hR.setE 4
    have kX4 := kX.far (p := ⟨g, 2, none⟩) (by show X ≠ g; omega) (.int .i64 4)
    have kY4 := kY.far (p := ⟨g, 2, none⟩) (by show Y ≠ g; omega) (.int .i64 4)
    have gg4 := grownBy_trans gg (set_grown w1 g 2 (.int .i64 4))
    by_cases hle : m ≤ last
    · have hle' : (m : Int) ≤ (last : Int) := by omega
      clear hC2 kX kY hR gg
      have TS := Lib.hid (show (tc t).size = 16 by rw [tc_size, ht])
      have T1 := Lib.hid (tc_one t)
      have HEE := Lib.hid (show (4 = 0 ∧ R = .ok (t, r1)) ∨ (4 ≠ 0 ∧ R = .error 4) from .inr ⟨by decide, hC3.out⟩)
      go_wp2_with first
        | ((with_reducible refine wpList_ld rowRT kY4 TS.out ?_ ?_); rotate_left; (rfl))
        | ((with_reducible refine wpList_st rowRT kX4 TS.out Z16.out T1.out ?_ ?_ ?_); rotate_left; (rfl); (rfl); intro w9 k9 g9 z9)
      exact bodyPost_ret (v := .agg (tc t)) (results_blk rfl rowRT k9 TS.out rfl) rfl ⟨t, rfl, ht, grown_on gg4 g9 (by omega), r1, 4, hR4.grown g9 (by omega), HEE.out⟩
    · have hle' : ¬ (m : Int) ≤ (last : Int) := by omega
      have hgt : (8 : Int) < (m : Int) := by omega
      clear hC2 kX kY hR gg
      have TS := Lib.hid (show (tc t).size = 16 by rw [tc_size, ht])
      have T1 := Lib.hid (tc_one t)
      have HEE := Lib.hid (show (4 = 0 ∧ R = .ok (t, r1)) ∨ (4 ≠ 0 ∧ R = .error 4) from .inr ⟨by decide, hC3.out⟩)
      go_wp2_with first
        | ((with_reducible refine wpList_ld rowRT kY4 TS.out ?_ ?_); rotate_left; (rfl))
        | ((with_reducible refine wpList_st rowRT kX4 TS.out Z16.out T1.out ?_ ?_ ?_); rotate_left; (rfl); (rfl); intro w9 k9 g9 z9)
      exact bodyPost_ret (v := .agg (tc t)) (results_blk rfl rowRT k9 TS.out rfl) rfl ⟨t, rfl, ht, grown_on gg4 g9 (by omega), r1, 4, hR4.grown g9 (by omega), HEE.out⟩
  have hle' : ¬ (m : Int) ≤ (last : Int) := by omega
  have hgt : ¬ (8 : Int) < (m : Int) := by omega
  have HLM := Lib.hid hlm
  obtain ⟨p, hp⟩ : ∃ p, p = m - 1 := ⟨_, rfl⟩
  have hp8 : p < 8 := by omega
  have ew : IntKind.i64.wrap ((m : Int) - 1) = (p : Int) := by rw [IntWalk.i64_in _ (by omega)]; omega
  have hp0 : (0 : Int) ≤ (p : Int) := by omega
  have hp1 : (p : Int) < 8 := by omega
  obtain ⟨a, ra, ea, ha⟩ : ∃ a ra ea, Vint.intM r1 0 = (a, ra, ea) := ⟨_, _, _, rfl⟩
  obtain ⟨d, rd, ed, hdd⟩ : ∃ d rd ed, Vint.intM ra ea = (d, rd, ed) := ⟨_, _, _, rfl⟩
  have hstep := Bo.stepT_int p t r1
  rw [ha] at hstep
  simp only at hstep
  rw [hdd] at hstep
  simp only at hstep
  have HSTEP := Lib.hid hstep
  have HPM := Lib.hid hp
  clear hstep hp
  go_wp2_with fail
  refine (HINT.out _ r1 0 a ra ea ha hR gg).mono ?_
  rintro x w2 ⟨rfl, g1, hR2⟩
  have kX := kX.grown g1 (fun h => by injection h; omega)
  have kY := kY.grown g1 (fun h => by injection h; omega)
  have gg := grownBy_trans gg g1
  have cY := kY.tcell (i := p) (by rw [ht]; omega)
  have fY := kY.free p
  clear g1 hR cE
  go_upto_region 10 with fail
  refine nameW ?_
  intro w3 hw3
  have gs := set_grown w2 Y p (.int .i64 (a : Nat))
  rw [← hw3] at gs
  have kX := kX.grown gs (fun h => by injection h; omega)
  have kYb : Blk w3 Y 73 (tc (t.set p (a : Nat))) := by
    have h := kY.set_ p (.int .i64 (a : Nat))
    rw [tc_set] at h
    rw [hw3]
    exact h
  have hR3 := hR2.grown gs (by omega)
  have gg := grown_on gg gs (by omega)
  clear hw3 gs cY fY hR2
  go_wp2_with fail
  refine (HINT.out _ ra ea d rd ed hdd hR3 gg).mono ?_
  rintro x w4 ⟨rfl, g1, hR4⟩
  have kX := kX.grown g1 (fun h => by injection h; omega)
  have kYb := kYb.grown g1 (fun h => by injection h; omega)
  have gg := grownBy_trans gg g1
  have cY := kYb.tcell (i := 8 + p) (by rw [List.length_set, ht]; omega)
  have fY := kYb.free (8 + p)
  clear g1 hR3
  go_upto_region 11 with fail
  refine nameW ?_
  intro w5 hw5
  have gs := set_grown w4 Y (8 + p) (.int .i64 (d : Nat))
  rw [← hw5] at gs
  have kX := kX.grown gs (fun h => by injection h; omega)
  have kY : Blk w5 Y 73 (tc ((t.set p (a : Nat)).set (8 + p) (d : Nat))) := by
    have h := kYb.set_ (8 + p) (.int .i64 (d : Nat))
    rw [tc_set] at h
    rw [hw5]
    exact h
  have hR := hR4.grown gs (by omega)
  have gg := grown_on gg gs (by omega)
  clear hw5 gs cY fY hR4 kYb
  obtain ⟨g1, g2⟩ := set2_at ht hp8 (a : Nat) (d : Nat)
  have ht2 : ((t.set p (a : Int)).set (8 + p) (d : Int)).length = 16 := by rw [List.length_set, List.length_set, ht]
  obtain ⟨t2, ht2d⟩ : ∃ t2, t2 = (t.set p (a : Int)).set (8 + p) (d : Int) := ⟨_, rfl⟩
  rw [← ht2d] at kY g1 g2 ht2 HSTEP
  have cYa := kY.tcell (i := p) (by rw [ht2]; omega)
  have cYd := kY.tcell (i := 8 + p) (by rw [ht2]; omega)
  rw [g1] at cYa
  rw [g2] at cYd
  have cE := hR.err
  have HT2 := Lib.hid ht2
  clear g1 g2 ht2 ht2d ht
  by_cases hed : ed = 0
  rotate_left
  · have hq : (((ed : Nat) : Int) == 0) = false := by rw [beq_eq_false_iff_ne]; omega
    have hC3 := Lib.hid (show R = .error ed by rw [hC2.out]; exact Bo.rowsE_step _ _ _ _ HM0.out HLM.out (by rw [← HPM.out, HSTEP.out, if_pos hed]))
    have HED := Lib.hid hed
    clear hed
    have HH := Lib.hid (And.intro kX (And.intro kY (And.intro hR gg)))
    clear kX kY hR gg
    go_wp2_with fail
    go_roundw
    case rel => exact ⟨k, m, t2, rd, ed, by first | rfl | go_num, HLM.out.2, by omega, HT2.out, HH.out.1, HH.out.2.1, HH.out.2.2.1, HH.out.2.2.2, .inr ⟨HED.out, hC3.out⟩⟩
    case measure => simp [intOf]; omega
  subst hed
  by_cases had : 0 < a + d
  · have hC3 := Lib.hid (show R = Bo.rowsC Bo.stepT k m t2 rd by rw [hC2.out]; exact Bo.rowsE_C HM0.out HLM.out (by rw [← HPM.out, HSTEP.out, if_neg (by simp), if_pos had]))
    by_cases ha0 : a = 0
    · subst ha0
      have hqd : (((d : Nat) : Int) == 0) = false := by rw [beq_eq_false_iff_ne]; omega
      clear had
      have HH := Lib.hid (And.intro kX (And.intro kY (And.intro hR gg)))
      clear kX kY hR gg
      go_wp2_with fail
      go_roundw
      case rel => exact ⟨k, m, t2, rd, 0, by first | rfl | go_num, HLM.out.2, by omega, HT2.out, HH.out.1, HH.out.2.1, HH.out.2.2.1, HH.out.2.2.2, .inl ⟨rfl, hC3.out⟩⟩
      case measure => simp [intOf]; omega
    · have hqa : (((a : Nat) : Int) == 0) = false := by rw [beq_eq_false_iff_ne]; omega
      clear had ha0
      have HH := Lib.hid (And.intro kX (And.intro kY (And.intro hR gg)))
      clear kX kY hR gg
      go_wp2_with fail
      go_roundw
      case rel => exact ⟨k, m, t2, rd, 0, by first | rfl | go_num, HLM.out.2, by omega, HT2.out, HH.out.1, HH.out.2.1, HH.out.2.2.1, HH.out.2.2.2, .inl ⟨rfl, hC3.out⟩⟩
      case measure => simp [intOf]; omega
  · have hC3 := Lib.hid (show R = .error 4 by rw [hC2.out]; exact Bo.rowsE_step _ _ _ _ HM0.out HLM.out (by rw [← HPM.out, HSTEP.out, if_neg (by simp), if_neg had]))
    obtain ⟨rfl, rfl⟩ : a = 0 ∧ d = 0 := by omega
    clear had
    have fE := hR.fr
    have hR4 : RSt (w5.setCell ⟨g, 2, none⟩ (.int .i64 4)) g A n c bs rd 4 := hR.setE 4
    have kX4 := kX.far (p := ⟨g, 2, none⟩) (by show X ≠ g; omega) (.int .i64 4)
    have kY4 := kY.far (p := ⟨g, 2, none⟩) (by show Y ≠ g; omega) (.int .i64 4)
    have gg4 := grownBy_trans gg (set_grown w5 g 2 (.int .i64 4))
    have HH := Lib.hid (And.intro kX4 (And.intro kY4 (And.intro hR4 gg4)))
    clear kX kY hR gg kX4 kY4 hR4 gg4
    go_wp2_with fail
    go_roundw
    case rel => exact ⟨k, m, t2, rd, 4, by first | rfl | go_num, HLM.out.2, by omega, HT2.out, HH.out.1, HH.out.2.1, HH.out.2.2.1, HH.out.2.2.2, .inr ⟨by decide, hC3.out⟩⟩
    case measure => simp [intOf]; omega
end Go.Proofs.Ytocoohpekpkmkaa

/- Boards that are read by a reader that keeps its error: plain words, and how they stand in memory. -/
namespace Go.Proofs.Ytocoohpekpkmkaa
set_option linter.unusedVariables false
set_option linter.unusedSimpArgs false
set_option maxRecDepth 100000
open Go.RowKit
open Reg (La Vl)
namespace Bo
theorem stepP_int (p : Nat) (l : List La) (r : List UInt8) : stepP p l r =
    (let x := Vint.intM r 0
     let y := Vint.intM x.2.1 x.2.2
     let z := Vint.intM y.2.1 y.2.2
     if z.2.2 ≠ 0 then .error z.2.2 else .ok (l.set p ((x.1 : Nat), (y.1 : Nat), (z.1 : Nat)), z.2.1)) := by
  unfold stepP
  cases hd : Vint.dec r with
  | error e => simp [intM_e hd, intM_err (dec_ne hd), dec_ne hd]
  | ok q =>
    obtain ⟨a, r1⟩ := q
    simp only [Vint.intM_ok hd]
    cases hd2 : Vint.dec r1 with
    | error e => simp [intM_e hd2, intM_err (dec_ne hd2), dec_ne hd2]
    | ok q2 =>
      obtain ⟨c, r2⟩ := q2
      simp only [Vint.intM_ok hd2]
      cases hd3 : Vint.dec r2 with
      | error e => simp [intM_e hd3, dec_ne hd3]
      | ok q3 =>
        obtain ⟨d, r3⟩ := q3
        simp [Vint.intM_ok hd3]
theorem valE_int (r : List UInt8) : valE r =
    (let x := Vint.intM r 0
     let y := Vint.intM x.2.1 x.2.2
     let z := Vint.intM y.2.1 y.2.2
     if z.2.2 ≠ 0 then .error z.2.2 else .ok (((x.1 : Nat), (y.1 : Nat), (z.1 : Nat)), z.2.1)) := by
  unfold valE
  cases hd : Vint.dec r with
  | error e => simp [intM_e hd, intM_err (dec_ne hd), dec_ne hd]
  | ok q =>
    obtain ⟨a, r1⟩ := q
    simp only [Vint.intM_ok hd]
    cases hd2 : Vint.dec r1 with
    | error e => simp [intM_e hd2, intM_err (dec_ne hd2), dec_ne hd2]
    | ok q2 =>
      obtain ⟨c, r2⟩ := q2
      simp only [Vint.intM_ok hd2]
      cases hd3 : Vint.dec r2 with
      | error e => simp [intM_e hd3, dec_ne hd3]
      | ok q3 =>
        obtain ⟨d, r3⟩ := q3
        simp [Vint.intM_ok hd3]
/-- what is left of the reading, from each of its stages on -/
def fin (xs : List UInt8) (b : Bd) : Except Nat Bd := if rightB b = true ∧ bodyL b = xs then .ok b else .error 4
def contV (xs : List UInt8) (b : Bd) (j : Nat) (r : List UInt8) : Except Nat Bd :=
  match valsE j b.l r with
  | .error y => .error y
  | .ok (l, _) => fin xs { b with l := l }
def contC (xs : List UInt8) (b : Bd) (r : List UInt8) : Except Nat Bd :=
  match Vint.dec r with
  | .error y => .error y
  | .ok (n, r') => if n ≤ 8 then contV xs b n r' else .error 6
def contS (xs : List UInt8) (b : Bd) (i : Nat) (r : List UInt8) : Except Nat Bd :=
  match seenE (8 - i) i b.u r with
  | .error y => .error y
  | .ok (U, r') => contC xs { b with u := U } r'
def contP (xs : List UInt8) (b : Bd) (k last : Nat) (r : List UInt8) : Except Nat Bd :=
  match rowsC stepP k last b.p r with
  | .error y => .error y
  | .ok (p, r') => contS xs { b with p := p } 0 r'
theorem getX_P (xs : List UInt8) {t : List Int} {r : List UInt8} (h : rows stepT Tally.zero xs = .ok (t, r)) : getX xs = contP xs ⟨t, z8l, [0, 0, 0, 0, 0, 0, 0, 0], []⟩ 9 0 r := by
  unfold getX contP
  rw [h, ← rows_C]
  simp only
  cases rows stepP z8l r with
  | error y => rfl
  | ok q =>
    obtain ⟨p, r1⟩ := q
    simp only
    unfold notesE contS
    cases seenE (8 - 0) 0 [0, 0, 0, 0, 0, 0, 0, 0] r1 with
    | error y => rfl
    | ok q =>
      obtain ⟨U, r2⟩ := q
      simp only
      unfold contC
      cases Vint.dec r2 with
      | error y => rfl
      | ok q =>
        obtain ⟨n, r3⟩ := q
        simp only
        by_cases hn : n ≤ 8
        · rw [if_pos hn, if_pos hn]
          unfold contV
          simp only
          cases valsE n [] r3 with
          | error y => rfl
          | ok q => rfl
        · rw [if_neg hn, if_neg hn]
theorem getX_T {xs : List UInt8} {y : Nat} (h : rows stepT Tally.zero xs = .error y) : getX xs = .error y := by unfold getX; rw [h]
theorem contP_err {xs : List UInt8} {b : Bd} {k last : Nat} {r : List UInt8} {y : Nat} (h : rowsC stepP k last b.p r = .error y) : contP xs b k last r = .error y := by unfold contP; rw [h]
theorem contP_end {xs : List UInt8} {b : Bd} {k last : Nat} {r r' : List UInt8} (h : rowsC stepP k last b.p r = .ok (b.p, r')) : contP xs b k last r = contS xs b 0 r' := by unfold contP; rw [h]
theorem contP_on {xs : List UInt8} {b : Bd} {k last k' last' : Nat} {p' : List La} {r r' : List UInt8} (h : rowsC stepP k last b.p r = rowsC stepP k' last' p' r') : contP xs b k last r = contP xs { b with p := p' } k' last' r' := by unfold contP; rw [h]
theorem contS_end (xs : List UInt8) (b : Bd) (r : List UInt8) : contS xs b 8 r = contC xs b r := rfl
theorem contS_err {xs : List UInt8} {b : Bd} {i : Nat} {r : List UInt8} {y : Nat} (hi : i < 8) (h : Vint.dec r = .error y) : contS xs b i r = .error y := by
  unfold contS
  rw [show 8 - i = (8 - (i + 1)) + 1 by omega]
  unfold seenE
  rw [h]
theorem contS_on {xs : List UInt8} {b : Bd} {i z : Nat} {r r' : List UInt8} (hi : i < 8) (h : Vint.dec r = .ok (z, r')) : contS xs b i r = contS xs { b with u := b.u.set i (z : Nat) } (i + 1) r' := by
  unfold contS
  rw [show 8 - i = (8 - (i + 1)) + 1 by omega]
  conv => lhs; unfold seenE
  rw [h]
theorem contC_err {xs : List UInt8} {b : Bd} {r : List UInt8} {y : Nat} (h : Vint.dec r = .error y) : contC xs b r = .error y := by unfold contC; rw [h]
theorem contC_long {xs : List UInt8} {b : Bd} {r r' : List UInt8} {n : Nat} (h : Vint.dec r = .ok (n, r')) (hn : ¬ n ≤ 8) : contC xs b r = .error 6 := by unfold contC; rw [h]; simp only; rw [if_neg hn]
theorem contC_on {xs : List UInt8} {b : Bd} {r r' : List UInt8} {n : Nat} (h : Vint.dec r = .ok (n, r')) (hn : n ≤ 8) : contC xs b r = contV xs b n r' := by unfold contC; rw [h]; simp only; rw [if_pos hn]
theorem contV_end (xs : List UInt8) (b : Bd) (r : List UInt8) : contV xs b 0 r = fin xs b := rfl
theorem contV_err {xs : List UInt8} {b : Bd} {j : Nat} {r : List UInt8} {y : Nat} (h : valE r = .error y) : contV xs b (j + 1) r = .error y := by
  unfold contV valsE
  rw [h]
theorem contV_on {xs : List UInt8} {b : Bd} {j : Nat} {r r' : List UInt8} {v : Vl} (h : valE r = .ok (v, r')) : contV xs b (j + 1) r = contV xs { b with l := b.l ++ [v] } j r' := by
  unfold contV
  conv => lhs; unfold valsE
  rw [h]
end Bo
theorem plansC_set : ∀ (p : List La) (i j : Nat) (q : La) (x : Int), i < p.length → pc q = (pc (p.getD i (0, 0, 0))).set j (.int .i64 x) → j < 3 → (plansC p).set (i * 3 + j) (.int .i64 x) = plansC (p.set i q)
  | [], i, j, q, x, hi, _, _ => by simp at hi
  | a :: l, 0, j, q, x, _, hq, hj => by
    show (pc a ++ plansC l).set (0 * 3 + j) _ = pc q ++ plansC l
    rw [Nat.zero_mul, Nat.zero_add, List.set_append_left _ _ (by show j < 3; exact hj), hq]
    rfl
  | a :: l, i + 1, j, q, x, hi, hq, hj => by
    show (pc a ++ plansC l).set ((i + 1) * 3 + j) _ = pc a ++ plansC (l.set i q)
    have h3 : (pc a).length = 3 := rfl
    rw [List.set_append_right _ _ (by rw [h3]; omega), h3, show (i + 1) * 3 + j - 3 = i * 3 + j by omega, plansC_set l i j q x (by simpa using hi) (by simpa using hq) hj]
theorem bc_setp {b : Bd} (h : Bo.Shaped b) {i j : Nat} (hi : i < 8) (hj : j < 3) {q : La} {x : Int} (hq : pc q = (pc (b.p.getD i (0, 0, 0))).set j (.int .i64 x)) (s : Value) : (bc b s).setIfInBounds (16 + i * 3 + j) (.int .i64 x) = bc { b with p := b.p.set i q } s := by
  unfold bc
  rw [List.setIfInBounds_toArray, List.set_append_right _ _ (by rw [List.length_map, h.t]; omega), List.length_map, h.t, List.set_append_left _ _ (by rw [plansC_len, h.p]; omega), show 16 + i * 3 + j - 16 = i * 3 + j by omega, plansC_set b.p i j q x (by rw [h.p]; exact hi) hq hj]
theorem bc_setu {b : Bd} (h : Bo.Shaped b) {i : Nat} (hi : i < 8) (x : Int) (s : Value) : (bc b s).setIfInBounds (40 + i) (.int .i64 x) = bc { b with u := b.u.set i x } s := by
  unfold bc
  rw [List.setIfInBounds_toArray, List.set_append_right _ _ (by rw [List.length_map, h.t]; omega), List.length_map, h.t, List.set_append_right _ _ (by rw [plansC_len, h.p]; omega), plansC_len, h.p, List.set_append_left _ _ (by rw [List.length_map, h.u]; omega), show 40 + i - 16 - 8 * 3 = i by omega, List.map_set]
/-- the board that is being read, and its reader -/
structure GSt (B1 : Nat) (w1 w : World) (Y gR : Nat) (A : Option Addr) (n c : Nat) (xs : List UInt8) (b : Bd) (Av : Option Addr) (m cv : Nat) (r : List UInt8) (e : Nat) : Prop where
  gB : Below B1 w1 w
  hx : RdB w1 B1 A n xs
  n9 : n ≤ 1000000000
  b1 : B1 ≤ w1.heap.size
  y1 : B1 ≤ Y
  r1 : B1 ≤ gR
  ne : Y ≠ gR
  y : Blk w Y 76 (bc b (.slice Av m cv))
  o : OwnV 105 w B1 Av m cv b.l
  rd : RSt w gR A n c xs r e
  sh : Bo.Shaped b
section
variable {B1 : Nat} {w1 w w' : World} {Y gR : Nat} {A : Option Addr} {n c : Nat} {xs : List UInt8} {b : Bd} {Av : Option Addr} {m cv : Nat} {r : List UInt8} {e : Nat}
theorem GSt.bw (h : GSt B1 w1 w Y gR A n c xs b Av m cv r e) : B1 ≤ w.heap.size := Nat.le_trans h.b1 h.gB.size
theorem GSt.grownR (h : GSt B1 w1 w Y gR A n c xs b Av m cv r e) (hg : w.grownBy w' (some gR)) {r' : List UInt8} {e' : Nat} (hr : RSt w' gR A n c xs r' e') : GSt B1 w1 w' Y gR A n c xs b Av m cv r' e' :=
  ⟨h.gB.grown hg h.bw (fun q hq => by injection hq; have := h.r1; omega), h.hx, h.n9, h.b1, h.y1, h.r1, h.ne, h.y.grown hg (fun x => by injection x with x; exact h.ne x.symm),
   h.o.grown hg (.inr (by obtain ⟨_, _, k, _⟩ := h.rd; exact own_ne h.o.2 k (by decide))), hr, h.sh⟩
theorem GSt.int (h : GSt B1 w1 w Y gR A n c xs b Av m cv r e) {z : Nat} {rz : List UInt8} {ez : Nat} (hI : Vint.intM r e = (z, rz, ez)) :
    Calls Try.prog 76 #[.pointer (some ⟨gR, 0, none⟩)] w (fun x w' => x = .returned (.int .i64 (z : Nat)) ∧ GSt B1 w1 w' Y gR A n c xs b Av m cv rz ez) := by
  have := rint_m gR A n c B1 xs r e w h.rd (h.hx.below h.gB) h.n9
  refine this.mono ?_
  rintro x w' ⟨h1, h2, h3⟩
  rw [hI] at h1 h3
  exact ⟨h1, h.grownR h2 h3⟩
theorem GSt.fail (h : GSt B1 w1 w Y gR A n c xs b Av m cv r e) (y : Nat) :
    Calls Try.prog 77 #[.pointer (some ⟨gR, 0, none⟩), .int .i64 (y : Nat)] w (fun x w' => x = .returned (.tuple #[]) ∧ GSt B1 w1 w' Y gR A n c xs b Av m cv r (if e = 0 then y else e)) := by
  have := rfail_m gR y A n c xs r e w h.rd
  refine this.mono ?_
  rintro x w' ⟨h1, h2, h3⟩
  exact ⟨h1, h.grownR h2 h3⟩
theorem GSt.setE (h : GSt B1 w1 w Y gR A n c xs b Av m cv r e) (y : Nat) : GSt B1 w1 (w.setCell ⟨gR, 2, none⟩ (.int .i64 (y : Nat))) Y gR A n c xs b Av m cv r y :=
  h.grownR (set_grown w gR 2 _) (h.rd.setE y)
theorem GSt.grownY (h : GSt B1 w1 w Y gR A n c xs b Av m cv r e) (hg : w.grownBy w' (some Y)) {b' : Bd} {Av' : Option Addr} {m' cv' : Nat} (hy : Blk w' Y 76 (bc b' (.slice Av' m' cv'))) (ho : OwnV 105 w' B1 Av' m' cv' b'.l) (hs : Bo.Shaped b') : GSt B1 w1 w' Y gR A n c xs b' Av' m' cv' r e :=
  ⟨h.gB.grown hg h.bw (fun q hq => by injection hq; have := h.y1; omega), h.hx, h.n9, h.b1, h.y1, h.r1, h.ne, hy, ho, h.rd.grown hg h.ne, hs⟩
theorem GSt.ownY (h : GSt B1 w1 w Y gR A n c xs b Av m cv r e) (hg : w.grownBy w' (some Y)) : OwnV 105 w' B1 Av m cv b.l := h.o.grown hg (.inr (own_ne h.o.2 h.y (by decide)))
theorem GSt.setp (h : GSt B1 w1 w Y gR A n c xs b Av m cv r e) {i j : Nat} (hi : i < 8) (hj : j < 3) {q : La} {x : Int} (hq : pc q = (pc (b.p.getD i (0, 0, 0))).set j (.int .i64 x)) :
    GSt B1 w1 (w.setCell ⟨Y, 16 + i * 3 + j, none⟩ (.int .i64 x)) Y gR A n c xs { b with p := b.p.set i q } Av m cv r e :=
  h.grownY (set_grown w Y _ _) (by have := h.y.set_ (16 + i * 3 + j) (.int .i64 x); rwa [bc_setp h.sh hi hj hq] at this) (h.ownY (set_grown w Y _ _)) ⟨h.sh.t, by rw [List.length_set]; exact h.sh.p, h.sh.u⟩
theorem GSt.setu (h : GSt B1 w1 w Y gR A n c xs b Av m cv r e) {i : Nat} (hi : i < 8) (x : Int) :
    GSt B1 w1 (w.setCell ⟨Y, 40 + i, none⟩ (.int .i64 x)) Y gR A n c xs { b with u := b.u.set i x } Av m cv r e :=
  h.grownY (set_grown w Y _ _) (by have := h.y.set_ (40 + i) (.int .i64 x); rwa [bc_setu h.sh hi] at this) (h.ownY (set_grown w Y _ _)) ⟨h.sh.t, h.sh.p, by rw [List.length_set]; exact h.sh.u⟩
theorem GSt.below (h : GSt B1 w1 w Y gR A n c xs b Av m cv r e) (hb : Below w.heap.size w w') : GSt B1 w1 w' Y gR A n c xs b Av m cv r e :=
  ⟨h.gB.trans (hb.mono h.bw), h.hx, h.n9, h.b1, h.y1, h.r1, h.ne, h.y.below hb h.y.lt, h.o.below hb (Nat.le_refl _), h.rd.below hb, h.sh⟩
theorem GSt.cp (h : GSt B1 w1 w Y gR A n c xs b Av m cv r e) {i j : Nat} (hi : i < 8) (hj : j < 3) : w.cell? ⟨Y, 16 + i * 3 + j, none⟩ = (pc (b.p.getD i (0, 0, 0)))[j]? := by
  rw [h.y.cell, Nat.add_assoc, bc_p h.sh (by omega), plansC_at _ i j (by rw [h.sh.p]; exact hi) hj]
theorem GSt.cu (h : GSt B1 w1 w Y gR A n c xs b Av m cv r e) {i : Nat} (hi : i < 8) : w.cell? ⟨Y, 40 + i, none⟩ = some (.int .i64 (b.u.getD i 0)) := by
  rw [h.y.cell, bc_n h.sh (by omega)]
  unfold uc
  rw [List.getElem?_toArray, List.getElem?_append_left (by rw [List.length_map, h.sh.u]; exact hi), List.getElem?_map, List.getD_eq_getElem?_getD, List.getElem?_eq_getElem (by rw [h.sh.u]; exact hi)]
  rfl
end
end Go.Proofs.Ytocoohpekpkmkaa

/- The walk of the document's Note of boards. -/
namespace Go.Proofs.Ytocoohpekpkmkaa
set_option linter.unusedVariables false
set_option linter.unusedSimpArgs false
set_option maxRecDepth 100000
open Go.RowKit
open Reg (La Vl)
/-- the end of a call of the document's that gives a board and an error's number -/
def GiveBR (w : World) (x : Bd) (k : Int) (e : Ending) (w' : World) : Prop := ∃ q, e = .returned (.tuple #[q, .int .i64 k]) ∧ FrBo x q w' ∧ Below w.heap.size w w'
set_option maxHeartbeats 1600000 in
theorem brnote_any (b : Bd) (hs : Bo.Shaped b) (nd v : Int) (q : Value) (w : World) (hq : FrBo b q w) : Calls Try.prog 42 #[q, .int .i64 nd, .int .i64 v] w (GiveBR w (Bo.note b nd v).1 (Bo.note b nd v).2) := by
  obtain ⟨x, k, hx⟩ : ∃ x k, Bo.note b nd v = (x, k) := ⟨_, _, rfl⟩
  rw [hx]
  have HX := Lib.hid hx
  clear hx
  obtain ⟨A, m, c, rfl, hr, hm⟩ := hq
  obtain ⟨R, hR⟩ : ∃ R, R = Bo.rightB b := ⟨_, rfl⟩
  have HRT := Lib.hid fun (w' : World) (hb : Below w.heap.size w w') => (hR ▸ brright_any b hs (.agg (bc b (.slice A m c))) w' ⟨A, m, c, rfl, (hr.below hb).size, hm⟩ : Calls Try.prog _ _ w' (GiveBo w' R))
  have HS := Lib.hid hs
  have HR := Lib.hid hR
  have h49 := Lib.hid (bc_size (s := .slice A m c) hs)
  have z49 := Lib.hid (bc_size (s := .slice none 0 0) Bo.zero_shaped)
  have o49 := Lib.hid (bc_one (b := Bo.zero) (s := .slice none 0 0) rfl)
  have HBD := Lib.hid fun (w : World) => (show (Instr.build 76 #[]).run Try.prog w = .ok (.agg (bc Bo.zero (.slice none 0 0))) w by kernel_rfl)
  have HRV := Lib.hid fun (w' : World) (hb : Below w.heap.size w w') => hr.below hb
  have HM := Lib.hid hm
  clear hR hr hm hs
  go_enter Try.func42, Try.ntmps42
  go_upto_region 1 with fail
  refine nameW ?_
  intro wv hwv
  obtain ⟨g, hg⟩ : ∃ g, g = w.heap.size := ⟨_, rfl⟩
  rw [← hg]
  have k0 : Blk wv g 76 (bc b (.slice A m c)) := by rw [hwv, hg]; exact (Blk.new w _ _).alloc _
  have kz : Blk wv (g + 1) 76 (bc Bo.zero (.slice none 0 0)) := by
    have h := Blk.new (w.alloc (.cells (bc b (.slice A m c)) 76)) 76 (bc Bo.zero (.slice none 0 0))
    rw [zbo] at h ⊢
    rw [hwv, hg]
    simpa using h
  have gb : Below w.heap.size w wv := by rw [hwv]; exact ((Below.refl _ _).alloc (Nat.le_refl _) _).alloc (by simp) _
  have HG := Lib.hid hg
  clear hwv hg
  go_wp2_with ((with_reducible refine wpList_ld rowRBo k0 h49.out ?_ ?_); rotate_left; (rfl))
  refine (HRT.out wv gb).mono ?_
  rintro e w1 ⟨rfl, b1⟩
  have k0 := k0.below b1 k0.lt
  have kz := kz.below b1 kz.lt
  have gb := gb.trans (b1.mono gb.size)
  clear b1
  by_cases hbad : R = false ∨ v < 0
  · have HN := Lib.hid (show Bo.note b nd v = (Bo.zero, 2) by unfold Bo.note; rw [if_pos (by rcases hbad with h | h; exact .inl (by rw [← HR.out]; exact h); exact .inr h)])
    have hxk : Bo.zero = x ∧ 2 = k := by
      have := HX.out
      rw [HN.out] at this
      injection this with h1 h2
      exact ⟨h1, h2⟩
    obtain ⟨rfl, rfl⟩ := hxk
    cases R
    all_goals
      first
        | (have hv : v < 0 := by (rcases hbad with h | h; cases h; exact h))
        | skip
      clear hbad
      go_wp2_with first
        | ((refine wpList_bdV (v := .agg (bc Bo.zero (.slice none 0 0))) (w' := _) rfl 76 #[] rfl ?_ ?_); (simp only [List.map_toArray, List.map_nil]; exact HBD.out _))
        | ((with_reducible refine wpList_st rowRBo kz z49.out z49.out o49.out ?_ ?_ ?_); rotate_left; (rfl); (rfl); intro w5 k5 g5 z5)
      exact bodyPost_ret (v := .tuple #[.agg (bc Bo.zero (.slice none 0 0)), .int .i64 2]) (results_blk2 rfl rowRBo k5 z49.out rfl rfl) rfl ⟨_, rfl, ⟨none, 0, 0, rfl, RdV.nil _ _ _, by omega⟩, gb.grown g5 gb.size (fun q hq => by injection hq; have := HG.out; omega)⟩
  · obtain rfl : R = true := by
      cases R with
      | true => rfl
      | false => exact absurd (.inl rfl) hbad
    have hv : ¬ v < 0 := fun h => hbad (.inr h)
    have HV := Lib.hid hv
    clear hbad
    obtain ⟨u', l', kt, ht⟩ : ∃ u' l' kt, Reg.putM b.u b.l nd v = ((u', l'), kt) := ⟨_, _, _, rfl⟩
    have had := fun (w' : World) (hb : Below w.heap.size w w') => rputF (U := b.u) (l := b.l) HS.out.u nd v (q := .agg (uc b.u (.slice A m c))) (w := w') ⟨A, m, c, rfl, (HRV.out w' hb).size, HM.out⟩
    rw [ht] at had
    have HAD := Lib.hid had
    have HT := Lib.hid ht
    have u8 : u'.length = 8 := by
      have := putM_len8 HS.out.u b.l nd v
      rwa [ht] at this
    have U8 := Lib.hid u8
    have S9 := Lib.hid (uc_size HS.out.u (.slice A m c))
    clear had ht u8
    go_wp2_with ((with_reducible refine wpList_ldr rowRM (k0.notes HS.out) S9.out ?_ ?_); rotate_left; (rfl))
    refine (HAD.out w1 gb).mono ?_
    rintro e w4 ⟨_, rfl, ⟨A2, m2, c2, rfl, o2, hm2⟩, b1⟩
    have k0 := k0.below b1 k0.lt
    have kz := kz.below b1 kz.lt
    have gb := gb.trans (b1.mono gb.size)
    have HM2 := Lib.hid hm2
    have N9 := Lib.hid (uc_size U8.out (.slice A2 m2 c2))
    have O9 := Lib.hid (uc_one (U := u') (s := .slice A2 m2 c2) rfl)
    clear b1 hm2 HAD HRT
    go_upto_region 4 with ((with_reducible refine wpList_st rowRM (Blk.new _ _ _) N9.out ?_ O9.out ?_ ?_ ?_); (rfl); rotate_left; (rfl); (rfl); intro w5 kq g5 z5)
    have bq : Below w4.heap.size w4 w5 := new_below g5
    have k0 := k0.below bq k0.lt
    have kz := kz.below bq kz.lt
    have o2 := o2.below bq (Nat.le_refl _)
    have gb := gb.trans (bq.mono gb.size)
    clear g5 z5 bq
    by_cases hkt : kt = 0
    case neg =>
      have hxk : Bo.zero = x ∧ kt = k := by
        have := HX.out
        unfold Bo.note at this
        rw [if_neg (by rw [← HR.out]; simp [HV.out]), if_pos (by rw [HT.out]; exact hkt), HT.out] at this
        injection this with h1 h2
        exact ⟨h1, h2⟩
      obtain ⟨rfl, rfl⟩ := hxk
      have hq : (kt != 0) = true := by simpa using hkt
      clear HX HT
      go_wp2_with first
        | ((refine wpList_bdV (v := .agg (bc Bo.zero (.slice none 0 0))) (w' := _) rfl 76 #[] rfl ?_ ?_); (simp only [List.map_toArray, List.map_nil]; exact HBD.out _))
        | ((with_reducible refine wpList_st rowRBo kz z49.out z49.out o49.out ?_ ?_ ?_); rotate_left; (rfl); (rfl); intro w6 k6 g6 z6)
      exact bodyPost_ret (v := .tuple #[.agg (bc Bo.zero (.slice none 0 0)), .int .i64 kt]) (results_blk2 rfl rowRBo k6 z49.out rfl rfl) rfl ⟨_, rfl, ⟨none, 0, 0, rfl, RdV.nil _ _ _, by omega⟩, gb.grown g6 gb.size (fun q hq => by injection hq; have := HG.out; omega)⟩
    case pos =>
    subst hkt
    have hxk : ({ b with u := u', l := l' } : Bd) = x ∧ 0 = k := by
      have := HX.out
      unfold Bo.note at this
      rw [if_neg (by rw [← HR.out]; simp [HV.out]), if_neg (by rw [HT.out]; simp), HT.out] at this
      injection this with h1 h2
      exact ⟨h1, h2⟩
    obtain ⟨hx1, rfl⟩ := hxk
    have hth := k0.there_ (o := 40) (n := 9) (by rw [h49.out]; omega)
    go_upto_region 7 with first
      | ((with_reducible refine wpList_ld rowRM kq N9.out ?_ ?_); rotate_left; (rfl))
      | ((with_reducible refine wpList_str rowRM hth N9.out O9.out ?_ ?_ ?_); rotate_left; (rfl); (rfl); intro w7 hw7)
    have gS := cells_grown w5 g 40 (uc u' (.slice A2 m2 c2)).toList
    rw [← hw7] at gS
    have kb := k0.setN HS.out (l := l') (s' := .slice A2 m2 c2) U8.out
    have kb : Blk w7 g 76 (bc x (.slice A2 m2 c2)) := by rw [hw7, ← hx1]; exact kb
    have o7 := o2.grown gS (.inr (own_ne o2.2 k0 (by decide)))
    have kz := kz.grown gS (by intro e; injection e with e; omega)
    have gb := gb.grown gS gb.size (fun q hq => by injection hq; have := HG.out; omega)
    have hxs : Bo.Shaped x := by rw [← hx1]; exact ⟨HS.out.t, HS.out.p, U8.out⟩
    have hxl : x.l = l' := by rw [← hx1]
    rw [← hxl] at o7
    have X49 := Lib.hid (bc_size (s := .slice A2 m2 c2) hxs)
    have X1 := Lib.hid (bc_one (b := x) (s := .slice A2 m2 c2) rfl)
    clear gS hw7 hth k0 kq o2 hx1 hxl hxs
    go_wp2_with first
      | ((with_reducible refine wpList_ld rowRBo kb X49.out ?_ ?_); rotate_left; (rfl))
      | ((with_reducible refine wpList_st rowRBo kz X49.out z49.out X1.out ?_ ?_ ?_); rotate_left; (rfl); (rfl); intro w8 k8 g8 z8)
    have o8 := o7.grown g8 (.inr (own_ne o7.2 kz (by decide)))
    exact bodyPost_ret (v := .tuple #[.agg (bc x (.slice A2 m2 c2)), .int .i64 0]) (results_blk2 rfl rowRBo k8 X49.out rfl rfl) rfl ⟨_, rfl, ⟨A2, m2, c2, rfl, o8.rd, HM2.out⟩, gb.grown g8 gb.size (fun q hq => by injection hq; have := HG.out; omega)⟩
end Go.Proofs.Ytocoohpekpkmkaa

/- How the document's reading goes on, step by step. -/
namespace Go.Proofs.Ytocoohpekpkmkaa
set_option linter.unusedVariables false
set_option linter.unusedSimpArgs false
open Go.RowKit
open Reg (La Vl)
namespace Bo
theorem intM_cases (r : List UInt8) (e : Nat) : (e ≠ 0 ∧ Vint.intM r e = (0, r, e)) ∨ (e = 0 ∧ ((∃ y, Vint.dec r = .error y ∧ y ≠ 0 ∧ Vint.intM r e = (0, r, y)) ∨ (∃ z r', Vint.dec r = .ok (z, r') ∧ Vint.intM r e = (z, r', 0)))) := by
  by_cases he : e = 0
  · subst he
    refine .inr ⟨rfl, ?_⟩
    cases hd : Vint.dec r with
    | error y => exact .inl ⟨y, rfl, dec_ne hd, intM_e hd⟩
    | ok q => exact .inr ⟨q.1, q.2, rfl, Vint.intM_ok hd⟩
  · exact .inl ⟨he, intM_err he⟩
section
variable {GX : Except Nat Bd} {xs : List UInt8} {b : Bd} {r r0 r1 ra rd rf : List UInt8} {e z ez k last m a d f ea ed ef j : Nat} {rz : List UInt8}
theorem seenRel (h : (e = 0 ∧ GX = contS xs b k r) ∨ (e ≠ 0 ∧ GX = .error e)) (hk : k < 8) (hI : Vint.intM r e = (z, rz, ez)) : (ez = 0 ∧ GX = contS xs { b with u := b.u.set k (z : Nat) } (k + 1) rz) ∨ (ez ≠ 0 ∧ GX = .error ez) := by
  rcases intM_cases r e with ⟨h1, h2⟩ | ⟨h1, ⟨y, h2, h3, h4⟩ | ⟨z', r', h2, h4⟩⟩
  · rw [h2] at hI
    injection hI with i1 i2
    injection i2 with i2 i3
    subst i1 i2 i3
    rcases h with ⟨h, _⟩ | h
    · exact absurd h h1
    · exact .inr h
  · subst h1
    rw [h4] at hI
    injection hI with i1 i2
    injection i2 with i2 i3
    subst i1 i2 i3
    rcases h with ⟨_, h⟩ | ⟨h, _⟩
    · exact .inr ⟨h3, by rw [h, contS_err hk h2]⟩
    · exact absurd rfl h
  · subst h1
    rw [h4] at hI
    injection hI with i1 i2
    injection i2 with i2 i3
    subst i1 i2 i3
    rcases h with ⟨_, h⟩ | ⟨h, _⟩
    · exact .inl ⟨rfl, by rw [h, contS_on hk h2]⟩
    · exact absurd rfl h
theorem numRel (h : (e = 0 ∧ GX = contC xs b r) ∨ (e ≠ 0 ∧ GX = .error e)) (hI : Vint.intM r e = (z, rz, ez)) : (ez = 0 ∧ GX = (if z ≤ 8 then contV xs b z rz else .error 6)) ∨ (ez ≠ 0 ∧ GX = .error ez ∧ z = 0) := by
  rcases intM_cases r e with ⟨h1, h2⟩ | ⟨h1, ⟨y, h2, h3, h4⟩ | ⟨z', r', h2, h4⟩⟩
  · rw [h2] at hI
    injection hI with i1 i2
    injection i2 with i2 i3
    subst i1 i2 i3
    rcases h with ⟨h, _⟩ | ⟨h, h'⟩
    · exact absurd h h1
    · exact .inr ⟨h, h', rfl⟩
  · subst h1
    rw [h4] at hI
    injection hI with i1 i2
    injection i2 with i2 i3
    subst i1 i2 i3
    rcases h with ⟨_, h⟩ | ⟨h, _⟩
    · exact .inr ⟨h3, by rw [h, contC_err h2], rfl⟩
    · exact absurd rfl h
  · subst h1
    rw [h4] at hI
    injection hI with i1 i2
    injection i2 with i2 i3
    subst i1 i2 i3
    rcases h with ⟨_, h⟩ | ⟨h, _⟩
    · refine .inl ⟨rfl, ?_⟩
      by_cases hn : z' ≤ 8
      · rw [if_pos hn, h, contC_on h2 hn]
      · rw [if_neg hn, h, contC_long h2 hn]
    · exact absurd rfl h
theorem planRel (hC : GX = contP xs b (k + 1) last r0) (hd : Vint.dec r0 = .ok (m, r1)) (hm : m ≠ 0) (hlm : last < m ∧ m ≤ 8) (h1 : Vint.intM r1 0 = (a, ra, ea)) (h2 : Vint.intM ra ea = (d, rd, ed)) (h3 : Vint.intM rd ed = (f, rf, ef)) :
    (ef = 0 ∧ GX = contP xs { b with p := b.p.set (m - 1) ((a : Nat), (d : Nat), (f : Nat)) } k m rf) ∨ (ef ≠ 0 ∧ GX = .error ef) := by
  have hs := stepP_int (m - 1) b.p r1
  simp only [h1, h2, h3] at hs
  by_cases he : ef = 0
  · subst he
    simp only [ne_eq, not_true_eq_false, if_false] at hs
    refine .inl ⟨rfl, ?_⟩
    rw [hC]
    exact contP_on (by rw [rowsC_ok hd]; exact rowsE_C hm hlm hs)
  · rw [if_pos he] at hs
    exact .inr ⟨he, by rw [hC]; exact contP_err (by rw [rowsC_ok hd]; exact rowsE_step _ _ _ _ hm hlm hs)⟩
theorem valRel (hC : GX = contV xs b (j + 1) r) (h1 : Vint.intM r 0 = (a, ra, ea)) (h2 : Vint.intM ra ea = (d, rd, ed)) (h3 : Vint.intM rd ed = (f, rf, ef)) :
    (ef = 0 ∧ GX = contV xs { b with l := b.l ++ [(((a : Int), (d : Int), (f : Int)) : Vl)] } j rf) ∨ (ef ≠ 0 ∧ GX = .error ef) := by
  have hs := valE_int r
  simp only [h1, h2, h3] at hs
  by_cases he : ef = 0
  · subst he
    simp only [ne_eq, not_true_eq_false, if_false] at hs
    exact .inl ⟨rfl, by rw [hC, contV_on hs]⟩
  · rw [if_pos he] at hs
    exact .inr ⟨he, by rw [hC, contV_err hs]⟩
theorem contP_stop (hC : GX = contP xs b (k + 1) last r0) (hd : Vint.dec r0 = .ok (0, r1)) : GX = contS xs b 0 r1 := by
  rw [hC]
  exact contP_end (by rw [rowsC_ok hd, rowsE_end])
theorem contP_bad (hC : GX = contP xs b (k + 1) last r0) (hd : Vint.dec r0 = .ok (m, r1)) (hm : m ≠ 0) (hlm : ¬ (last < m ∧ m ≤ 8)) : GX = .error 4 := by
  rw [hC]
  exact contP_err (by rw [rowsC_ok hd, rowsE_bad _ _ _ _ _ hm hlm])
theorem contP_num {y : Nat} (hC : GX = contP xs b (k + 1) last r0) (hd : Vint.dec r0 = .error y) : GX = .error y := by
  rw [hC]
  exact contP_err (rowsC_err hd)
end
end Bo
section
variable {B1 : Nat} {w1 w w' : World} {Y gR : Nat} {A : Option Addr} {n c : Nat} {xs : List UInt8} {b : Bd} {Av : Option Addr} {m cv : Nat} {r : List UInt8} {e : Nat}
theorem getD_set {p : List La} {i : Nat} (hi : i < p.length) (q : La) : (p.set i q).getD i (0, 0, 0) = q := by
  rw [List.getD_eq_getElem?_getD, List.getElem?_set_self hi]
  rfl
theorem GSt.setp0 (h : GSt B1 w1 w Y gR A n c xs b Av m cv r e) {i : Nat} (hi : i < 8) (x : Int) : ∃ q : La, q.1 = x ∧
    GSt B1 w1 (w.setCell ⟨Y, 16 + i * 3, none⟩ (.int .i64 x)) Y gR A n c xs { b with p := b.p.set i q } Av m cv r e :=
  ⟨(x, (b.p.getD i (0, 0, 0)).2.1, (b.p.getD i (0, 0, 0)).2.2), rfl, h.setp (j := 0) hi (by omega) rfl⟩
theorem GSt.setp1 {i : Nat} {q : La} (h : GSt B1 w1 w Y gR A n c xs { b with p := b.p.set i q } Av m cv r e) (hp : b.p.length = 8) (hi : i < 8) (y : Int) : ∃ q' : La, q'.1 = q.1 ∧ q'.2.1 = y ∧
    GSt B1 w1 (w.setCell ⟨Y, 16 + i * 3 + 1, none⟩ (.int .i64 y)) Y gR A n c xs { b with p := b.p.set i q' } Av m cv r e := by
  refine ⟨(q.1, y, q.2.2), rfl, rfl, ?_⟩
  have := h.setp (j := 1) (q := (q.1, y, q.2.2)) (x := y) hi (by omega) (by rw [getD_set (by rw [hp]; exact hi)]; rfl)
  simpa [List.set_set] using this
theorem GSt.setp2 {i : Nat} {q : La} (h : GSt B1 w1 w Y gR A n c xs { b with p := b.p.set i q } Av m cv r e) (hp : b.p.length = 8) (hi : i < 8) (z : Int) :
    GSt B1 w1 (w.setCell ⟨Y, 16 + i * 3 + 2, none⟩ (.int .i64 z)) Y gR A n c xs { b with p := b.p.set i (q.1, q.2.1, z) } Av m cv r e := by
  have := h.setp (j := 2) (q := (q.1, q.2.1, z)) (x := z) hi (by omega) (by rw [getD_set (by rw [hp]; exact hi)]; rfl)
  simpa [List.set_set] using this
/-- a cell of the plans is there, and free -/
theorem GSt.at_p (h : GSt B1 w1 w Y gR A n c xs b Av m cv r e) {i j : Nat} (hi : i < 8) (hj : j < 3) : (∃ v, w.cell? ⟨Y, 16 + i * 3 + j, none⟩ = some v) ∧ w.frozen? ⟨Y, 16 + i * 3 + j, none⟩ = false := by
  refine ⟨⟨_, (h.y.cell _).trans (Array.getElem?_eq_getElem (by rw [bc_size h.sh]; omega))⟩, h.y.free _⟩
theorem GSt.intG (h : GSt B1 w1 w Y gR A n c xs b Av m cv r e) {z : Nat} {rz : List UInt8} {ez : Nat} (hI : Vint.intM r e = (z, rz, ez)) :
    Calls Try.prog 76 #[.pointer (some ⟨gR, 0, none⟩)] w (fun x w' => x = .returned (.int .i64 (z : Nat)) ∧ GSt B1 w1 w' Y gR A n c xs b Av m cv rz ez ∧ w.grownBy w' (some gR)) := by
  have := rint_m gR A n c B1 xs r e w h.rd (h.hx.below h.gB) h.n9
  refine this.mono ?_
  rintro x w' ⟨h1, h2, h3⟩
  rw [hI] at h1 h3
  exact ⟨h1, h.grownR h2 h3, h2⟩
theorem GSt.farV (h : GSt B1 w1 w Y gR A n c xs b Av m cv r e) {q i : Nat} (h1 : B1 ≤ q) (h2 : Y ≠ q) (h3 : gR ≠ q) (h4 : Av.map (·.block) ≠ some q) (v : Value) : GSt B1 w1 (w.setCell ⟨q, i, none⟩ v) Y gR A n c xs b Av m cv r e :=
  ⟨h.gB.setCell (p := ⟨q, i, none⟩) h1 v, h.hx, h.n9, h.b1, h.y1, h.r1, h.ne, h.y.far (p := ⟨q, i, none⟩) h2 v, h.o.setFar (p := ⟨q, i, none⟩) h4 v, h.rd.far (p := ⟨q, i, none⟩) h3 v, h.sh⟩
/-- a value more -/
theorem GSt.more (h : GSt B1 w1 w Y gR A n c xs b Av m cv r e) {w2 : World} {Av' : Option Addr} {cv' : Nat} {v : Vl} (ho : OwnV 105 w2 B1 Av' (m + 1) cv' (b.l ++ [v])) (hb : Below w.heap.size w w') (hg : w'.grownBy w2 (Av.map (·.block))) (hB : Below B1 w' w2) :
    GSt B1 w1 (w2.setCell ⟨Y, 48, none⟩ (.slice Av' (m + 1) cv')) Y gR A n c xs { b with l := b.l ++ [v] } Av' (m + 1) cv' r e := by
  have h' := h.below hb
  have ky := h'.y.grown hg (own_ne h'.o.2 h'.y (by decide))
  have hr : RSt w2 gR A n c xs r e := h'.rd.map fun t cs k => k.grown hg (by
    obtain ⟨_, _, k2, _⟩ := h'.rd
    exact own_ne h'.o.2 k2 (by decide))
  have hs : Bo.Shaped { b with l := b.l ++ [v] } := ⟨h.sh.t, h.sh.p, h.sh.u⟩
  have k48 := ky.set_ 48 (.slice Av' (m + 1) cv')
  rw [bc_set48 h.sh] at k48
  exact ⟨(h'.gB.trans hB).setCell (p := ⟨Y, 48, none⟩) h.y1 _, h.hx, h.n9, h.b1, h.y1, h.r1, h.ne, k48, ho.setFar (p := ⟨Y, 48, none⟩) (own_ne ho.2 ky (by decide)) _, hr.far (p := ⟨Y, 48, none⟩) (fun x => h.ne x.symm) _, hs⟩
end
end Go.Proofs.Ytocoohpekpkmkaa

/- The walk of the document's Get of boards. -/
namespace Go.Proofs.Ytocoohpekpkmkaa
set_option linter.unusedVariables false
set_option linter.unusedSimpArgs false
set_option maxRecDepth 100000
open Go.RowKit
open Reg (La Vl)
set_option maxHeartbeats 4000000 in
theorem brget_any (A : Option Addr) (n c : Nat) (bs : List UInt8) (w0 : World) (hb : RdB w0 w0.heap.size A n bs) (hl : n ≤ 1000000) (hc : n ≤ c) (hm : c ≤ maxLen) :
    Calls Try.prog 38 #[.slice A n c] w0 (GiveBR w0 (getBo bs).1 (getBo bs).2) := by
  obtain ⟨G, hG⟩ : ∃ G, G = getBo bs := ⟨_, rfl⟩
  rw [← hG]
  have HC := Lib.hid fun (w : World) (h : Below w0.heap.size w0 w) => Frame.rget_any A n c bs w0.heap.size w (hb.below h) h.size (by omega) hc hm
  have hblen : bs.length ≤ 1000000 := by rw [← hb.1]; exact hl
  have HBL := Lib.hid hblen
  have HG := Lib.hid hG
  have z49 := Lib.hid (bc_size (s := .slice none 0 0) Bo.zero_shaped)
  have o49 := Lib.hid (bc_one (b := Bo.zero) (s := .slice none 0 0) rfl)
  have HBD := Lib.hid fun (w : World) => (show (Instr.build 76 #[]).run Try.prog w = .ok (.agg (bc Bo.zero (.slice none 0 0))) w by kernel_rfl)
  clear hG hb hl hc hm hblen
  go_enter Try.func38, Try.ntmps38
  go_upto_region 1 with fail
  refine nameW ?_
  intro wv hwv
  obtain ⟨g, hg⟩ : ∃ g, g = w0.heap.size := ⟨_, rfl⟩
  rw [← hg]
  have kz : Blk wv g 76 (bc Bo.zero (.slice none 0 0)) := by
    have h := Blk.new w0 76 (bc Bo.zero (.slice none 0 0))
    rw [zbo] at h ⊢
    rw [hwv, hg]
    exact h
  have gb : Below w0.heap.size w0 wv := by rw [hwv]; exact (Below.refl _ _).alloc (Nat.le_refl _) _
  have HGG := Lib.hid hg
  clear hwv hg
  go_wp2_with fail
  refine (HC.out wv gb).mono ?_
  unfold Frame.RGetF
  rintro e w1 ⟨b1, hx⟩
  have kz := kz.below b1 kz.lt
  have gb := gb.trans (b1.mono gb.size)
  cases hd : Frame.dec bs with
  | error y =>
    rw [hd] at hx
    subst hx
    have hgo : G = (Bo.zero, y) := by rw [HG.out, getBo_err (getE_dec hd)]
    subst hgo
    have hny : y ≠ 0 := by
      have := Frame.dec_err hd
      omega
    have hq : (((y : Nat) : Int) != 0) = true := by rw [bne_iff_ne]; omega
    clear hd b1 HG
    go_wp2_with first
      | ((refine wpList_bdV (v := .agg (bc Bo.zero (.slice none 0 0))) (w' := _) rfl 76 #[] rfl ?_ ?_); (simp only [List.map_toArray, List.map_nil]; exact HBD.out _))
      | ((with_reducible refine wpList_st rowRBo kz z49.out z49.out o49.out ?_ ?_ ?_); rotate_left; (rfl); (rfl); intro w6 k6 g6 z6)
    exact bodyPost_ret (v := .tuple #[.agg (bc Bo.zero (.slice none 0 0)), .int .i64 (y : Nat)]) (results_blk2 rfl rowRBo k6 z49.out rfl rfl) rfl ⟨_, rfl, ⟨none, 0, 0, rfl, RdV.nil _ _ _, by omega⟩, gb.grown g6 gb.size (fun q hq => by injection hq; have := HGG.out; omega)⟩
  | ok q =>
  obtain ⟨xs, rest⟩ := q
  rw [hd] at hx
  obtain ⟨A4, c4, A5, c5, rfl, o4, o5⟩ := hx
  by_cases hr : rest = []
  rotate_left
  · have hgo : G = (Bo.zero, 4) := by rw [HG.out, getBo_err (getE_rest hd hr)]
    subst hgo
    have hlr : 0 < rest.length := List.length_pos_iff.2 hr
    have hlr' : (0 : Int) < (rest.length : Int) := by omega
    generalize rest.length = lr at *
    clear hd b1 HG o4 o5 hr hlr
    go_wp2_with first
      | ((refine wpList_bdV (v := .agg (bc Bo.zero (.slice none 0 0))) (w' := _) rfl 76 #[] rfl ?_ ?_); (simp only [List.map_toArray, List.map_nil]; exact HBD.out _))
      | ((with_reducible refine wpList_st rowRBo kz z49.out z49.out o49.out ?_ ?_ ?_); rotate_left; (rfl); (rfl); intro w6 k6 g6 z6)
    exact bodyPost_ret (v := .tuple #[.agg (bc Bo.zero (.slice none 0 0)), .int .i64 4]) (results_blk2 rfl rowRBo k6 z49.out rfl rfl) rfl ⟨_, rfl, ⟨none, 0, 0, rfl, RdV.nil _ _ _, by omega⟩, gb.grown g6 gb.size (fun q hq => by injection hq; have := HGG.out; omega)⟩
  subst hr
  have hxl : xs.length ≤ 1000000 := by
    have := Frame.dec_len hd
    have := HBL.out
    omega
  have HXL := Lib.hid hxl
  obtain ⟨GX, hGX⟩ : ∃ GX, GX = Bo.getX xs := ⟨_, rfl⟩
  have HGX := Lib.hid hGX
  have HGO := Lib.hid (show ∀ b, GX = .ok b → G = (b, 0) from fun b h => by rw [HG.out, getBo_ok]; rw [getE_x hd, ← hGX, h])
  have HGE := Lib.hid (show ∀ y, GX = .error y → G = (Bo.zero, y) from fun y h => by rw [HG.out, getBo_err]; rw [getE_x hd, ← hGX, h])
  have RX := Lib.hid (show RdB w1 w1.heap.size A4 xs.length xs from o4.rd)
  have hgw : g < w1.heap.size := kz.lt
  have KZ := Lib.hid fun (w : World) (h : Below w1.heap.size w1 w) => kz.below h hgw
  have GB := Lib.hid gb
  have HRA := Lib.hid (show ∀ (w : World) (r : Nat), 0 = 0 → True from fun _ _ _ => trivial)
  clear hGX hd b1 HG o4 o5 kz gb HRA hxl
  go_upto_region 8 with fail
  refine nameW ?_
  intro wv hwv
  obtain ⟨gR, hgR⟩ : ∃ gR, gR = w1.heap.size := ⟨_, rfl⟩
  obtain ⟨Y, hY⟩ : ∃ Y, Y = gR + 1 := ⟨_, rfl⟩
  have kR : Blk wv gR 141 #[.slice A4 xs.length c4, .int .i64 0, .int .i64 0] := by rw [hwv, hgR]; exact (Blk.new w1 _ _).alloc _
  have kY : Blk wv Y 76 (bc Bo.zero (.slice none 0 0)) := by
    have h := Blk.new (w1.alloc (.cells #[.slice A4 xs.length c4, .int .i64 0, .int .i64 0] 141)) 76 (bc Bo.zero (.slice none 0 0))
    rw [zbo] at h ⊢
    rw [hwv, hY, hgR]
    simpa using h
  have gb : Below w1.heap.size w1 wv := by rw [hwv]; exact ((Below.refl _ _).alloc (Nat.le_refl _) _).alloc (by simp) _
  rw [← hgR, ← hY]
  have hR : RSt wv gR A4 xs.length c4 xs xs 0 := ⟨0, Nat.zero_le _, kR, by rw [List.drop_zero]⟩
  have hRd := rtread_any gR A4 xs.length c4 w1.heap.size xs xs wv hR (RX.out.below gb) (by omega) (by have := HXL.out; omega)
  have HN := Lib.hid (show gR < Y ∧ w1.heap.size ≤ gR ∧ w1.heap.size ≤ Y by omega)
  have HRD := Lib.hid hRd
  clear hwv hgR hY hRd kR hR
  go_wp2_with fail
  refine HRD.out.mono ?_
  rintro x w2 ⟨t, rfl, ht, g2, r0, e0, hR, hst⟩
  have kY := kY.grown g2 (fun h => by injection h; have := HN.out; omega)
  have gb := gb.grown g2 gb.size (fun q hq => by injection hq; have := HN.out; omega)
  have hth := kY.there_ (o := 0) (n := 16) (by rw [z49.out]; omega)
  have T16 := Lib.hid (show (tc t).size = 16 by rw [tc_size, ht])
  have T1 := Lib.hid (tc_one t)
  have HT := Lib.hid ht
  have HST0 := Lib.hid hst
  clear g2 HRD ht hst
  go_upto_region 9 with ((with_reducible refine wpList_str rowRT hth T16.out T1.out ?_ ?_ ?_); rotate_left; (rfl); (rfl); intro w3 hw3)
  have gs := cells_grown w2 Y 0 (tc t).toList
  have ky3 := kY.setT Bo.zero_shaped HT.out
  rw [← hw3] at gs ky3
  obtain ⟨b0, hb0⟩ : ∃ b0 : Bd, b0 = ⟨t, Bo.z8l, [0, 0, 0, 0, 0, 0, 0, 0], []⟩ := ⟨_, rfl⟩
  have hbz : ({ Bo.zero with t := t } : Bd) = b0 := by rw [hb0]; rfl
  rw [hbz] at ky3
  have hl0 : b0.l = [] := by rw [hb0]
  have S : GSt w1.heap.size w1 w3 Y gR A4 xs.length c4 xs b0 none 0 0 r0 e0 := ⟨gb.grown gs gb.size (fun q hq => by injection hq; have := HN.out; omega), RX.out, by have := HXL.out; omega, Nat.le_refl _, HN.out.2.2, HN.out.2.1, (by have := HN.out; omega), ky3, by rw [hl0]; exact OwnV.nil _ _ _, hR.grown gs (by have := HN.out; omega), by rw [hb0]; exact ⟨HT.out, rfl, rfl⟩⟩
  have hst : (e0 = 0 ∧ GX = Bo.contP xs b0 9 0 r0) ∨ (e0 ≠ 0 ∧ GX = .error e0) := by
    rcases HST0.out with ⟨h1, h2⟩ | ⟨h1, h2⟩
    · exact .inl ⟨h1, by rw [HGX.out, Bo.getX_P xs h2, hb0]⟩
    · exact .inr ⟨h1, by rw [HGX.out, Bo.getX_T h2]⟩
  have HL0 := Lib.hid hl0
  have HNE := Lib.hid (show Y ≠ gR by have := HN.out; omega)
  clear hw3 gs ky3 hbz hl0 hb0 kY gb hR hth
  go_upto_block 0 with fail
  go_cut [] (fun wx => ∃ (b : Bd) (r : List UInt8) (e : Nat), GSt w1.heap.size w1 wx Y gR A4 xs.length c4 xs b none 0 0 r e ∧ b.l = [] ∧ ((e = 0 ∧ GX = Bo.contS xs b 0 r) ∨ (e ≠ 0 ∧ GX = .error e)))
  case first =>
    go_wp2_with fail
    go_loopw [9] (fun la wr => ∃ (k last : Nat) (b : Bd) (r : List UInt8) (e : Nat), la = .int .i64 (last : Nat) ∧ last ≤ 8 ∧ 9 ≤ k + last ∧ GSt w1.heap.size w1 wr Y gR A4 xs.length c4 xs b none 0 0 r e ∧ b.l = [] ∧ ((e = 0 ∧ GX = Bo.contP xs b k last r) ∨ (e ≠ 0 ∧ GX = .error e))) (fun la _ => 9 - (intOf la).toNat)
    case atStart => exact ⟨9, 0, b0, r0, e0, rfl, by omega, by omega, S, HL0.out, hst⟩
    case round =>
    clear S hst
    obtain ⟨k, last, b, r, e, rfl, hl8, hk9, S, hbl, hst⟩ := hrel
    have HBL' := Lib.hid hbl
    clear hbl
    have cE := S.rd.err
    rcases hst with ⟨rfl, hC⟩ | ⟨hne, hE⟩
    rotate_left
    · have hq : (((e : Nat) : Int) == 0) = false := by rw [beq_eq_false_iff_ne]; omega
      have HE := Lib.hid (And.intro hne hE)
      have HS := Lib.hid S
      clear hne hE S
      go_wp2_with fail
      go_meet
      exact ⟨b, r, e, HS.out, HBL'.out, .inr HE.out⟩
    obtain ⟨k, rfl⟩ : ∃ k', k = k' + 1 := ⟨k - 1, by omega⟩
    have HC3 := Lib.hid hC
    clear hC
    rcases Bo.intM_cases r 0 with ⟨h1, _⟩ | ⟨_, ⟨y, hd, hny, hI⟩ | ⟨m, r1, hd, hI⟩⟩
    · exact absurd rfl h1
    · have HE := Lib.hid (And.intro hny (Bo.contP_num HC3.out hd))
      have HI := Lib.hid hI
      clear hI hd
      go_wp2_with fail
      refine (S.int HI.out).mono ?_
      rintro x w4 ⟨rfl, S4⟩
      have cE := S4.rd.err
      have hq : (((y : Nat) : Int) != 0) = true := by rw [bne_iff_ne]; omega
      have HS := Lib.hid S4
      clear S S4 hny
      go_wp2_with fail
      go_meet
      exact ⟨b, r, y, HS.out, HBL'.out, .inr HE.out⟩
    have HI := Lib.hid hI
    have HD := Lib.hid hd
    clear hI hd
    go_wp2_with fail
    refine (S.int HI.out).mono ?_
    rintro x w4 ⟨rfl, S4⟩
    have cE := S4.rd.err
    clear S
    by_cases hm0 : m = 0
    · subst hm0
      have HE := Lib.hid (Bo.contP_stop HC3.out HD.out)
      have HS := Lib.hid S4
      clear S4
      go_wp2_with fail
      go_meet
      exact ⟨b, r1, 0, HS.out, HBL'.out, .inl ⟨rfl, HE.out⟩⟩
    have hqm : (((m : Nat) : Int) == 0) = false := by rw [beq_eq_false_iff_ne]; omega
    have HM0 := Lib.hid hm0
    clear hm0
    by_cases hlm : last < m ∧ m ≤ 8
    rotate_left
    · have HE := Lib.hid (Bo.contP_bad HC3.out HD.out HM0.out hlm)
      have fE := S4.rd.fr
      have HS := Lib.hid (S4.setE 4)
      clear S4
      by_cases hle : m ≤ last
      · have hle' : (m : Int) ≤ (last : Int) := by omega
        go_wp2_with fail
        go_meet
        exact ⟨b, r1, 4, HS.out, HBL'.out, .inr ⟨by decide, HE.out⟩⟩
      · have hle' : ¬ (m : Int) ≤ (last : Int) := by omega
        have hgt : (8 : Int) < (m : Int) := by omega
        go_wp2_with fail
        go_meet
        exact ⟨b, r1, 4, HS.out, HBL'.out, .inr ⟨by decide, HE.out⟩⟩
    have hle' : ¬ (m : Int) ≤ (last : Int) := by omega
    have hgt : ¬ (8 : Int) < (m : Int) := by omega
    have HLM := Lib.hid hlm
    obtain ⟨p, hp⟩ : ∃ p, p = m - 1 := ⟨_, rfl⟩
    have hp8 : p < 8 := by omega
    have ew : IntKind.i64.wrap ((m : Int) - 1) = (p : Int) := by rw [IntWalk.i64_in _ (by omega)]; omega
    have hp0 : (0 : Int) ≤ (p : Int) := by omega
    have hp1 : (p : Int) < 8 := by omega
    obtain ⟨a, ra, ea, h1⟩ : ∃ a ra ea, Vint.intM r1 0 = (a, ra, ea) := ⟨_, _, _, rfl⟩
    obtain ⟨d, rd, ed, h2⟩ : ∃ d rd ed, Vint.intM ra ea = (d, rd, ed) := ⟨_, _, _, rfl⟩
    obtain ⟨f, rf, ef, h3⟩ : ∃ f rf ef, Vint.intM rd ed = (f, rf, ef) := ⟨_, _, _, rfl⟩
    have hrl := Bo.planRel HC3.out HD.out HM0.out hlm h1 h2 h3
    rw [← hp] at hrl
    have HRL := Lib.hid hrl
    have HI1 := Lib.hid h1
    have HI2 := Lib.hid h2
    have HI3 := Lib.hid h3
    have HPL := Lib.hid S4.sh.p
    clear h1 h2 h3 hrl hp hlm
    go_wp2_with fail
    refine (S4.int HI1.out).mono ?_
    rintro x w5 ⟨rfl, S5⟩
    obtain ⟨⟨v0, c0⟩, f0⟩ := S5.at_p hp8 (j := 0) (by omega)
    have c0 : w5.cell? ⟨Y, 16 + p * 3, none⟩ = some v0 := c0
    have f0 : w5.frozen? ⟨Y, 16 + p * 3, none⟩ = false := f0
    obtain ⟨q1, hq1, S6⟩ := S5.setp0 hp8 (a : Nat)
    clear S4 S5 cE
    generalize hW : w5.setCell ⟨Y, 16 + p * 3, none⟩ (.int .i64 (a : Nat)) = w6 at S6
    have HW := Lib.hid hW
    clear hW
    go_upto_region 17 with fail
    rw [HW.out]
    clear c0 f0 HW
    go_wp2_with fail
    refine (S6.int HI2.out).mono ?_
    rintro x w7 ⟨rfl, S7⟩
    obtain ⟨⟨v1, c1⟩, f1⟩ := S7.at_p hp8 (j := 1) (by omega)
    obtain ⟨q2, hq2, hq3, S8⟩ := S7.setp1 HPL.out hp8 (d : Nat)
    clear S6 S7
    generalize hW : w7.setCell ⟨Y, 16 + p * 3 + 1, none⟩ (.int .i64 (d : Nat)) = w8 at S8
    have HW := Lib.hid hW
    clear hW
    go_upto_region 18 with fail
    rw [HW.out]
    clear c1 f1 HW
    go_wp2_with fail
    refine (S8.int HI3.out).mono ?_
    rintro x w9 ⟨rfl, S9⟩
    obtain ⟨⟨v2, c2⟩, f2⟩ := S9.at_p hp8 (j := 2) (by omega)
    have S10 := S9.setp2 HPL.out hp8 (f : Nat)
    rw [hq3, hq2, hq1] at S10
    have HS := Lib.hid S10
    clear S8 S9 S10 hq1 hq2 hq3
    go_wp2_with fail
    go_roundw
    case rel => exact ⟨k, m, _, rf, ef, by first | rfl | go_num, HLM.out.2, by have := HLM.out; omega, HS.out, HBL'.out, HRL.out⟩
    case measure => simp [intOf]; have := HLM.out; omega
  case rest =>
  obtain ⟨b, r, e, S, hbl, hst⟩ := hcut
  clear HST0
  go_wp2_with fail
  go_loopw [83] (fun i wr => ∃ (k : Nat) (b : Bd) (r : List UInt8) (e : Nat), k ≤ 8 ∧ i = .int .i64 (k : Nat) ∧ GSt w1.heap.size w1 wr Y gR A4 xs.length c4 xs b none 0 0 r e ∧ b.l = [] ∧ ((e = 0 ∧ GX = Bo.contS xs b k r) ∨ (e ≠ 0 ∧ GX = .error e))) (fun i _ => 8 - (intOf i).toNat)
  case atStart => exact ⟨0, b, r, e, by omega, rfl, S, hbl, hst⟩
  case round =>
  clear S hst hbl
  obtain ⟨k, b, r, e, hk, rfl, S, hbl, hst⟩ := hrel
  have HBLb := Lib.hid hbl
  clear hbl
  obtain ⟨z, rz, ez, hI⟩ : ∃ z rz ez, Vint.intM r e = (z, rz, ez) := ⟨_, _, _, rfl⟩
  by_cases hlt : k < 8
  · have HRL := Lib.hid (Bo.seenRel hst hlt hI)
    have HI := Lib.hid hI
    have hk0 : (0 : Int) ≤ (k : Int) := by omega
    have hk1 : (k : Int) < 8 := by omega
    clear hst hI
    go_wp2_with fail
    refine (S.int HI.out).mono ?_
    rintro x w5 ⟨rfl, S5⟩
    have cu := S5.cu hlt
    have fu := S5.y.free (40 + k)
    have HS := Lib.hid (S5.setu hlt (z : Nat))
    clear S S5
    go_wp2_with fail
    go_roundw
    case rel => exact ⟨k + 1, _, rz, ez, by omega, by go_num, HS.out, HBLb.out, HRL.out⟩
    case measure => simp [intOf]; omega
  obtain rfl : k = 8 := by omega
  rw [Bo.contS_end] at hst
  have HNR := Lib.hid (Bo.numRel hst hI)
  have HI := Lib.hid hI
  clear hst hI hlt hk
  go_wp2_with fail
  refine (S.int HI.out).mono ?_
  rintro x w5 ⟨rfl, S5⟩
  clear S
  go_upto_if 96 with fail
  go_cut [] (fun wx => ∃ e2 : Nat, GSt w1.heap.size w1 wx Y gR A4 xs.length c4 xs b none 0 0 rz e2 ∧ ((e2 = 0 ∧ z ≤ 8 ∧ GX = Bo.contV xs b z rz) ∨ (e2 ≠ 0 ∧ GX = .error e2)))
  case first =>
    by_cases hz : 8 < z
    · have hz' : (8 : Int) < (z : Int) := by omega
      have HZ := Lib.hid hz
      clear hz
      go_wp2_with fail
      refine (S5.fail 6).mono ?_
      rintro x w6 ⟨rfl, S6⟩
      have HS := Lib.hid S6
      clear S5 S6
      go_wp2_with fail
      go_meet
      refine ⟨_, HS.out, ?_⟩
      rcases HNR.out with ⟨h1, h2⟩ | ⟨h1, h2, h3⟩
      · rw [if_pos h1]
        exact .inr ⟨by decide, by rw [h2, if_neg (by have := HZ.out; omega)]⟩
      · have := HZ.out
        omega
    · have hz' : ¬ (8 : Int) < (z : Int) := by omega
      have HZ := Lib.hid hz
      have HS := Lib.hid S5
      clear hz S5
      go_wp2_with fail
      go_meet
      refine ⟨ez, HS.out, ?_⟩
      have hz8 : z ≤ 8 := by have := HZ.out; omega
      rcases HNR.out with ⟨h1, h2⟩ | ⟨h1, h2, h3⟩
      · exact .inl ⟨h1, hz8, by rw [h2, if_pos hz8]⟩
      · exact .inr ⟨h1, h2⟩
  case rest =>
  clear S5
  obtain ⟨e2, S, hst⟩ := hcut
  go_upto_block 4 with fail
  go_cut [] (fun wx => ∃ (b : Bd) (Av : Option Addr) (m cv : Nat) (r : List UInt8) (e : Nat), GSt w1.heap.size w1 wx Y gR A4 xs.length c4 xs b Av m cv r e ∧ ((e = 0 ∧ m ≤ 8 ∧ GX = Bo.fin xs b) ∨ (e ≠ 0 ∧ GX = .error e)))
  case first =>
    go_wp2_with fail
    go_loopw [13] (fun i wr => ∃ (j : Nat) (b : Bd) (Av : Option Addr) (m cv : Nat) (r : List UInt8) (e : Nat), i = .int .i64 (j : Nat) ∧ GSt w1.heap.size w1 wr Y gR A4 xs.length c4 xs b Av m cv r e ∧ ((e = 0 ∧ z ≤ 8 ∧ j ≤ z ∧ b.l.length = j ∧ GX = Bo.contV xs b (z - j) r) ∨ (e ≠ 0 ∧ GX = .error e))) (fun i _ => z - (intOf i).toNat)
    case atStart => exact ⟨0, b, none, 0, 0, rz, e2, rfl, S, by
      rcases hst with ⟨h1, h2, h3⟩ | h
      · exact .inl ⟨h1, h2, Nat.zero_le _, by rw [HBLb.out]; rfl, h3⟩
      · exact .inr h⟩
    case round =>
    clear S hst
    obtain ⟨j, b, Av, m, cv, r, e, rfl, S, hst⟩ := hrel
    have cE := S.rd.err
    rcases hst with ⟨rfl, hz8, hjz, hbl, hC⟩ | hE
    rotate_left
    · have hq : (((e : Nat) : Int) == 0) = false := by rw [beq_eq_false_iff_ne]; have := hE.1; omega
      have HE := Lib.hid hE
      have HS := Lib.hid S
      clear hE S
      by_cases hjz : j < z
      · have hjz' : (j : Int) < (z : Int) := by omega
        go_wp2_with fail
        go_meet
        exact ⟨b, Av, m, cv, r, e, HS.out, .inr HE.out⟩
      · have hjz' : ¬ (j : Int) < (z : Int) := by omega
        go_wp2_with fail
        go_meet
        exact ⟨b, Av, m, cv, r, e, HS.out, .inr HE.out⟩
    by_cases hlt : j < z
    rotate_left
    · have hjz' : ¬ (j : Int) < (z : Int) := by omega
      have HE := Lib.hid (show m ≤ 8 ∧ GX = Bo.fin xs b from ⟨by rw [S.o.1]; omega, by rw [hC, show z - j = 0 by omega]; rfl⟩)
      have HS := Lib.hid S
      clear hC S
      go_wp2_with fail
      go_meet
      exact ⟨b, Av, m, cv, r, 0, HS.out, .inl ⟨rfl, HE.out⟩⟩
    have hjz' : (j : Int) < (z : Int) := by omega
    have HLT := Lib.hid hlt
    have hj9 : j ≤ 8 := by omega
    obtain ⟨a, ra, ea, h1⟩ : ∃ a ra ea, Vint.intM r 0 = (a, ra, ea) := ⟨_, _, _, rfl⟩
    obtain ⟨d, rd, ed, h2⟩ : ∃ d rd ed, Vint.intM ra ea = (d, rd, ed) := ⟨_, _, _, rfl⟩
    obtain ⟨f, rf, ef, h3⟩ : ∃ f rf ef, Vint.intM rd ed = (f, rf, ef) := ⟨_, _, _, rfl⟩
    have hC' : GX = Bo.contV xs b (z - (j + 1) + 1) r := by rw [hC, show z - j = z - (j + 1) + 1 by omega]
    have hrl := Bo.valRel hC' h1 h2 h3
    clear hC'
    have HRL := Lib.hid hrl
    have HI1 := Lib.hid h1
    have HI2 := Lib.hid h2
    have HI3 := Lib.hid h3
    have HZ8 := Lib.hid (And.intro hz8 (And.intro hjz hbl))
    have hm8 : m ≤ 8 := by rw [S.o.1]; omega
    have HM8 := Lib.hid hm8
    clear h1 h2 h3 hrl hC hz8 hjz hbl hm8
    go_wp2_with fail
    refine (S.int HI1.out).mono ?_
    rintro x w6 ⟨rfl, S6⟩
    clear S cE
    go_upto_region 31 with ((with_reducible refine wpList_st (cs := #[.int .i64 (a : Nat), .int .i64 0, .int .i64 0]) rowRV (Blk.new _ _ _) (th_size _ _ _) ?_ (th_one _ _ _) ?_ ?_ ?_); (rfl); rotate_left; (rfl); (rfl); intro w7 kq g7 z7)
    have bq := new_below g7
    have hqY : Y < w6.heap.size := S6.y.lt
    have hqR : gR < w6.heap.size := S6.rd.lt
    have hqB : w1.heap.size ≤ w6.heap.size := S6.bw
    have hqA : Av.map (·.block) ≠ some w6.heap.size := fun h => by have := (S6.o.lt _ h).2; omega
    have S7 := S6.below bq
    generalize hQ : w6.heap.size = q at kq hqY hqR hqB hqA
    clear S6 bq g7 z7 hQ
    go_wp2_with fail
    refine (S7.intG HI2.out).mono ?_
    rintro x w8 ⟨rfl, S8, g8⟩
    have kq := kq.grown g8 (fun h => by injection h; omega)
    have c1 := kq.cell 1
    have f1 := kq.free 1
    have S9 := S8.farV (i := 1) hqB (by omega) (by omega) hqA (.int .i64 (d : Nat))
    have kq9 : Blk (w8.setCell ⟨q, 1, none⟩ (.int .i64 (d : Nat))) q 105 #[.int .i64 (a : Nat), .int .i64 (d : Nat), .int .i64 0] := kq.set_ 1 (.int .i64 (d : Nat))
    clear S7 S8 g8
    generalize hW : w8.setCell ⟨q, 1, none⟩ (.int .i64 (d : Nat)) = w9 at S9 kq9
    have HW := Lib.hid hW
    clear hW
    go_upto_region 32 with fail
    rw [HW.out]
    clear c1 f1 HW kq
    go_wp2_with fail
    refine (S9.intG HI3.out).mono ?_
    rintro x w10 ⟨rfl, S10, g10⟩
    have kq := kq9.grown g10 (fun h => by injection h; omega)
    have c2 := kq.cell 2
    have f2 := kq.free 2
    have S11 := S10.farV (i := 2) hqB (by omega) (by omega) hqA (.int .i64 (f : Nat))
    have kq11 : Blk (w10.setCell ⟨q, 2, none⟩ (.int .i64 (f : Nat))) q 105 #[.int .i64 (a : Nat), .int .i64 (d : Nat), .int .i64 (f : Nat)] := kq.set_ 2 (.int .i64 (f : Nat))
    clear S9 S10 g10 kq9
    generalize hW : w10.setCell ⟨q, 2, none⟩ (.int .i64 (f : Nat)) = w11 at S11 kq11
    have HW := Lib.hid hW
    clear hW
    go_upto_region 33 with fail
    rw [HW.out]
    clear c2 f2 HW kq
    have t48 : w11.cell? ⟨Y, 48, none⟩ = some (.slice Av m cv) := (S11.y.cell 48).trans (bc_last S11.sh)
    have hle1 : m + 1 ≤ 1000000000000 := by have := HM8.out; omega
    have hGW : w1.heap.size ≤ w11.heap.size := S11.bw
    have HSO := Lib.hid (S11.o.alloc (.cells #[.int .i64 (a : Nat), .int .i64 (d : Nat), .int .i64 (f : Nat)] 105))
    go_wp2_with first
      | ((with_reducible refine wpList_ld rowRV kq11 (th_size _ _ _) ?_ ?_); rotate_left; (rfl))
      | (at_builtin; refine wpList_appRV rfl (.tmp 122) (.tmp 124) rfl rfl HSO.out (news := [((a : Int), (d : Int), (f : Int))]) rfl (Rd.made _ _ _ _) rfl hle1 (le_alloc hGW _) ?_)
    intro A' c' w12 o12 g12 _ b12
    have kYa := (S11.y.alloc (.cells #[.int .i64 (a : Nat), .int .i64 (d : Nat), .int .i64 (f : Nat)] 105)).grown g12 (own_ne HSO.out.2 (S11.y.alloc _) (by decide))
    have c48 : w12.cell? ⟨Y, 48, none⟩ = some (.slice Av m cv) := (kYa.cell 48).trans (bc_last S11.sh)
    have f48 := kYa.free 48
    have HS := Lib.hid (S11.more o12 ((Below.refl _ _).alloc (Nat.le_refl _) _) g12 b12)
    clear S11 kq11 kYa o12 g12 b12 t48 HSO hqA hqB
    go_wp2_with fail
    go_roundw
    case rel => exact ⟨j + 1, _, A', m + 1, c', rf, ef, by go_num, HS.out, by
      rcases HRL.out with ⟨h1, h2⟩ | h
      · exact .inl ⟨h1, HZ8.out.1, HLT.out, by have := HZ8.out.2.2; simp [this], h2⟩
      · exact .inr h⟩
    case measure => have := HLT.out; simp [intOf]; omega
  case rest =>
  clear S hst
  obtain ⟨b, Av, m, cv, r, e, S, hst⟩ := hcut
  have cE := S.rd.err
  rcases hst with ⟨rfl, hm8, hF⟩ | ⟨hne, hE⟩
  rotate_left
  · have hq : (((e : Nat) : Int) == 0) = false := by rw [beq_eq_false_iff_ne]; omega
    have hq2 : (((e : Nat) : Int) != 0) = true := by rw [bne_iff_ne]; omega
    have HE := Lib.hid (HGE.out e hE)
    have HS := Lib.hid S
    clear hne hE S
    go_upto_region 36 with fail
    refine nameW ?_
    intro w8 hw8
    have S8 : GSt w1.heap.size w1 w8 Y gR A4 xs.length c4 xs b Av m cv r e := by rw [hw8]; exact HS.out
    clear hw8
    have hgo := HE.out
    subst hgo
    have cE := S8.rd.err
    have kz := KZ.out _ S8.gB
    have gb := GB.out.trans (S8.gB.mono (by have := HGG.out; omega))
    have hgR : gR ≠ g := by have := HN.out; omega
    clear S8
    go_upto_region 37 with fail
    refine wp_region_facts (fun L v w => v 7 = .pointer (some ⟨gR, 0, none⟩) ∧ v 2 = .pointer (some ⟨g, 0, none⟩) ∧ Below w0.heap.size w0 w ∧ Blk w g 76 (bc Bo.zero (.slice none 0 0)) ∧ w.cell? ⟨gR, 2, none⟩ = some (.int .i64 (e : Nat)) ∧ (L 0 = true → v 153 = .agg (bc Bo.zero (.slice none 0 0))) ∧ (L 1 = true → v 154 = .pointer (some ⟨gR, 0, none⟩)) ∧ (L 2 = true → v 155 = .pointer (some ⟨gR, 0, none⟩)) ∧ (L 3 = true → v 156 = .pointer (some ⟨gR, 2, none⟩)) ∧ (L 4 = true → v 157 = .int .i64 (e : Nat)) ∧ (L 6 = true → v 3 = .int .i64 (e : Nat))) [153, 154, 155, 156, 157, 3] (by kernel_rfl) (by kernel_rfl) (by kernel_rfl) (by kernel_rfl) ?h0 ?hst ?hend
    case h0 =>
      intro L h0
      have h0 : ∀ i, i < 7 → L i = false := h0
      exact ⟨rfl, rfl, gb.drew, kz.drew, cE, offF h0 (i := 0) (by decide), offF h0 (i := 1) (by decide), offF h0 (i := 2) (by decide), offF h0 (i := 3) (by decide), offF h0 (i := 4) (by decide), offF h0 (i := 6) (by decide)⟩
    case hst =>
      show FactSteps _ _ _ _ [0, 1, 2, 3, 4, 5, 6]
      refine @FactSteps.cons _ _ _ _ 0 _ [] _ rfl (by kernel_rfl) ?s0 ?_
      rotate_left
      refine @FactSteps.cons _ _ _ _ 1 _ [] _ rfl (by kernel_rfl) ?s1 ?_
      rotate_left
      refine @FactSteps.cons _ _ _ _ 2 _ [1] _ rfl (by kernel_rfl) ?s2 ?_
      rotate_left
      refine @FactSteps.cons _ _ _ _ 3 _ [2] _ rfl (by kernel_rfl) ?s3 ?_
      rotate_left
      refine @FactSteps.cons _ _ _ _ 4 _ [3] _ rfl (by kernel_rfl) ?s4 ?_
      rotate_left
      refine @FactSteps.cons _ _ _ _ 5 _ [0, 0] _ rfl (by kernel_rfl) ?s5 ?_
      rotate_left
      refine @FactSteps.cons _ _ _ _ 6 _ [4, 5, 0, 1, 2, 3, 4, 5] _ rfl (by kernel_rfl) ?s6 ?_
      rotate_left
      exact FactSteps.nil
      case s0 =>
        rintro L a v w hv hg hL hd hcl ⟨e7, e2, hb, kz, rE, f0, f1, f2, f3, f4, f6⟩ K hK
        refine step_do rfl ?_
        refine wp_bd (v := .agg (bc Bo.zero (.slice none 0 0))) (w' := w) 76 #[] rfl ?_ ?_
        · simp only [List.map_toArray, List.map_nil]; exact HBD.out _
        exact hK.out _ _ ⟨e7, e2, hb, kz, rE, fun _ => rfl, f1, f2, f3, f4, f6⟩
      case s1 =>
        rintro L a v w hv hg hL hd hcl ⟨e7, e2, hb, kz, rE, f0, f1, f2, f3, f4, f6⟩ K hK
        refine step_do rfl ?_
        clear hv
        go_simp
        exact hK.out _ _ ⟨e7, e2, hb, kz, rE, f0, fun _ => rfl, f2, f3, f4, f6⟩
      case s2 =>
        rintro L a v w hv hg hL hd hcl ⟨e7, e2, hb, kz, rE, f0, f1, f2, f3, f4, f6⟩ K hK
        have g1 := f1 (hd 1 (by decide))
        refine step_do rfl ?_
        clear hv
        go_simp
        exact hK.out _ _ ⟨e7, e2, hb, kz, rE, f0, f1, fun _ => rfl, f3, f4, f6⟩
      case s3 =>
        rintro L a v w hv hg hL hd hcl ⟨e7, e2, hb, kz, rE, f0, f1, f2, f3, f4, f6⟩ K hK
        have g2 := f2 (hd 2 (by decide))
        refine step_do rfl ?_
        clear hv
        go_simp
        exact hK.out _ _ ⟨e7, e2, hb, kz, rE, f0, f1, f2, fun _ => rfl, f4, f6⟩
      case s4 =>
        rintro L a v w hv hg hL hd hcl ⟨e7, e2, hb, kz, rE, f0, f1, f2, f3, f4, f6⟩ K hK
        have g3 := f3 (hd 3 (by decide))
        have cx := rE
        refine step_do rfl ?_
        clear hv
        go_simp
        exact hK.out _ _ ⟨e7, e2, hb, kz, rE, f0, f1, f2, f3, fun _ => rfl, f6⟩
      case s5 =>
        rintro L a v w hv hg hL hd hcl ⟨e7, e2, hb, kz, rE, f0, f1, f2, f3, f4, f6⟩ K hK
        have g0 := f0 (hd 0 (by decide))
        refine step_do rfl ?_
        refine wp_st (cs := bc Bo.zero (.slice none 0 0)) rowRBo (.tmp 2) (.tmp 153) rfl ((hv 2).trans e2) ((hv 153).trans g0) kz z49.out z49.out o49.out ?_
        intro wy ky gy zy
        exact hK.out undef _ ⟨e7, e2, (hb.grown gy hb.size (fun q hq => by injection hq; have := HGG.out; omega)), ky, (gy.cell rE (fun x => by injection x with x; exact hgR x)), f0, f1, f2, f3, f4, f6⟩
      case s6 =>
        rintro L a v w hv hg hL hd hcl ⟨e7, e2, hb, kz, rE, f0, f1, f2, f3, f4, f6⟩ K hK
        have g0 := f0 (hd 0 (by decide))
        have g1 := f1 (hd 1 (by decide))
        have g2 := f2 (hd 2 (by decide))
        have g3 := f3 (hd 3 (by decide))
        have g4 := f4 (hd 4 (by decide))
        refine step_do rfl ?_
        clear hv
        go_simp
        exact hK.out _ _ ⟨e7, e2, hb, kz, rE, f0, f1, f2, f3, f4, fun _ => rfl⟩
    case hend =>
    rintro L v wz hall ⟨e7, e2, hb, kz, rE, f0, f1, f2, f3, f4, f6⟩
    have hL : ∀ i, i < 7 → L i = true := hall
    have f0 := f0 (hL 0 (by decide))
    have f1 := f1 (hL 1 (by decide))
    have f2 := f2 (hL 2 (by decide))
    have f3 := f3 (hL 3 (by decide))
    have f4 := f4 (hL 4 (by decide))
    have f6 := f6 (hL 6 (by decide))
    simp only [finA, List.foldl_cons, List.foldl_nil, Act.put, List.setIfInBounds_toArray, List.set_cons_succ, List.set_cons_zero, f0, f1, f2, f3, f4, f6]
    clear e7 e2 f0 f1 f2 f3 f4 f6 hL hall
    go_wp2_with fail
    exact bodyPost_ret (v := .tuple #[.agg (bc Bo.zero (.slice none 0 0)), .int .i64 (e : Nat)]) (results_blk2 rfl rowRBo kz z49.out rfl rfl) rfl ⟨_, rfl, ⟨none, 0, 0, rfl, RdV.nil _ _ _, by omega⟩, hb⟩
  obtain ⟨R, hRd⟩ : ∃ R, R = Bo.rightB b := ⟨_, rfl⟩
  have HRT := Lib.hid fun (w : World) (S : GSt w1.heap.size w1 w Y gR A4 xs.length c4 xs b Av m cv r 0) => (hRd ▸ brright_any b S.sh (.agg (bc b (.slice Av m cv))) w ⟨Av, m, cv, rfl, S.o.rd, by omega⟩ : Calls Try.prog _ _ w (GiveBo w R))
  have HBO := Lib.hid fun (h : Bo.rightB b = true) (w : World) (S : GSt w1.heap.size w1 w Y gR A4 xs.length c4 xs b Av m cv r 0) => brbody_any b S.sh h (.agg (bc b (.slice Av m cv))) w ⟨Av, m, cv, rfl, S.o.rd, by omega⟩
  have HRR := Lib.hid hRd
  have HF := Lib.hid hF
  have B49 := Lib.hid (bc_size (s := .slice Av m cv) S.sh)
  have ky := S.y
  clear hRd hF
  go_wp2_with ((with_reducible refine wpList_ldg rowRBo ky B49.out ?_ ?_ ?_); rotate_left; (rfl); (rfl))
  refine (HRT.out _ S).mono ?_
  rintro x w5 ⟨rfl, bb⟩
  have S5 := S.below bb
  clear S bb cE ky
  cases R
  case false =>
    have HE := Lib.hid (HGE.out 4 (by rw [HF.out]; unfold Bo.fin; rw [if_neg (by rw [← HRR.out]; simp)]))
    have cE := S5.rd.err
    have fE := S5.rd.fr
    have HS := Lib.hid (S5.setE 4)
    clear S5
    go_upto_region 36 with fail
    refine nameW ?_
    intro w8 hw8
    have S8 : GSt w1.heap.size w1 w8 Y gR A4 xs.length c4 xs b Av m cv r 4 := by rw [hw8]; exact HS.out
    clear hw8
    have hgo := HE.out
    subst hgo
    have cE := S8.rd.err
    have kz := KZ.out _ S8.gB
    have gb := GB.out.trans (S8.gB.mono (by have := HGG.out; omega))
    have hgR : gR ≠ g := by have := HN.out; omega
    clear S8
    go_upto_region 37 with fail
    refine wp_region_facts (fun L v w => v 7 = .pointer (some ⟨gR, 0, none⟩) ∧ v 2 = .pointer (some ⟨g, 0, none⟩) ∧ Below w0.heap.size w0 w ∧ Blk w g 76 (bc Bo.zero (.slice none 0 0)) ∧ w.cell? ⟨gR, 2, none⟩ = some (.int .i64 (4 : Nat)) ∧ (L 0 = true → v 153 = .agg (bc Bo.zero (.slice none 0 0))) ∧ (L 1 = true → v 154 = .pointer (some ⟨gR, 0, none⟩)) ∧ (L 2 = true → v 155 = .pointer (some ⟨gR, 0, none⟩)) ∧ (L 3 = true → v 156 = .pointer (some ⟨gR, 2, none⟩)) ∧ (L 4 = true → v 157 = .int .i64 (4 : Nat)) ∧ (L 6 = true → v 3 = .int .i64 (4 : Nat))) [153, 154, 155, 156, 157, 3] (by kernel_rfl) (by kernel_rfl) (by kernel_rfl) (by kernel_rfl) ?h0 ?hst ?hend
    case h0 =>
      intro L h0
      have h0 : ∀ i, i < 7 → L i = false := h0
      exact ⟨rfl, rfl, gb.drew, kz.drew, cE, offF h0 (i := 0) (by decide), offF h0 (i := 1) (by decide), offF h0 (i := 2) (by decide), offF h0 (i := 3) (by decide), offF h0 (i := 4) (by decide), offF h0 (i := 6) (by decide)⟩
    case hst =>
      show FactSteps _ _ _ _ [0, 1, 2, 3, 4, 5, 6]
      refine @FactSteps.cons _ _ _ _ 0 _ [] _ rfl (by kernel_rfl) ?s0 ?_
      rotate_left
      refine @FactSteps.cons _ _ _ _ 1 _ [] _ rfl (by kernel_rfl) ?s1 ?_
      rotate_left
      refine @FactSteps.cons _ _ _ _ 2 _ [1] _ rfl (by kernel_rfl) ?s2 ?_
      rotate_left
      refine @FactSteps.cons _ _ _ _ 3 _ [2] _ rfl (by kernel_rfl) ?s3 ?_
      rotate_left
      refine @FactSteps.cons _ _ _ _ 4 _ [3] _ rfl (by kernel_rfl) ?s4 ?_
      rotate_left
      refine @FactSteps.cons _ _ _ _ 5 _ [0, 0] _ rfl (by kernel_rfl) ?s5 ?_
      rotate_left
      refine @FactSteps.cons _ _ _ _ 6 _ [4, 5, 0, 1, 2, 3, 4, 5] _ rfl (by kernel_rfl) ?s6 ?_
      rotate_left
      exact FactSteps.nil
      case s0 =>
        rintro L a v w hv hg hL hd hcl ⟨e7, e2, hb, kz, rE, f0, f1, f2, f3, f4, f6⟩ K hK
        refine step_do rfl ?_
        refine wp_bd (v := .agg (bc Bo.zero (.slice none 0 0))) (w' := w) 76 #[] rfl ?_ ?_
        · simp only [List.map_toArray, List.map_nil]; exact HBD.out _
        exact hK.out _ _ ⟨e7, e2, hb, kz, rE, fun _ => rfl, f1, f2, f3, f4, f6⟩
      case s1 =>
        rintro L a v w hv hg hL hd hcl ⟨e7, e2, hb, kz, rE, f0, f1, f2, f3, f4, f6⟩ K hK
        refine step_do rfl ?_
        clear hv
        go_simp
        exact hK.out _ _ ⟨e7, e2, hb, kz, rE, f0, fun _ => rfl, f2, f3, f4, f6⟩
      case s2 =>
        rintro L a v w hv hg hL hd hcl ⟨e7, e2, hb, kz, rE, f0, f1, f2, f3, f4, f6⟩ K hK
        have g1 := f1 (hd 1 (by decide))
        refine step_do rfl ?_
        clear hv
        go_simp
        exact hK.out _ _ ⟨e7, e2, hb, kz, rE, f0, f1, fun _ => rfl, f3, f4, f6⟩
      case s3 =>
        rintro L a v w hv hg hL hd hcl ⟨e7, e2, hb, kz, rE, f0, f1, f2, f3, f4, f6⟩ K hK
        have g2 := f2 (hd 2 (by decide))
        refine step_do rfl ?_
        clear hv
        go_simp
        exact hK.out _ _ ⟨e7, e2, hb, kz, rE, f0, f1, f2, fun _ => rfl, f4, f6⟩
      case s4 =>
        rintro L a v w hv hg hL hd hcl ⟨e7, e2, hb, kz, rE, f0, f1, f2, f3, f4, f6⟩ K hK
        have g3 := f3 (hd 3 (by decide))
        have cx := rE
        refine step_do rfl ?_
        clear hv
        go_simp
        exact hK.out _ _ ⟨e7, e2, hb, kz, rE, f0, f1, f2, f3, fun _ => rfl, f6⟩
      case s5 =>
        rintro L a v w hv hg hL hd hcl ⟨e7, e2, hb, kz, rE, f0, f1, f2, f3, f4, f6⟩ K hK
        have g0 := f0 (hd 0 (by decide))
        refine step_do rfl ?_
        refine wp_st (cs := bc Bo.zero (.slice none 0 0)) rowRBo (.tmp 2) (.tmp 153) rfl ((hv 2).trans e2) ((hv 153).trans g0) kz z49.out z49.out o49.out ?_
        intro wy ky gy zy
        exact hK.out undef _ ⟨e7, e2, (hb.grown gy hb.size (fun q hq => by injection hq; have := HGG.out; omega)), ky, (gy.cell rE (fun x => by injection x with x; exact hgR x)), f0, f1, f2, f3, f4, f6⟩
      case s6 =>
        rintro L a v w hv hg hL hd hcl ⟨e7, e2, hb, kz, rE, f0, f1, f2, f3, f4, f6⟩ K hK
        have g0 := f0 (hd 0 (by decide))
        have g1 := f1 (hd 1 (by decide))
        have g2 := f2 (hd 2 (by decide))
        have g3 := f3 (hd 3 (by decide))
        have g4 := f4 (hd 4 (by decide))
        refine step_do rfl ?_
        clear hv
        go_simp
        exact hK.out _ _ ⟨e7, e2, hb, kz, rE, f0, f1, f2, f3, f4, fun _ => rfl⟩
    case hend =>
    rintro L v wz hall ⟨e7, e2, hb, kz, rE, f0, f1, f2, f3, f4, f6⟩
    have hL : ∀ i, i < 7 → L i = true := hall
    have f0 := f0 (hL 0 (by decide))
    have f1 := f1 (hL 1 (by decide))
    have f2 := f2 (hL 2 (by decide))
    have f3 := f3 (hL 3 (by decide))
    have f4 := f4 (hL 4 (by decide))
    have f6 := f6 (hL 6 (by decide))
    simp only [finA, List.foldl_cons, List.foldl_nil, Act.put, List.setIfInBounds_toArray, List.set_cons_succ, List.set_cons_zero, f0, f1, f2, f3, f4, f6]
    clear e7 e2 f0 f1 f2 f3 f4 f6 hL hall
    go_wp2_with fail
    exact bodyPost_ret (v := .tuple #[.agg (bc Bo.zero (.slice none 0 0)), .int .i64 (4 : Nat)]) (results_blk2 rfl rowRBo kz z49.out rfl rfl) rfl ⟨_, rfl, ⟨none, 0, 0, rfl, RdV.nil _ _ _, by omega⟩, hb⟩
  case true =>
  have ky := S5.y
  go_wp2_with ((with_reducible refine wpList_ldg rowRBo ky B49.out ?_ ?_ ?_); rotate_left; (rfl); (rfl))
  refine (HBO.out HRR.out.symm _ S5).mono ?_
  rintro x w6 ⟨A6, n6, c6, rfl, o6, bb⟩
  have S6 := S5.below bb
  have h6 := o6.rd
  have hx6 := S6.hx.below S6.gB
  have hn6 : n6 ≤ 9223372036854775807 := by
    rw [o6.1]
    have := bodyL_len S6.sh (right_l8 HRR.out.symm)
    exact Nat.le_trans this (Nat.le_of_ble_eq_true rfl)
  have HSM := Lib.hid (same_any A6 A4 n6 c6 xs.length c4 (bodyL b) xs w6.heap.size w1.heap.size w6 h6 hx6 hn6)
  clear S5 ky bb o6 h6 hx6 hn6
  go_wp2_with fail
  refine HSM.out.mono ?_
  rintro x w7 ⟨rfl, md, rfl⟩
  have S7 := S6.below (below_drewN (Below.refl _ _) md)
  clear S6 HSM
  by_cases hbx : bodyL b = xs
  rotate_left
  · have HE := Lib.hid (HGE.out 4 (by rw [HF.out]; unfold Bo.fin; rw [if_neg (fun h => hbx h.2)]))
    have cE := S7.rd.err
    have fE := S7.rd.fr
    have HS := Lib.hid (S7.setE 4)
    rw [decide_eq_false hbx]
    clear S7 hbx
    go_upto_region 36 with fail
    refine nameW ?_
    intro w8 hw8
    have S8 : GSt w1.heap.size w1 w8 Y gR A4 xs.length c4 xs b Av m cv r 4 := by rw [hw8]; exact HS.out
    clear hw8
    have hgo := HE.out
    subst hgo
    have cE := S8.rd.err
    have kz := KZ.out _ S8.gB
    have gb := GB.out.trans (S8.gB.mono (by have := HGG.out; omega))
    have hgR : gR ≠ g := by have := HN.out; omega
    clear S8
    go_upto_region 37 with fail
    refine wp_region_facts (fun L v w => v 7 = .pointer (some ⟨gR, 0, none⟩) ∧ v 2 = .pointer (some ⟨g, 0, none⟩) ∧ Below w0.heap.size w0 w ∧ Blk w g 76 (bc Bo.zero (.slice none 0 0)) ∧ w.cell? ⟨gR, 2, none⟩ = some (.int .i64 (4 : Nat)) ∧ (L 0 = true → v 153 = .agg (bc Bo.zero (.slice none 0 0))) ∧ (L 1 = true → v 154 = .pointer (some ⟨gR, 0, none⟩)) ∧ (L 2 = true → v 155 = .pointer (some ⟨gR, 0, none⟩)) ∧ (L 3 = true → v 156 = .pointer (some ⟨gR, 2, none⟩)) ∧ (L 4 = true → v 157 = .int .i64 (4 : Nat)) ∧ (L 6 = true → v 3 = .int .i64 (4 : Nat))) [153, 154, 155, 156, 157, 3] (by kernel_rfl) (by kernel_rfl) (by kernel_rfl) (by kernel_rfl) ?h0 ?hst ?hend
    case h0 =>
      intro L h0
      have h0 : ∀ i, i < 7 → L i = false := h0
      exact ⟨rfl, rfl, gb.drew, kz.drew, cE, offF h0 (i := 0) (by decide), offF h0 (i := 1) (by decide), offF h0 (i := 2) (by decide), offF h0 (i := 3) (by decide), offF h0 (i := 4) (by decide), offF h0 (i := 6) (by decide)⟩
    case hst =>
      show FactSteps _ _ _ _ [0, 1, 2, 3, 4, 5, 6]
      refine @FactSteps.cons _ _ _ _ 0 _ [] _ rfl (by kernel_rfl) ?s0 ?_
      rotate_left
      refine @FactSteps.cons _ _ _ _ 1 _ [] _ rfl (by kernel_rfl) ?s1 ?_
      rotate_left
      refine @FactSteps.cons _ _ _ _ 2 _ [1] _ rfl (by kernel_rfl) ?s2 ?_
      rotate_left
      refine @FactSteps.cons _ _ _ _ 3 _ [2] _ rfl (by kernel_rfl) ?s3 ?_
      rotate_left
      refine @FactSteps.cons _ _ _ _ 4 _ [3] _ rfl (by kernel_rfl) ?s4 ?_
      rotate_left
      refine @FactSteps.cons _ _ _ _ 5 _ [0, 0] _ rfl (by kernel_rfl) ?s5 ?_
      rotate_left
      refine @FactSteps.cons _ _ _ _ 6 _ [4, 5, 0, 1, 2, 3, 4, 5] _ rfl (by kernel_rfl) ?s6 ?_
      rotate_left
      exact FactSteps.nil
      case s0 =>
        rintro L a v w hv hg hL hd hcl ⟨e7, e2, hb, kz, rE, f0, f1, f2, f3, f4, f6⟩ K hK
        refine step_do rfl ?_
        refine wp_bd (v := .agg (bc Bo.zero (.slice none 0 0))) (w' := w) 76 #[] rfl ?_ ?_
        · simp only [List.map_toArray, List.map_nil]; exact HBD.out _
        exact hK.out _ _ ⟨e7, e2, hb, kz, rE, fun _ => rfl, f1, f2, f3, f4, f6⟩
      case s1 =>
        rintro L a v w hv hg hL hd hcl ⟨e7, e2, hb, kz, rE, f0, f1, f2, f3, f4, f6⟩ K hK
        refine step_do rfl ?_
        clear hv
        go_simp
        exact hK.out _ _ ⟨e7, e2, hb, kz, rE, f0, fun _ => rfl, f2, f3, f4, f6⟩
      case s2 =>
        rintro L a v w hv hg hL hd hcl ⟨e7, e2, hb, kz, rE, f0, f1, f2, f3, f4, f6⟩ K hK
        have g1 := f1 (hd 1 (by decide))
        refine step_do rfl ?_
        clear hv
        go_simp
        exact hK.out _ _ ⟨e7, e2, hb, kz, rE, f0, f1, fun _ => rfl, f3, f4, f6⟩
      case s3 =>
        rintro L a v w hv hg hL hd hcl ⟨e7, e2, hb, kz, rE, f0, f1, f2, f3, f4, f6⟩ K hK
        have g2 := f2 (hd 2 (by decide))
        refine step_do rfl ?_
        clear hv
        go_simp
        exact hK.out _ _ ⟨e7, e2, hb, kz, rE, f0, f1, f2, fun _ => rfl, f4, f6⟩
      case s4 =>
        rintro L a v w hv hg hL hd hcl ⟨e7, e2, hb, kz, rE, f0, f1, f2, f3, f4, f6⟩ K hK
        have g3 := f3 (hd 3 (by decide))
        have cx := rE
        refine step_do rfl ?_
        clear hv
        go_simp
        exact hK.out _ _ ⟨e7, e2, hb, kz, rE, f0, f1, f2, f3, fun _ => rfl, f6⟩
      case s5 =>
        rintro L a v w hv hg hL hd hcl ⟨e7, e2, hb, kz, rE, f0, f1, f2, f3, f4, f6⟩ K hK
        have g0 := f0 (hd 0 (by decide))
        refine step_do rfl ?_
        refine wp_st (cs := bc Bo.zero (.slice none 0 0)) rowRBo (.tmp 2) (.tmp 153) rfl ((hv 2).trans e2) ((hv 153).trans g0) kz z49.out z49.out o49.out ?_
        intro wy ky gy zy
        exact hK.out undef _ ⟨e7, e2, (hb.grown gy hb.size (fun q hq => by injection hq; have := HGG.out; omega)), ky, (gy.cell rE (fun x => by injection x with x; exact hgR x)), f0, f1, f2, f3, f4, f6⟩
      case s6 =>
        rintro L a v w hv hg hL hd hcl ⟨e7, e2, hb, kz, rE, f0, f1, f2, f3, f4, f6⟩ K hK
        have g0 := f0 (hd 0 (by decide))
        have g1 := f1 (hd 1 (by decide))
        have g2 := f2 (hd 2 (by decide))
        have g3 := f3 (hd 3 (by decide))
        have g4 := f4 (hd 4 (by decide))
        refine step_do rfl ?_
        clear hv
        go_simp
        exact hK.out _ _ ⟨e7, e2, hb, kz, rE, f0, f1, f2, f3, f4, fun _ => rfl⟩
    case hend =>
    rintro L v wz hall ⟨e7, e2, hb, kz, rE, f0, f1, f2, f3, f4, f6⟩
    have hL : ∀ i, i < 7 → L i = true := hall
    have f0 := f0 (hL 0 (by decide))
    have f1 := f1 (hL 1 (by decide))
    have f2 := f2 (hL 2 (by decide))
    have f3 := f3 (hL 3 (by decide))
    have f4 := f4 (hL 4 (by decide))
    have f6 := f6 (hL 6 (by decide))
    simp only [finA, List.foldl_cons, List.foldl_nil, Act.put, List.setIfInBounds_toArray, List.set_cons_succ, List.set_cons_zero, f0, f1, f2, f3, f4, f6]
    clear e7 e2 f0 f1 f2 f3 f4 f6 hL hall
    go_wp2_with fail
    exact bodyPost_ret (v := .tuple #[.agg (bc Bo.zero (.slice none 0 0)), .int .i64 (4 : Nat)]) (results_blk2 rfl rowRBo kz z49.out rfl rfl) rfl ⟨_, rfl, ⟨none, 0, 0, rfl, RdV.nil _ _ _, by omega⟩, hb⟩
  have hgo := HGO.out b (by rw [HF.out]; unfold Bo.fin; rw [if_pos ⟨HRR.out.symm, hbx⟩])
  subst hgo
  rw [decide_eq_true hbx]
  have cE := S7.rd.err
  have ky := S7.y
  have ho := S7.o
  have kz := KZ.out _ S7.gB
  have gb := GB.out.trans (S7.gB.mono (by have := HGG.out; omega))
  have B1' := Lib.hid (bc_one (b := b) (s := .slice Av m cv) rfl)
  clear S7 hbx
  go_wp2_with first
    | ((with_reducible refine wpList_ld rowRBo ky B49.out ?_ ?_); rotate_left; (rfl))
    | ((with_reducible refine wpList_st rowRBo kz B49.out z49.out B1'.out ?_ ?_ ?_); rotate_left; (rfl); (rfl); intro w9 k9 g9 z9)
  exact bodyPost_ret (v := .tuple #[.agg (bc b (.slice Av m cv)), .int .i64 0]) (results_blk2 rfl rowRBo k9 B49.out rfl rfl) rfl ⟨_, rfl, ⟨Av, m, cv, rfl, (ho.grown g9 (.inr (own_ne ho.2 kz (by decide)))).rd, by omega⟩, gb.grown g9 gb.size (fun q hq => by injection hq; have := HGG.out; omega)⟩
end Go.Proofs.Ytocoohpekpkmkaa

/- What is put of a right board reads as that board: plain. -/
namespace Go.Proofs.Ytocoohpekpkmkaa
set_option linter.unusedVariables false
set_option linter.unusedSimpArgs false
open Go.RowKit
open Reg (La Vl)
namespace Bo
theorem encs_cons (z : Int) (l : List Int) : encs (z :: l) = Vint.enc z.toNat ++ encs l := rfl
theorem dec_z {z : Int} (h : 0 ≤ z ∧ z ≤ 1099511627776) (r : List UInt8) : Vint.dec (Vint.enc z.toNat ++ r) = .ok (z.toNat, r) := Vint.dec_enc (by unfold Vint.top; omega) r
theorem getD_eq {α : Type} {a b : List α} {n : Nat} {d : α} (ha : a.length = n) (hb : b.length = n) (h : ∀ i, i < n → a.getD i d = b.getD i d) : a = b := by
  apply List.ext_getElem?
  intro i
  by_cases hi : i < n
  · have := h i hi
    rw [List.getD_eq_getElem?_getD, List.getD_eq_getElem?_getD, List.getElem?_eq_getElem (by omega), List.getElem?_eq_getElem (by omega)] at this
    rw [List.getElem?_eq_getElem (by omega), List.getElem?_eq_getElem (by omega)]
    simpa using this
  · rw [List.getElem?_eq_none (by omega), List.getElem?_eq_none (by omega)]
theorem getD_setg {α : Type} {l : List α} {a : Nat} (ha : a < l.length) (j : Nat) (x d : α) : (l.set a x).getD j d = if a = j then x else l.getD j d := by
  rw [List.getD_eq_getElem?_getD]
  split
  · rename_i e; subst e; rw [List.getElem?_set_self ha]; rfl
  · rename_i e; rw [List.getElem?_set_ne e, ← List.getD_eq_getElem?_getD]
/-- a tally's first j nodes -/
def mixT (t : List Int) (j : Nat) : List Int := (List.range 16).map fun i => if i % 8 < j then t.getD i 0 else 0
theorem mixT_len (t : List Int) (j : Nat) : (mixT t j).length = 16 := by simp [mixT]
theorem mixT_at (t : List Int) (j : Nat) {i : Nat} (hi : i < 16) : (mixT t j).getD i 0 = if i % 8 < j then t.getD i 0 else 0 := by
  unfold mixT
  rw [List.getD_eq_getElem?_getD, List.getElem?_map, List.getElem?_range hi]
  rfl
theorem mixT_step (t : List Int) {j : Nat} (hj : j < 8) : ((mixT t j).set j (t.getD j 0)).set (8 + j) (t.getD (8 + j) 0) = mixT t (j + 1) := by
  refine getD_eq (n := 16) (d := 0) (by rw [List.length_set, List.length_set, mixT_len]) (mixT_len _ _) fun i hi => ?_
  rw [getD_setg (by rw [List.length_set, mixT_len]; omega), getD_setg (by rw [mixT_len]; omega), mixT_at t j hi, mixT_at t (j + 1) hi]
  by_cases e1 : 8 + j = i
  · subst e1
    rw [if_pos rfl, if_pos (by omega)]
  · rw [if_neg e1]
    by_cases e2 : j = i
    · subst e2
      rw [if_pos rfl, if_pos (by omega)]
    · rw [if_neg e2]
      by_cases c : i % 8 < j
      · rw [if_pos c, if_pos (by omega)]
      · rw [if_neg c, if_neg (by omega)]
theorem mixT_skip {t : List Int} {j : Nat} (hj : j < 8) (h1 : t.getD j 0 = 0) (h2 : t.getD (8 + j) 0 = 0) : mixT t j = mixT t (j + 1) := by
  refine getD_eq (n := 16) (d := 0) (mixT_len _ _) (mixT_len _ _) fun i hi => ?_
  rw [mixT_at t j hi, mixT_at t (j + 1) hi]
  by_cases c : i % 8 < j
  · rw [if_pos c, if_pos (by omega)]
  · rw [if_neg c]
    by_cases e : i % 8 < j + 1
    · rw [if_pos e]
      rcases (show i = j ∨ i = 8 + j by omega) with rfl | rfl
      · exact h1.symm
      · exact h2.symm
    · rw [if_neg e]
theorem mixT_zero (t : List Int) : mixT t 0 = Tally.zero := by
  refine getD_eq (n := 16) (d := 0) (mixT_len _ _) rfl fun i hi => ?_
  rw [mixT_at t 0 hi, if_neg (by omega)]
  unfold Tally.zero
  rw [List.getD_eq_getElem?_getD, List.getElem?_replicate, if_pos hi]
  rfl
theorem mixT_all {t : List Int} (ht : t.length = 16) : mixT t 8 = t := getD_eq (n := 16) (d := 0) (mixT_len _ _) ht fun i hi => by rw [mixT_at t 8 hi, if_pos (by omega)]
theorem rows_tally {t : List Int} (ht : t.length = 16) (hr : Tally.rightB t = true) : ∀ j, j ≤ 8 → ∀ S, ∃ k last, 9 ≤ k + j ∧ last ≤ j ∧ rowsC stepT 9 0 Tally.zero (encs (Tally.numsL t j) ++ S) = rowsC stepT k last (mixT t j) S := by
  intro j
  induction j with
  | zero => intro _ S; exact ⟨9, 0, by omega, by omega, by rw [mixT_zero]; rfl⟩
  | succ j ih =>
    intro hj S
    have b1 := Tally.right_at hr j
    have b2 := Tally.right_at hr (8 + j)
    unfold Tally.top at b1 b2
    have hst := mixT_step t (show j < 8 by omega)
    obtain ⟨k, last, hk, hl, he⟩ := ih (by omega) (encs (if 0 < t.getD j 0 + t.getD (8 + j) 0 then [(j : Int) + 1, t.getD j 0, t.getD (8 + j) 0] else []) ++ S)
    have hn : encs (Tally.numsL t (j + 1)) ++ S = encs (Tally.numsL t j) ++ (encs (if 0 < t.getD j 0 + t.getD (8 + j) 0 then [(j : Int) + 1, t.getD j 0, t.getD (8 + j) 0] else []) ++ S) := by
      rw [← List.append_assoc, ← encs_app]
      rfl
    rw [hn, he]
    by_cases hp : 0 < t.getD j 0 + t.getD (8 + j) 0
    · rw [if_pos hp]
      obtain ⟨k, rfl⟩ : ∃ k', k = k' + 1 := ⟨k - 1, by omega⟩
      refine ⟨k, j + 1, by omega, Nat.le_refl _, ?_⟩
      rw [encs_cons, encs_cons, encs_cons, show encs [] = [] from rfl, List.append_nil, List.append_assoc, List.append_assoc]
      have e0 := dec_z (z := (j : Int) + 1) (by omega) (Vint.enc (t.getD j 0).toNat ++ (Vint.enc (t.getD (8 + j) 0).toNat ++ S))
      have e1 := dec_z b1 (Vint.enc (t.getD (8 + j) 0).toNat ++ S)
      have e2 := dec_z b2 S
      rw [show ((j : Int) + 1).toNat = j + 1 by omega] at e0 ⊢
      rw [rowsC_ok e0]
      refine rowsE_C (by omega) (by omega) ?_
      rw [Nat.add_sub_cancel]
      unfold stepT
      rw [e1]
      simp only
      rw [e2]
      simp only
      rw [if_pos (by omega), Int.toNat_of_nonneg b1.1, Int.toNat_of_nonneg b2.1, hst]
    · rw [if_neg hp]
      refine ⟨k, last, by omega, by omega, ?_⟩
      rw [mixT_skip (by omega) (by omega) (by omega)]
      rfl
theorem tally_back {t : List Int} (ht : t.length = 16) (hr : Tally.rightB t = true) (S : List UInt8) : rows stepT Tally.zero (encs (Tally.numsL t 8 ++ [0]) ++ S) = .ok (t, S) := by
  obtain ⟨k, last, hk, hl, he⟩ := rows_tally ht hr 8 (Nat.le_refl _) (Vint.enc 0 ++ S)
  rw [rows_C, encs_app, List.append_assoc]
  show rowsC stepT 9 0 Tally.zero (encs (Tally.numsL t 8) ++ (Vint.enc 0 ++ S)) = _
  obtain ⟨k, rfl⟩ : ∃ k', k = k' + 1 := ⟨k - 1, by omega⟩
  rw [he, rowsC_ok (Vint.dec_enc (by decide) S), rowsE_end, mixT_all ht]
theorem rows_plans {p : List La} (hp8 : p.length = 8) (hr : ∀ q ∈ p, planB q = true) : ∀ j, j ≤ 8 → ∀ S, ∃ k last, 9 ≤ k + j ∧ last ≤ j ∧ rowsC stepP 9 0 z8l (encs (plansN p j) ++ S) = rowsC stepP k last (p.take j ++ z8l.drop j) S := by
  intro j
  induction j with
  | zero => intro _ S; exact ⟨9, 0, by omega, by omega, rfl⟩
  | succ j ih =>
    intro hj S
    have hst := half_succ hp8 (show j < 8 by omega)
    have hm : p.getD j (0, 0, 0) ∈ p := by rw [List.getD_eq_getElem?_getD, List.getElem?_eq_getElem (by omega)]; exact List.getElem_mem _
    have hq := (planB_iff _).1 (hr _ hm)
    obtain ⟨k, last, hk, hl, he⟩ := ih (by omega) (encs (if p.getD j (0, 0, 0) = (0, 0, 0) then [] else [(j : Int) + 1, (p.getD j (0, 0, 0)).1, (p.getD j (0, 0, 0)).2.1, (p.getD j (0, 0, 0)).2.2]) ++ S)
    have hn : encs (plansN p (j + 1)) ++ S = encs (plansN p j) ++ (encs (if p.getD j (0, 0, 0) = (0, 0, 0) then [] else [(j : Int) + 1, (p.getD j (0, 0, 0)).1, (p.getD j (0, 0, 0)).2.1, (p.getD j (0, 0, 0)).2.2]) ++ S) := by
      rw [← List.append_assoc, ← encs_app]
      rfl
    rw [hn, he]
    generalize p.getD j (0, 0, 0) = q at *
    by_cases hz : q = (0, 0, 0)
    · rw [if_pos hz]
      refine ⟨k, last, by omega, by omega, ?_⟩
      rw [← hst, hz]
      have : (p.take j ++ z8l.drop j).set j (0, 0, 0) = p.take j ++ z8l.drop j := by
        have h1 : (p.take j).length = j := by rw [List.length_take, hp8]; omega
        have h2 : z8l.drop j = (0, 0, 0) :: z8l.drop (j + 1) := by
          rw [List.drop_eq_getElem_cons (show j < z8l.length by show j < 8; omega)]
          congr 1
          unfold z8l
          rw [List.getElem_replicate]
        rw [List.set_append_right _ _ (by omega), h1, Nat.sub_self, h2, List.set_cons_zero]
      rw [this]
      rfl
    · rw [if_neg hz]
      have hb := hq.resolve_left hz
      obtain ⟨x, y, z⟩ := q
      simp only at hb
      obtain ⟨k, rfl⟩ : ∃ k', k = k' + 1 := ⟨k - 1, by omega⟩
      refine ⟨k, j + 1, by omega, Nat.le_refl _, ?_⟩
      simp only
      rw [encs_cons, encs_cons, encs_cons, encs_cons, show encs [] = [] from rfl, List.append_nil, List.append_assoc, List.append_assoc, List.append_assoc]
      have e0 := dec_z (z := (j : Int) + 1) (by omega) (Vint.enc x.toNat ++ (Vint.enc y.toNat ++ (Vint.enc z.toNat ++ S)))
      have e1 := dec_z (z := x) (by omega) (Vint.enc y.toNat ++ (Vint.enc z.toNat ++ S))
      have e2 := dec_z (z := y) (by omega) (Vint.enc z.toNat ++ S)
      have e3 := dec_z (z := z) (by omega) S
      rw [show ((j : Int) + 1).toNat = j + 1 by omega] at e0 ⊢
      rw [rowsC_ok e0]
      refine rowsE_C (by omega) (by omega) ?_
      rw [Nat.add_sub_cancel]
      unfold stepP
      rw [e1]
      simp only
      rw [e2]
      simp only
      rw [e3]
      simp only
      rw [Int.toNat_of_nonneg (by omega), Int.toNat_of_nonneg (by omega), Int.toNat_of_nonneg (by omega), hst]
theorem plans_back {p : List La} (hp8 : p.length = 8) (hr : ∀ q ∈ p, planB q = true) (S : List UInt8) : rows stepP z8l (encs (plansN p 8 ++ [0]) ++ S) = .ok (p, S) := by
  obtain ⟨k, last, hk, hl, he⟩ := rows_plans hp8 hr 8 (Nat.le_refl _) (Vint.enc 0 ++ S)
  rw [rows_C, encs_app, List.append_assoc]
  show rowsC stepP 9 0 z8l (encs (plansN p 8) ++ (Vint.enc 0 ++ S)) = _
  obtain ⟨k, rfl⟩ : ∃ k', k = k' + 1 := ⟨k - 1, by omega⟩
  rw [he, rowsC_ok (Vint.dec_enc (by decide) S), rowsE_end, List.take_of_length_le (by omega), show z8l.drop 8 = [] from rfl, List.append_nil]
theorem seen_back {u : List Int} (hu : u.length = 8) (hr : ∀ x ∈ u, 0 ≤ x ∧ x ≤ 1099511627776) (S : List UInt8) : seenE 8 0 [0, 0, 0, 0, 0, 0, 0, 0] (encs u ++ S) = .ok (u, S) := by
  have key : ∀ (v : List Int) (i : Nat) (U : List Int), (∀ x ∈ v, 0 ≤ x ∧ x ≤ 1099511627776) → U.length = i + v.length → seenE v.length i U (encs v ++ S) = .ok (U.take i ++ v, S) := by
    intro v
    induction v with
    | nil => intro i U _ hU; rw [List.append_nil, List.take_of_length_le (by simp at hU; omega)]; rfl
    | cons x v ih =>
      intro i U hv hU
      rw [List.length_cons] at hU ⊢
      have hx := hv x (List.mem_cons_self ..)
      unfold seenE
      rw [encs_cons, List.append_assoc, dec_z hx]
      simp only
      rw [Int.toNat_of_nonneg hx.1, ih (i + 1) (U.set i x) (fun y hy => hv y (List.mem_cons_of_mem _ hy)) (by rw [List.length_set]; omega)]
      congr 2
      rw [take_snoc (U.set i x) (by rw [List.length_set]; omega), List.getElem_set_self, List.take_set_of_le (Nat.le_refl _), List.append_assoc]
      rfl
  have := key u 0 [0, 0, 0, 0, 0, 0, 0, 0] hr (by rw [hu]; rfl)
  rw [hu] at this
  exact this
theorem vals_back (S : List UInt8) : ∀ (l acc : List Vl), (∀ v ∈ l, (0 ≤ v.1 ∧ v.1 ≤ 1099511627776) ∧ (0 ≤ v.2.1 ∧ v.2.1 ≤ 1099511627776) ∧ 0 ≤ v.2.2 ∧ v.2.2 ≤ 1099511627776) → valsE l.length acc (encs (valsN l) ++ S) = .ok (acc ++ l, S) := by
  intro l
  induction l with
  | nil => intro acc _; rw [List.append_nil]; rfl
  | cons v l ih =>
    intro acc hv
    obtain ⟨h1, h2, h3⟩ := hv v (List.mem_cons_self ..)
    have hn : encs (valsN (v :: l)) ++ S = Vint.enc v.1.toNat ++ (Vint.enc v.2.1.toNat ++ (Vint.enc v.2.2.toNat ++ (encs (valsN l) ++ S))) := by
      show encs ([v.1, v.2.1, v.2.2] ++ valsN l) ++ S = _
      rw [encs_app, encs_cons, encs_cons, encs_cons, show encs [] = [] from rfl, List.append_nil]
      simp only [List.append_assoc]
    rw [hn, List.length_cons]
    unfold valsE
    have hve : valE (Vint.enc v.1.toNat ++ (Vint.enc v.2.1.toNat ++ (Vint.enc v.2.2.toNat ++ (encs (valsN l) ++ S)))) = .ok (v, encs (valsN l) ++ S) := by
      unfold valE
      rw [dec_z h1]
      simp only
      rw [dec_z h2]
      simp only
      rw [dec_z h3]
      simp only
      rw [Int.toNat_of_nonneg h1.1, Int.toNat_of_nonneg h2.1, Int.toNat_of_nonneg h3.1]
    rw [hve]
    simp only
    rw [ih (acc ++ [v]) (fun x hx => hv x (List.mem_cons_of_mem _ hx)), List.append_assoc]
    rfl
/-- there and back -/
theorem back {b : Bd} (hs : Shaped b) (hr : rightB b = true) : getX (bodyL b) = .ok b := by
  obtain ⟨h1, h2, h3, h4⟩ := (right_iff b).1 hr
  have hsm := rest_small hs hr
  have hl8 := right_l8 hr
  have hu : ∀ x ∈ b.u, 0 ≤ x ∧ x ≤ 1099511627776 := fun x hx => hsm x (by unfold restN; simp [hx])
  have hv : ∀ v ∈ b.l, (0 ≤ v.1 ∧ v.1 ≤ 1099511627776) ∧ (0 ≤ v.2.1 ∧ v.2.1 ≤ 1099511627776) ∧ 0 ≤ v.2.2 ∧ v.2.2 ≤ 1099511627776 := fun v hv => by
    have hm : ∀ x ∈ [v.1, v.2.1, v.2.2], x ∈ restN b := fun x hx => by
      unfold restN
      refine List.mem_append_right _ ?_
      unfold valsN
      exact List.mem_flatMap.2 ⟨v, hv, hx⟩
    exact ⟨hsm _ (hm _ (by simp)), hsm _ (hm _ (by simp)), hsm _ (hm _ (by simp))⟩
  have hb : bodyL b = encs (Tally.numsL b.t 8 ++ [0]) ++ (encs (plansN b.p 8 ++ [0]) ++ (encs b.u ++ (Vint.enc b.l.length ++ (encs (valsN b.l) ++ [])))) := by
    unfold bodyL restN
    have e1 : encs [((b.l.length : Nat) : Int)] = Vint.enc b.l.length := by rw [encs_cons, show encs [] = [] from rfl, List.append_nil, Int.toNat_natCast]
    simp only [encs_app, List.append_assoc, List.append_nil, e1]
  have hn : notesE (encs b.u ++ (Vint.enc b.l.length ++ (encs (valsN b.l) ++ []))) = .ok ((b.u, b.l), []) := by
    unfold notesE
    rw [seen_back hs.u hu]
    simp only
    rw [Vint.dec_enc (by unfold Vint.top; omega)]
    simp only
    rw [if_pos hl8, vals_back [] b.l [] hv]
    rfl
  unfold getX
  have hb2 := hb
  rw [hb, tally_back hs.t h3]
  simp only
  rw [plans_back hs.p h1]
  simp only
  rw [hn]
  simp only
  rw [if_pos ⟨hr, hb2⟩]
end Bo
end Go.Proofs.Ytocoohpekpkmkaa

/- What a frame's board is, in plain words. -/
namespace Go.Proofs.Ytocoohpekpkmkaa
set_option linter.unusedVariables false
set_option linter.unusedSimpArgs false
open Go.RowKit
open Reg (La Vl)
namespace Bo
theorem rowsE_ne {σ : Type} {step : Nat → σ → List UInt8 → Except Nat (σ × List UInt8)} (hs : ∀ p st r y, step p st r = .error y → y ≠ 0) : ∀ (k last : Nat) (st : σ) (n : Nat) (r : List UInt8) (y : Nat), rowsE step k last st n r = .error y → y ≠ 0 := by
  intro k
  induction k with
  | zero => intro last st n r y h; unfold rowsE at h; injection h with h; omega
  | succ k ih =>
    intro last st n r y h
    unfold rowsE at h
    split at h
    · cases h
    · split at h
      · split at h
        · rename_i e; injection h with h; rw [← h]; exact hs _ _ _ _ e
        · split at h
          · rename_i e; injection h with h; rw [← h]; exact dec_ne e
          · exact ih _ _ _ _ _ h
      · injection h with h; omega
theorem rows_ne {σ : Type} {step : Nat → σ → List UInt8 → Except Nat (σ × List UInt8)} (hs : ∀ p st r y, step p st r = .error y → y ≠ 0) {st : σ} {r : List UInt8} {y : Nat} (h : rows step st r = .error y) : y ≠ 0 := by
  unfold rows at h
  split at h
  · rename_i e; injection h with h; rw [← h]; exact dec_ne e
  · exact rowsE_ne hs _ _ _ _ _ _ h
theorem stepT_ne (p : Nat) (t : List Int) (r : List UInt8) (y : Nat) (h : stepT p t r = .error y) : y ≠ 0 := by
  unfold stepT at h
  split at h
  · rename_i e; injection h with h; rw [← h]; exact dec_ne e
  · split at h
    · rename_i e; injection h with h; rw [← h]; exact dec_ne e
    · split at h
      · cases h
      · injection h with h; omega
theorem stepP_ne (p : Nat) (t : List La) (r : List UInt8) (y : Nat) (h : stepP p t r = .error y) : y ≠ 0 := by
  unfold stepP at h
  split at h
  · rename_i e; injection h with h; rw [← h]; exact dec_ne e
  · split at h
    · rename_i e; injection h with h; rw [← h]; exact dec_ne e
    · split at h
      · rename_i e; injection h with h; rw [← h]; exact dec_ne e
      · cases h
theorem seenE_ne : ∀ (k i : Nat) (U : List Int) (r : List UInt8) (y : Nat), seenE k i U r = .error y → y ≠ 0 := by
  intro k
  induction k with
  | zero => intro i U r y h; unfold seenE at h; cases h
  | succ k ih =>
    intro i U r y h
    unfold seenE at h
    split at h
    · rename_i e; injection h with h; rw [← h]; exact dec_ne e
    · exact ih _ _ _ _ h
theorem valE_ne {r : List UInt8} {y : Nat} (h : valE r = .error y) : y ≠ 0 := by
  unfold valE at h
  split at h
  · rename_i e; injection h with h; rw [← h]; exact dec_ne e
  · split at h
    · rename_i e; injection h with h; rw [← h]; exact dec_ne e
    · split at h
      · rename_i e; injection h with h; rw [← h]; exact dec_ne e
      · cases h
theorem valsE_ne : ∀ (k : Nat) (l : List Vl) (r : List UInt8) (y : Nat), valsE k l r = .error y → y ≠ 0 := by
  intro k
  induction k with
  | zero => intro l r y h; unfold valsE at h; cases h
  | succ k ih =>
    intro l r y h
    unfold valsE at h
    split at h
    · rename_i e; injection h with h; rw [← h]; exact valE_ne e
    · exact ih _ _ _ h
theorem notesE_ne {r : List UInt8} {y : Nat} (h : notesE r = .error y) : y ≠ 0 := by
  unfold notesE at h
  split at h
  · rename_i e; injection h with h; rw [← h]; exact seenE_ne _ _ _ _ _ e
  · split at h
    · rename_i e; injection h with h; rw [← h]; exact dec_ne e
    · split at h
      · split at h
        · rename_i e; injection h with h; rw [← h]; exact valsE_ne _ _ _ _ e
        · cases h
      · injection h with h; omega
theorem getX_ne {xs : List UInt8} {y : Nat} (h : getX xs = .error y) : y ≠ 0 := by
  unfold getX at h
  split at h
  · rename_i e; injection h with h; rw [← h]; exact rows_ne stepT_ne e
  · split at h
    · rename_i e; injection h with h; rw [← h]; exact rows_ne stepP_ne e
    · split at h
      · rename_i e; injection h with h; rw [← h]; exact notesE_ne e
      · split at h
        · cases h
        · injection h with h; omega
end Bo
theorem getE_frm {xs : List UInt8} (h : xs.length ≤ 4096) : Bo.getE (Frame.frm xs) = Bo.getX xs := by
  have := Frame.dec_frm h []
  rw [List.append_nil] at this
  exact getE_x this
/-- the board of a frame: read with no error it is that body's -/
theorem getBo_frm {xs : List UInt8} (h : xs.length ≤ 4096) (h0 : (getBo (Frame.frm xs)).2 = 0) : bodyL (getBo (Frame.frm xs)).1 = xs := by
  cases hx : Bo.getX xs with
  | error y =>
    rw [getBo_err (by rw [getE_frm h, hx])] at h0
    exact absurd h0 (Bo.getX_ne hx)
  | ok b =>
    rw [getBo_ok (by rw [getE_frm h, hx])]
    exact (getX_ok hx).2
theorem getBo_put {b : Bd} (hs : Bo.Shaped b) (hr : Bo.rightB b = true) : getBo (Frame.frm (bodyL b)) = (b, 0) := by
  have hl := bodyL_len hs (right_l8 hr)
  exact getBo_ok (by rw [getE_frm (by omega), Bo.back hs hr])
theorem putBo_right {b : Bd} (hr : Bo.rightB b = true) : putBo b = (Frame.frm (bodyL b), 0) := by unfold putBo; rw [if_pos hr]
theorem putBo_wrong {b : Bd} (hr : Bo.rightB b = false) : putBo b = ([], 2) := by unfold putBo; rw [hr]; rfl
theorem rowsE_keep {σ : Type} {P : σ → Prop} {step : Nat → σ → List UInt8 → Except Nat (σ × List UInt8)} (hs : ∀ p st r st' r', P st → step p st r = .ok (st', r') → P st') : ∀ (k last : Nat) (st : σ) (n : Nat) (r : List UInt8) (st' : σ) (r' : List UInt8), P st → Bo.rowsE step k last st n r = .ok (st', r') → P st' := by
  intro k
  induction k with
  | zero => intro last st n r st' r' _ h; unfold Bo.rowsE at h; cases h
  | succ k ih =>
    intro last st n r st' r' hp h
    unfold Bo.rowsE at h
    split at h
    · injection h with h
      injection h with h _
      rw [← h]
      exact hp
    · split at h
      · split at h
        · cases h
        · rename_i e
          split at h
          · cases h
          · exact ih _ _ _ _ _ _ (hs _ _ _ _ _ hp e) h
      · cases h
theorem rows_keep {σ : Type} {P : σ → Prop} {step : Nat → σ → List UInt8 → Except Nat (σ × List UInt8)} (hs : ∀ p st r st' r', P st → step p st r = .ok (st', r') → P st') {st st' : σ} {r r' : List UInt8} (hp : P st) (h : Bo.rows step st r = .ok (st', r')) : P st' := by
  unfold Bo.rows at h
  split at h
  · cases h
  · exact rowsE_keep hs _ _ _ _ _ _ _ hp h
theorem stepT_keep (p : Nat) (t : List Int) (r : List UInt8) (t' : List Int) (r' : List UInt8) (hp : t.length = 16) (h : Bo.stepT p t r = .ok (t', r')) : t'.length = 16 := by
  unfold Bo.stepT at h
  split at h
  · cases h
  · split at h
    · cases h
    · split at h
      · injection h with h
        injection h with h _
        rw [← h]
        simp [hp]
      · cases h
theorem stepP_keep (p : Nat) (t : List La) (r : List UInt8) (t' : List La) (r' : List UInt8) (hp : t.length = 8) (h : Bo.stepP p t r = .ok (t', r')) : t'.length = 8 := by
  unfold Bo.stepP at h
  split at h
  · cases h
  · split at h
    · cases h
    · split at h
      · cases h
      · injection h with h
        injection h with h _
        rw [← h]
        simp [hp]
theorem seenE_keep : ∀ (k i : Nat) (U : List Int) (r : List UInt8) (U' : List Int) (r' : List UInt8), U.length = 8 → Bo.seenE k i U r = .ok (U', r') → U'.length = 8 := by
  intro k
  induction k with
  | zero => intro i U r U' r' hp h; unfold Bo.seenE at h; injection h with h; injection h with h _; rw [← h]; exact hp
  | succ k ih =>
    intro i U r U' r' hp h
    unfold Bo.seenE at h
    split at h
    · cases h
    · exact ih _ _ _ _ _ (by simp [hp]) h
theorem getX_shaped {xs : List UInt8} {b : Bd} (h : Bo.getX xs = .ok b) : Bo.Shaped b := by
  unfold Bo.getX at h
  split at h
  · cases h
  · rename_i e1
    split at h
    · cases h
    · rename_i e2
      split at h
      · cases h
      · rename_i e3
        split at h
        · injection h with h
          rw [← h]
          refine ⟨rows_keep (P := fun t : List Int => t.length = 16) stepT_keep rfl e1, rows_keep (P := fun t : List La => t.length = 8) stepP_keep rfl e2, ?_⟩
          unfold Bo.notesE at e3
          split at e3
          · cases e3
          · rename_i e4
            split at e3
            · cases e3
            · split at e3
              · split at e3
                · cases e3
                · injection e3 with e3
                  injection e3 with e3 _
                  injection e3 with e3 _
                  show _ = 8
                  rw [← e3]
                  exact seenE_keep _ _ _ _ _ _ rfl e4
              · cases e3
        · cases h
theorem getBo_shaped (bs : List UInt8) : Bo.Shaped (getBo bs).1 := by
  unfold getBo
  cases hg : Bo.getE bs with
  | error y => exact Bo.zero_shaped
  | ok b =>
    unfold Bo.getE at hg
    split at hg
    · cases hg
    · split at hg
      · exact getX_shaped hg
      · cases hg
end Go.Proofs.Ytocoohpekpkmkaa

namespace Go.Proofs.Ytocoohpekpkmkaa.BoardBytes
set_option linter.unusedVariables false
set_option linter.unusedSimpArgs false
open Go.ChangeShapes Go.WideShapes Go.ChangeAt Go.RowKit Go.Deep
open Reg (La Vl)
theorem sameTB {b : Bd} (hs : Bo.Shaped b) (hw : WfB b) {q q2 : Value} {w : World} (h : FrBo b q w) (h2 : FrBo b q2 w) : Calls Try.prog 35 #[q, q2] w (GiveBo w true) := by
  have := bsame_any b b hs hs hw hw q q2 w h h2
  rwa [(sameB_iff b b).2 rfl] at this
set_option maxRecDepth 100000 in
set_option maxHeartbeats 1000000 in
theorem walk (b : Bd) (A : Option Addr) (n c : Nat) (Ab : Option Addr) (nb cb : Nat) (bs : List UInt8) (w : World) (hs : Bo.Shaped b) (hw : WfB b) (hr : RdV w w.heap.size A n b.l) (hn : n ≤ maxLen) (hb : RdB w w.heap.size Ab nb bs) (hnb : nb ≤ maxLen) :
    Calls Try.prog 7 #[.agg (bc b (.slice A n c)), .slice Ab nb cb] w fun e w' => e = .returned (.bool true) ∧ Below w.heap.size w w' := by
  unfold maxLen at hn hnb
  obtain ⟨C, hC⟩ : ∃ C, C = bc b (.slice A n c) := ⟨_, rfl⟩
  rw [← hC]
  have HSZ := Lib.hid (show C.size = 49 by rw [hC]; exact bc_size hs)
  have HT := Lib.hid (show C[48]? = some (.slice A n c) by rw [hC]; exact bc_last hs)
  have HF := Lib.hid (show n ≤ 1000 → FrBo b (.agg C) w from fun h => ⟨A, n, c, by rw [hC], hr, by omega⟩)
  have HS := Lib.hid hs
  have HW := Lib.hid hw
  have HB := Lib.hid fun (w' : World) (h : Below w.heap.size w w') => hb.below h
  have HBN := Lib.hid hb.1
  clear hC hs hw hr hb
  go_enter Try.func7, Try.ntmps7
  go_upto_region 1 with fail
  refine nameW ?_
  intro wv hwv
  obtain ⟨B, hBe⟩ : ∃ B, B = w.heap.size := ⟨_, rfl⟩
  rw [← hBe]
  have kb : Blk wv B 76 C := by rw [hwv, hBe]; exact Blk.new w _ _
  have gb : Below w.heap.size w wv := by rw [hwv]; exact (Below.refl _ _).alloc (Nat.le_refl _) _
  clear hwv hBe
  go_wp2_with fail
  refine (balive_any _).mono ?_
  rintro e w1 ⟨rfl, bb⟩
  have kb := kb.below bb kb.lt
  have gb := gb.trans (bb.mono gb.size)
  clear bb
  have t48 : w1.cell? ⟨B, 48, none⟩ = some (.slice A n c) := (kb.cell 48).trans HT.out
  by_cases hg1 : 1000 < n
  · have hd1 : decide ((1000 : Int) < (n : Int)) = true := decide_eq_true (by omega)
    go_wp2_with fail
    go_ret
    exact ⟨rfl, gb⟩
  have hd1 : decide ((1000 : Int) < (n : Int)) = false := decide_eq_false (by omega)
  by_cases hg2 : 1000 < nb
  · have hd2 : decide ((1000 : Int) < (nb : Int)) = true := decide_eq_true (by omega)
    go_wp2_with fail
    go_ret
    exact ⟨rfl, gb⟩
  have hd2 : decide ((1000 : Int) < (nb : Int)) = false := decide_eq_false (by omega)
  have HBS := Lib.hid (show bs.length ≤ 4096 by rw [← HBN.out]; omega)
  have HNB := Lib.hid (show nb ≤ 4096 by omega)
  go_upto_region 5 with fail
  have h2 : FrBo b (.agg C) w1 := (HF.out (by omega)).below gb
  clear t48 hd1 hg1 hd2 hg2 HF HT
  obtain ⟨P, hP⟩ : ∃ P, P = putBo b := ⟨_, rfl⟩
  have hc1 := fun (w' : World) (q : Value) (h : FrBo b q w') => bput_any b HS.out q w' h
  have hc2 := fun (w' : World) (q : Value) (h : FrBo b q w') => brput_any b HS.out q w' h
  rw [← hP] at hc1 hc2
  have HC1 := Lib.hid hc1
  have HC2 := Lib.hid hc2
  have HP := Lib.hid hP
  have HPL := Lib.hid (show P.1.length ≤ 5000 by
    rw [hP]
    unfold putBo
    split
    · rename_i h
      simp only
      rw [Frame.frm_length]
      have h1 := bodyL_len HS.out (right_l8 h)
      have h2 := Vint.enc_length (bodyL b).length
      omega
    · exact Nat.zero_le _)
  clear hc1 hc2 hP
  obtain ⟨pb, pe⟩ := P
  simp only at HC1 HC2 HPL
  go_wp2_with first
    | ((with_reducible refine wpList_ld rowRBo kb HSZ.out ?_ ?_); rotate_left; (rfl))
  refine (boTo_any b HS.out _ _ h2).mono ?_
  rintro e wa ⟨q, rfl, h5, bb⟩
  have kb := kb.below bb kb.lt
  have h2 := h2.below bb
  have gb := gb.trans (bb.mono gb.size)
  clear bb
  go_wp2_with first
    | ((with_reducible refine wpList_ld rowRBo kb HSZ.out ?_ ?_); rotate_left; (rfl))
  refine (HC1.out _ _ h5.fresh).mono ?_
  rintro e wc ⟨A5, n5, c5, rfl, o5, bb⟩
  have o5 := o5.mono (Nat.zero_le _)
  have kb := kb.below bb kb.lt
  have h2 := h2.below bb
  have gb := gb.trans (bb.mono gb.size)
  clear bb
  go_wp2_with first
    | ((with_reducible refine wpList_ld rowRBo kb HSZ.out ?_ ?_); rotate_left; (rfl))
  refine (HC2.out _ _ h2).mono ?_
  rintro e wd ⟨A7, n7, c7, rfl, o7, bb⟩
  have o7 := o7.mono (Nat.zero_le _)
  have o5 := o5.below bb (Nat.le_refl _)
  have kb := kb.below bb kb.lt
  have h2 := h2.below bb
  have gb := gb.trans (bb.mono gb.size)
  clear bb
  have hn5 : n5 ≤ 9223372036854775807 := by rw [o5.1]; exact Nat.le_trans HPL.out (Nat.le_of_ble_eq_true rfl)
  have HSM := Lib.hid (same_eq A5 A7 n5 c5 n7 c7 pb wd.heap.size wd.heap.size wd o5.rd o7.rd hn5)
  clear hn5 o7 h5
  go_wp2_with fail
  refine HSM.out.mono ?_
  rintro e we ⟨rfl, md, rfl⟩
  have bb := below_drewN (Below.refl wd.heap.size wd) md
  have o5 := o5.below bb (Nat.le_refl _)
  clear HSM
  have kb := kb.below bb kb.lt
  have h2 := h2.below bb
  have gb := gb.trans (bb.mono gb.size)
  clear bb
  have GB0 := Lib.hid gb
  go_upto_if 52 with fail
  go_cut [] (fun wx => Below w.heap.size w wx)
  case first =>
    obtain ⟨R, hR⟩ : ∃ R, R = Bo.rightB b := ⟨_, rfl⟩
    have HR := Lib.hid hR
    clear hR
    cases R
    case false =>
      obtain ⟨rfl, rfl⟩ : pb = [] ∧ pe = 2 := by
        have := HP.out
        rw [putBo_wrong HR.out.symm] at this
        injection this with h1 h2
        exact ⟨h1, h2⟩
      clear o5 kb h2 gb
      go_wp2_with fail
      go_meet
      first | exact GB0.out | exact GB0.out.trans ((below_drewN (Below.refl _ _) _).mono GB0.out.size)
    case true =>
    obtain ⟨hpb, rfl⟩ : pb = Frame.frm (bodyL b) ∧ pe = 0 := by
      have := HP.out
      rw [putBo_right HR.out.symm] at this
      injection this with h1 h2
      exact ⟨h1, h2⟩
    have hcap := ownsRow_le o5.2
    have hnx : n5 ≤ 1000000 := by rw [o5.1]; have := HPL.out; omega
    have hg := fun (w' : World) (o : OwnB w' 0 A5 n5 c5 pb) => bget_any A5 n5 c5 pb w' o.rd hnx hcap.1 hcap.2
    rw [show getBo pb = (b, 0) by rw [hpb]; exact getBo_put HS.out HR.out.symm] at hg
    have HG := Lib.hid hg
    have HO5 := Lib.hid o5
    clear hg hcap hnx HP HC1 HC2 hpb o5
    go_wp2_with fail
    refine (HG.out _ HO5.out).mono ?_
    rintro e wf ⟨q, rfl, h9, bb⟩
    obtain ⟨Q9, rfl⟩ := h9.fresh.agg
    have s9 := h9.fresh.size HS.out
    have o9 := h9.fresh.one
    clear HO5 HG
    have kb := kb.below bb kb.lt
    have h2 := h2.below bb
    have gb := gb.trans (bb.mono gb.size)
    clear bb
    go_upto_region 11 with first
      | ((with_reducible refine wpList_ld rowRBo kb HSZ.out ?_ ?_); rotate_left; (rfl))
      | ((with_reducible refine wpList_st rowBo (Blk.new _ _ _) s9 ?_ o9 ?_ ?_ ?_); (rfl); rotate_left; (rfl); (rfl); intro gaw k9 ga gaz)
    have bb := new_below ga
    have h9 := h9.below bb
    have kb := kb.below bb kb.lt
    have h2 := h2.below bb
    have gb := gb.trans (bb.mono gb.size)
    clear bb
    generalize hg9 : wf.heap.size = g9 at k9
    clear hg9 ga gaz o9
    have h9v := h9
    have h2v := h2
    refine wp_region_facts (fun L v w => v 9 = .pointer (some ⟨g9, 0, none⟩) ∧ v 2 = .pointer (some ⟨B, 0, none⟩) ∧ v 10 = .int .i64 0 ∧ Below gaw.heap.size gaw w ∧ (L 0 = true → v 58 = .int .i64 0) ∧ (L 1 = true → v 59 = .bool false) ∧ (L 2 = true → v 60 = .bool false) ∧ (L 3 = true → v 61 = .agg Q9) ∧ (L 4 = true → FoBo 105 b (v 62) w) ∧ (L 5 = true → v 63 = .agg C) ∧ (L 6 = true → v 64 = .bool true) ∧ (L 7 = true → v 65 = .bool false) ∧ (L 8 = true → v 66 = .bool false)) [58, 59, 60, 61, 62, 63, 64, 65, 66] (by kernel_rfl) (by kernel_rfl) (by kernel_rfl) (by kernel_rfl) ?h0 ?hst ?hend
    case h0 =>
      intro L h0
      have h0 : ∀ i, i < 9 → L i = false := h0
      exact ⟨rfl, rfl, rfl, (Below.refl _ _).drew, offF h0 (i := 0) (by decide), offF h0 (i := 1) (by decide), offF h0 (i := 2) (by decide), offF h0 (i := 3) (by decide), offF h0 (i := 4) (by decide), offF h0 (i := 5) (by decide), offF h0 (i := 6) (by decide), offF h0 (i := 7) (by decide), offF h0 (i := 8) (by decide)⟩
    case hst =>
      show FactSteps _ _ _ _ [0, 1, 2, 3, 4, 5, 6, 7, 8]
      refine @FactSteps.cons _ _ _ _ 0 _ [] _ rfl (by kernel_rfl) ?s0 ?_
      rotate_left
      refine @FactSteps.cons _ _ _ _ 1 _ [0] _ rfl (by kernel_rfl) ?s1 ?_
      rotate_left
      refine @FactSteps.cons _ _ _ _ 2 _ [1] _ rfl (by kernel_rfl) ?s2 ?_
      rotate_left
      refine @FactSteps.cons _ _ _ _ 3 _ [2] _ rfl (by kernel_rfl) ?s3 ?_
      rotate_left
      refine @FactSteps.cons _ _ _ _ 4 _ [3, 2, 2] _ rfl (by kernel_rfl) ?s4 ?_
      rotate_left
      refine @FactSteps.cons _ _ _ _ 5 _ [2] _ rfl (by kernel_rfl) ?s5 ?_
      rotate_left
      refine @FactSteps.cons _ _ _ _ 6 _ [4, 5, 4, 2] _ rfl (by kernel_rfl) ?s6 ?_
      rotate_left
      refine @FactSteps.cons _ _ _ _ 7 _ [6, 2] _ rfl (by kernel_rfl) ?s7 ?_
      rotate_left
      refine @FactSteps.cons _ _ _ _ 8 _ [2, 7] _ rfl (by kernel_rfl) ?s8 ?_
      rotate_left
      exact FactSteps.nil
      case s0 =>
        rintro L a v w hv hg hL hd hcl ⟨e9, e2, e10, hb, f0, f1, f2, f3, f4, f5, f6, f7, f8⟩ K hK
        refine step_do rfl ?_
        clear hv
        go_simp
        exact hK.out _ _ ⟨e9, e2, e10, hb, fun _ => rfl, f1, f2, f3, f4, f5, f6, f7, f8⟩
      case s1 =>
        rintro L a v w hv hg hL hd hcl ⟨e9, e2, e10, hb, f0, f1, f2, f3, f4, f5, f6, f7, f8⟩ K hK
        have g0 := f0 (hd 0 (by decide))
        refine step_do rfl ?_
        clear hv
        go_simp
        exact hK.out _ _ ⟨e9, e2, e10, hb, f0, fun _ => rfl, f2, f3, f4, f5, f6, f7, f8⟩
      case s2 =>
        rintro L a v w hv hg hL hd hcl ⟨e9, e2, e10, hb, f0, f1, f2, f3, f4, f5, f6, f7, f8⟩ K hK
        have g1 := f1 (hd 1 (by decide))
        refine step_do rfl ?_
        clear hv
        go_simp
        exact hK.out _ _ ⟨e9, e2, e10, hb, f0, f1, fun _ => rfl, f3, f4, f5, f6, f7, f8⟩
      case s3 =>
        rintro L a v w hv hg hL hd hcl ⟨e9, e2, e10, hb, f0, f1, f2, f3, f4, f5, f6, f7, f8⟩ K hK
        refine step_want (j := 2) (s := 60) (b := false) rfl rfl ((hv 60).trans (f2 (hd 2 (by decide)))) ?_
        refine wp_ld rowBo (.tmp 9) rfl ((hv 9).trans e9) (k9.below hb k9.lt) s9 ?_
        exact hK.out _ _ ⟨e9, e2, e10, hb, f0, f1, f2, fun _ => rfl, f4, f5, f6, f7, f8⟩
      case s4 =>
        rintro L a v w hv hg hL hd hcl ⟨e9, e2, e10, hb, f0, f1, f2, f3, f4, f5, f6, f7, f8⟩ K hK
        have h3 := f3 (hd 3 (by decide))
        refine step_want (j := 2) (s := 60) (b := false) rfl rfl ((hv 60).trans (f2 (hd 2 (by decide)))) ?_
        clear hv
        go_simp
        refine (boFrom_any b HS.out _ _ (h9v.below hb).fresh).mono ?_
        rintro e wy ⟨q, rfl, hq, bb⟩
        exact hK.out _ _ ⟨e9, e2, e10, (hb.trans (bb.mono hb.size)), f0, f1, f2, f3, fun _ => hq, f5, f6, f7, f8⟩
      case s5 =>
        rintro L a v w hv hg hL hd hcl ⟨e9, e2, e10, hb, f0, f1, f2, f3, f4, f5, f6, f7, f8⟩ K hK
        refine step_want (j := 2) (s := 60) (b := false) rfl rfl ((hv 60).trans (f2 (hd 2 (by decide)))) ?_
        refine wp_ld rowRBo (.tmp 2) rfl ((hv 2).trans e2) (kb.below hb kb.lt) HSZ.out ?_
        exact hK.out _ _ ⟨e9, e2, e10, hb, f0, f1, f2, f3, f4, fun _ => rfl, f6, f7, f8⟩
      case s6 =>
        rintro L a v w hv hg hL hd hcl ⟨e9, e2, e10, hb, f0, f1, f2, f3, f4, f5, f6, f7, f8⟩ K hK
        have h4 := f4 (hd 4 (by decide))
        have h5 := f5 (hd 5 (by decide))
        refine step_want (j := 2) (s := 60) (b := false) rfl rfl ((hv 60).trans (f2 (hd 2 (by decide)))) ?_
        clear hv
        go_simp
        refine (sameTB HS.out HW.out h4.fresh (h2v.below hb)).mono ?_
        rintro e wy ⟨rfl, bb⟩
        exact hK.out _ _ ⟨e9, e2, e10, (hb.trans (bb.mono hb.size)), f0, f1, f2, f3, (fun h => (f4 h).below bb), f5, fun _ => rfl, f7, f8⟩
      case s7 =>
        rintro L a v w hv hg hL hd hcl ⟨e9, e2, e10, hb, f0, f1, f2, f3, f4, f5, f6, f7, f8⟩ K hK
        have g2 := f2 (hd 2 (by decide))
        refine step_want (j := 2) (s := 60) (b := false) rfl rfl ((hv 60).trans (f2 (hd 2 (by decide)))) ?_
        clear hv
        go_simp
        exact hK.out _ _ ⟨e9, e2, e10, hb, f0, f1, f2, f3, f4, f5, f6, fun _ => rfl, f8⟩
      case s8 =>
        rintro L a v w hv hg hL hd hcl ⟨e9, e2, e10, hb, f0, f1, f2, f3, f4, f5, f6, f7, f8⟩ K hK
        have g2 := f2 (hd 2 (by decide))
        have g7 := f7 (hd 7 (by decide))
        refine step_do rfl ?_
        clear hv
        go_simp
        exact hK.out _ _ ⟨e9, e2, e10, hb, f0, f1, f2, f3, f4, f5, f6, f7, fun _ => rfl⟩
    case hend =>
    rintro L v wg hall ⟨e9, e2, e10, hb, f0, f1, f2, f3, f4, f5, f6, f7, f8⟩
    have hL : ∀ i, i < 9 → L i = true := hall
    have f0 := f0 (hL 0 (by decide))
    have f1 := f1 (hL 1 (by decide))
    have f2 := f2 (hL 2 (by decide))
    have f3 := f3 (hL 3 (by decide))
    have f4 := f4 (hL 4 (by decide))
    have f5 := f5 (hL 5 (by decide))
    have f6 := f6 (hL 6 (by decide))
    have f7 := f7 (hL 7 (by decide))
    have f8 := f8 (hL 8 (by decide))
    simp only [finA, List.foldl_cons, List.foldl_nil, Act.put, List.setIfInBounds_toArray, List.set_cons_succ, List.set_cons_zero, f0, f1, f2, f3, f5, f7, f8, f6]
    have gb := gb.trans (hb.mono gb.size)
    clear e9 e2 e10 f0 f1 f2 f3 f4 f5 f6 f7 f8 hL hall h9 h2 h9v h2v kb k9 hb
    go_wp2_with fail
    go_meet
    exact gb
  case rest =>
  clear o5 kb h2 gb GB0 HP HC1 HC2 HPL HS HW HSZ
  have gb := hcut
  clear hcut
  obtain ⟨u, hu⟩ : ∃ u, u = getBo (Frame.frm bs) := ⟨_, rfl⟩
  have US := Lib.hid (show Bo.Shaped u.1 by rw [hu]; exact getBo_shaped _)
  have UR := Lib.hid (show Bo.rightB u.1 = true by rw [hu]; exact getBo_right _)
  have UB := Lib.hid (show u.2 = 0 → bodyL u.1 = bs by rw [hu]; exact getBo_frm HBS.out)
  have hc1 := fun (A : Option Addr) (n c : Nat) (w' : World) (o : OwnB w' 0 A n c (Frame.frm bs)) (hl : n ≤ 1000000) => bget_any A n c (Frame.frm bs) w' o.rd hl (ownsRow_le o.2).1 (ownsRow_le o.2).2
  have hc2 := fun (A : Option Addr) (n c : Nat) (w' : World) (o : OwnB w' 0 A n c (Frame.frm bs)) (hl : n ≤ 1000000) => brget_any A n c (Frame.frm bs) w' o.rd hl (ownsRow_le o.2).1 (ownsRow_le o.2).2
  rw [← hu] at hc1 hc2
  have HC1 := Lib.hid hc1
  have HC2 := Lib.hid hc2
  have HFL := Lib.hid (show (Frame.frm bs).length ≤ 5000 by
    rw [Frame.frm_length]
    have h1 := HBS.out
    have h2 := Vint.enc_length bs.length
    omega)
  clear hu hc1 hc2
  obtain ⟨u, ge⟩ := u
  simp only at US UR UB HC1 HC2
  have HPU := Lib.hid fun (w' : World) (q : Value) (h : FrBo u q w') => bput_any u US.out q w' h
  obtain ⟨Z, hZ⟩ : ∃ Z, Z = Frame.frm bs := ⟨_, rfl⟩
  have HZ := Lib.hid hZ
  have hfp := fun (w' : World) (h : Below w.heap.size w w') => Frame.put_ok Ab nb cb bs w.heap.size w' (HB.out w' h) h.size HNB.out
  rw [← hZ] at hfp HC1 HC2 HFL
  have HFP := Lib.hid hfp
  clear hZ hfp
  go_wp2_with fail
  refine (HFP.out _ gb).mono ?_
  rintro e wa ⟨A11, n11, c11, rfl, o11, bb⟩
  have o11 := o11.mono (Nat.zero_le _)
  have hl11 : n11 ≤ 1000000 := by rw [o11.1]; have := HFL.out; omega
  have gb := gb.trans (bb.mono gb.size)
  clear bb HFP
  go_wp2_with fail
  refine (HC1.out _ _ _ _ o11 hl11).mono ?_
  rintro e wc ⟨q, rfl, h13, bb⟩
  obtain ⟨Q13, rfl⟩ := h13.fresh.agg
  have s13 := h13.fresh.size US.out
  have p13 := h13.fresh.one
  have o11 := o11.below bb (Nat.le_refl _)
  have gb := gb.trans (bb.mono gb.size)
  clear bb HC1
  go_upto_region 15 with first
    | ((with_reducible refine wpList_st rowBo (Blk.new _ _ _) s13 ?_ p13 ?_ ?_ ?_); (rfl); rotate_left; (rfl); (rfl); intro gaw k13 ga gaz)
  have bb := new_below ga
  have h13 := h13.below bb
  have o11 := o11.below bb (Nat.le_refl _)
  have gb := gb.trans (bb.mono gb.size)
  generalize hg13 : wc.heap.size = g13 at k13
  clear hg13 ga gaz p13 bb
  go_wp2_with fail
  refine (HC2.out _ _ _ _ o11 hl11).mono ?_
  rintro e wd ⟨q, rfl, h15, bb⟩
  obtain ⟨Q15, rfl⟩ := h15.agg
  have s15 := h15.size US.out
  have p15 := h15.one
  have o11 := o11.below bb (Nat.le_refl _)
  have h13 := h13.below bb
  have k13 := k13.below bb k13.lt
  have gb := gb.trans (bb.mono gb.size)
  clear bb HC2
  go_upto_region 16 with first
    | ((with_reducible refine wpList_st rowRBo (Blk.new _ _ _) s15 ?_ p15 ?_ ?_ ?_); (rfl); rotate_left; (rfl); (rfl); intro gaw k15 ga gaz)
  have bb := new_below ga
  have h13 := h13.below bb
  have h15 := h15.below bb
  have k13 := k13.below bb k13.lt
  have o11 := o11.below bb (Nat.le_refl _)
  have gb := gb.trans (bb.mono gb.size)
  generalize hg15 : wd.heap.size = g15 at k15
  clear hg15 ga gaz p15 bb hl11
  have h13v := h13
  have h15v := h15
  refine wp_region_facts (fun L v w => v 13 = .pointer (some ⟨g13, 0, none⟩) ∧ v 15 = .pointer (some ⟨g15, 0, none⟩) ∧ v 14 = .int .i64 (ge : Nat) ∧ v 16 = .int .i64 (ge : Nat) ∧ Below gaw.heap.size gaw w ∧ (L 0 = true → v 82 = .agg Q13) ∧ (L 1 = true → FoBo 105 u (v 83) w) ∧ (L 2 = true → v 84 = .agg Q15) ∧ (L 3 = true → v 85 = .bool true) ∧ (L 4 = true → v 86 = .bool false) ∧ (L 5 = true → v 87 = .bool false) ∧ (L 6 = true → v 88 = .int .i64 (ge : Nat)) ∧ (L 7 = true → v 89 = .int .i64 (ge : Nat)) ∧ (L 8 = true → v 90 = .bool false) ∧ (L 9 = true → v 91 = .bool false)) [82, 83, 84, 85, 86, 87, 88, 89, 90, 91] (by kernel_rfl) (by kernel_rfl) (by kernel_rfl) (by kernel_rfl) ?h0 ?hst ?hend
  case h0 =>
    intro L h0
    have h0 : ∀ i, i < 10 → L i = false := h0
    exact ⟨rfl, rfl, rfl, rfl, (Below.refl _ _).drew, offF h0 (i := 0) (by decide), offF h0 (i := 1) (by decide), offF h0 (i := 2) (by decide), offF h0 (i := 3) (by decide), offF h0 (i := 4) (by decide), offF h0 (i := 5) (by decide), offF h0 (i := 6) (by decide), offF h0 (i := 7) (by decide), offF h0 (i := 8) (by decide), offF h0 (i := 9) (by decide)⟩
  case hst =>
    show FactSteps _ _ _ _ [0, 1, 2, 3, 4, 5, 6, 7, 8, 9]
    refine @FactSteps.cons _ _ _ _ 0 _ [] _ rfl (by kernel_rfl) ?s0 ?_
    rotate_left
    refine @FactSteps.cons _ _ _ _ 1 _ [0] _ rfl (by kernel_rfl) ?s1 ?_
    rotate_left
    refine @FactSteps.cons _ _ _ _ 2 _ [] _ rfl (by kernel_rfl) ?s2 ?_
    rotate_left
    refine @FactSteps.cons _ _ _ _ 3 _ [1, 2, 1] _ rfl (by kernel_rfl) ?s3 ?_
    rotate_left
    refine @FactSteps.cons _ _ _ _ 4 _ [3] _ rfl (by kernel_rfl) ?s4 ?_
    rotate_left
    refine @FactSteps.cons _ _ _ _ 5 _ [4, 3] _ rfl (by kernel_rfl) ?s5 ?_
    rotate_left
    refine @FactSteps.cons _ _ _ _ 6 _ [5] _ rfl (by kernel_rfl) ?s6 ?_
    rotate_left
    refine @FactSteps.cons _ _ _ _ 7 _ [5] _ rfl (by kernel_rfl) ?s7 ?_
    rotate_left
    refine @FactSteps.cons _ _ _ _ 8 _ [6, 7, 5] _ rfl (by kernel_rfl) ?s8 ?_
    rotate_left
    refine @FactSteps.cons _ _ _ _ 9 _ [5, 8] _ rfl (by kernel_rfl) ?s9 ?_
    rotate_left
    exact FactSteps.nil
    case s0 =>
      rintro L a v w hv hg hL hd hcl ⟨e13, e15, e14, e16, hb, f0, f1, f2, f3, f4, f5, f6, f7, f8, f9⟩ K hK
      refine step_do rfl ?_
      refine wp_ld rowBo (.tmp 13) rfl ((hv 13).trans e13) (k13.below hb k13.lt) s13 ?_
      exact hK.out _ _ ⟨e13, e15, e14, e16, hb, fun _ => rfl, f1, f2, f3, f4, f5, f6, f7, f8, f9⟩
    case s1 =>
      rintro L a v w hv hg hL hd hcl ⟨e13, e15, e14, e16, hb, f0, f1, f2, f3, f4, f5, f6, f7, f8, f9⟩ K hK
      have h0 := f0 (hd 0 (by decide))
      refine step_do rfl ?_
      clear hv
      go_simp
      refine (boFrom_any u US.out _ _ (h13v.below hb).fresh).mono ?_
      rintro e wy ⟨q, rfl, hq, bb⟩
      exact hK.out _ _ ⟨e13, e15, e14, e16, (hb.trans (bb.mono hb.size)), f0, fun _ => hq, f2, f3, f4, f5, f6, f7, f8, f9⟩
    case s2 =>
      rintro L a v w hv hg hL hd hcl ⟨e13, e15, e14, e16, hb, f0, f1, f2, f3, f4, f5, f6, f7, f8, f9⟩ K hK
      refine step_do rfl ?_
      refine wp_ld rowRBo (.tmp 15) rfl ((hv 15).trans e15) (k15.below hb k15.lt) s15 ?_
      exact hK.out _ _ ⟨e13, e15, e14, e16, hb, f0, f1, fun _ => rfl, f3, f4, f5, f6, f7, f8, f9⟩
    case s3 =>
      rintro L a v w hv hg hL hd hcl ⟨e13, e15, e14, e16, hb, f0, f1, f2, f3, f4, f5, f6, f7, f8, f9⟩ K hK
      have h1 := f1 (hd 1 (by decide))
      have h2 := f2 (hd 2 (by decide))
      refine step_do rfl ?_
      clear hv
      go_simp
      refine (sameTB US.out (right_wfB UR.out) h1.fresh (h15v.below hb)).mono ?_
      rintro e wy ⟨rfl, bb⟩
      exact hK.out _ _ ⟨e13, e15, e14, e16, (hb.trans (bb.mono hb.size)), f0, (fun h => (f1 h).below bb), f2, fun _ => rfl, f4, f5, f6, f7, f8, f9⟩
    case s4 =>
      rintro L a v w hv hg hL hd hcl ⟨e13, e15, e14, e16, hb, f0, f1, f2, f3, f4, f5, f6, f7, f8, f9⟩ K hK
      refine step_do rfl ?_
      clear hv
      go_simp
      exact hK.out _ _ ⟨e13, e15, e14, e16, hb, f0, f1, f2, f3, fun _ => rfl, f5, f6, f7, f8, f9⟩
    case s5 =>
      rintro L a v w hv hg hL hd hcl ⟨e13, e15, e14, e16, hb, f0, f1, f2, f3, f4, f5, f6, f7, f8, f9⟩ K hK
      have g4 := f4 (hd 4 (by decide))
      refine step_do rfl ?_
      clear hv
      go_simp
      exact hK.out _ _ ⟨e13, e15, e14, e16, hb, f0, f1, f2, f3, f4, fun _ => rfl, f6, f7, f8, f9⟩
    case s6 =>
      rintro L a v w hv hg hL hd hcl ⟨e13, e15, e14, e16, hb, f0, f1, f2, f3, f4, f5, f6, f7, f8, f9⟩ K hK
      have g5 := f5 (hd 5 (by decide))
      refine step_want (j := 5) (s := 87) (b := false) rfl rfl ((hv 87).trans (f5 (hd 5 (by decide)))) ?_
      clear hv
      go_simp
      exact hK.out _ _ ⟨e13, e15, e14, e16, hb, f0, f1, f2, f3, f4, f5, fun _ => rfl, f7, f8, f9⟩
    case s7 =>
      rintro L a v w hv hg hL hd hcl ⟨e13, e15, e14, e16, hb, f0, f1, f2, f3, f4, f5, f6, f7, f8, f9⟩ K hK
      have g5 := f5 (hd 5 (by decide))
      refine step_want (j := 5) (s := 87) (b := false) rfl rfl ((hv 87).trans (f5 (hd 5 (by decide)))) ?_
      clear hv
      go_simp
      exact hK.out _ _ ⟨e13, e15, e14, e16, hb, f0, f1, f2, f3, f4, f5, f6, fun _ => rfl, f8, f9⟩
    case s8 =>
      rintro L a v w hv hg hL hd hcl ⟨e13, e15, e14, e16, hb, f0, f1, f2, f3, f4, f5, f6, f7, f8, f9⟩ K hK
      have g5 := f5 (hd 5 (by decide))
      have g6 := f6 (hd 6 (by decide))
      have g7 := f7 (hd 7 (by decide))
      refine step_want (j := 5) (s := 87) (b := false) rfl rfl ((hv 87).trans (f5 (hd 5 (by decide)))) ?_
      clear hv
      go_simp
      exact hK.out _ _ ⟨e13, e15, e14, e16, hb, f0, f1, f2, f3, f4, f5, f6, f7, fun _ => rfl, f9⟩
    case s9 =>
      rintro L a v w hv hg hL hd hcl ⟨e13, e15, e14, e16, hb, f0, f1, f2, f3, f4, f5, f6, f7, f8, f9⟩ K hK
      have g5 := f5 (hd 5 (by decide))
      have g8 := f8 (hd 8 (by decide))
      refine step_do rfl ?_
      clear hv
      go_simp
      exact hK.out _ _ ⟨e13, e15, e14, e16, hb, f0, f1, f2, f3, f4, f5, f6, f7, f8, fun _ => rfl⟩
  case hend =>
  rintro L v wg hall ⟨e13, e15, e14, e16, hb, f0, f1, f2, f3, f4, f5, f6, f7, f8, f9⟩
  have hL : ∀ i, i < 10 → L i = true := hall
  have f0 := f0 (hL 0 (by decide))
  have f1 := f1 (hL 1 (by decide))
  have f2 := f2 (hL 2 (by decide))
  have f3 := f3 (hL 3 (by decide))
  have f4 := f4 (hL 4 (by decide))
  have f5 := f5 (hL 5 (by decide))
  have f6 := f6 (hL 6 (by decide))
  have f7 := f7 (hL 7 (by decide))
  have f8 := f8 (hL 8 (by decide))
  have f9 := f9 (hL 9 (by decide))
  simp only [finA, List.foldl_cons, List.foldl_nil, Act.put, List.setIfInBounds_toArray, List.set_cons_succ, List.set_cons_zero, f0, f2, f4, f5, f6, f7, f8, f9, f3]
  have gb := gb.trans (hb.mono gb.size)
  have h13 := h13.below hb
  have k13 := k13.below hb k13.lt
  have o11 := o11.below hb (Nat.le_refl _)
  clear e13 e15 e14 e16 f0 f1 f2 f3 f4 f5 f6 f7 f8 f9 hL hall h15 h13v h15v k15 hb
  by_cases hge : ge = 0
  rotate_left
  · have hq : (((ge : Nat) : Int) != 0) = true := by rw [bne_iff_ne]; omega
    go_wp2_with fail
    go_ret
    exact ⟨rfl, gb⟩
  subst hge
  have hub := UB.out rfl
  have hpu := HPU.out
  rw [putBo_right UR.out, hub, ← HZ.out] at hpu
  have HPU2 := Lib.hid hpu
  clear HPU hpu hub UB
  go_wp2_with first
    | ((with_reducible refine wpList_ld rowBo k13 s13 ?_ ?_); rotate_left; (rfl))
  refine (HPU2.out _ _ h13.fresh).mono ?_
  rintro e wh ⟨A17, n17, c17, rfl, o17, bb⟩
  have o17 := o17.mono (Nat.zero_le _)
  have o11 := o11.below bb (Nat.le_refl _)
  have gb := gb.trans (bb.mono gb.size)
  have hn17 : n17 ≤ 9223372036854775807 := by rw [o17.1]; exact Nat.le_trans HFL.out (Nat.le_of_ble_eq_true rfl)
  have HSM := Lib.hid (same_eq A17 A11 n17 c17 n11 c11 Z wh.heap.size wh.heap.size wh o17.rd o11.rd hn17)
  clear bb HPU2 h13 k13 o17 o11 hn17
  go_wp2_with fail
  refine HSM.out.mono ?_
  rintro e wi ⟨rfl, md, rfl⟩
  have gb := gb.trans ((below_drewN (Below.refl wh.heap.size wh) md).mono gb.size)
  clear HSM
  go_wp2_with fail
  go_ret
  exact ⟨rfl, gb⟩
set_option maxRecDepth 100000 in
theorem lifted (os : Os) (started : os.Started) (H : Type) (enc : TypeId × Value → H) :
    ReturnsInHanded {} Try.checked os 7 .any (Rows.boardBytesSpec.pre6 enc Try.prog Try.f7 Rows.boardBytesRow.domain false) (Rows.boardBytesSpec.post enc Try.prog Try.f7 false true false false) := by
  refine returnsInHanded_of_change (C := Try.checked) own started (by kernel_rfl) Try.func7
    (ChangeSpec.witness6 (enc := enc) (C := Try.checked) false ⟨#[], #[.agg #[.int .i64 0, .int .i64 0, .int .i64 0, .int .i64 0, .int .i64 0, .int .i64 0, .int .i64 0, .int .i64 0, .int .i64 0, .int .i64 0, .int .i64 0, .int .i64 0, .int .i64 0, .int .i64 0, .int .i64 0, .int .i64 0, .int .i64 0, .int .i64 0, .int .i64 0, .int .i64 0, .int .i64 0, .int .i64 0, .int .i64 0, .int .i64 0, .int .i64 0, .int .i64 0, .int .i64 0, .int .i64 0, .int .i64 0, .int .i64 0, .int .i64 0, .int .i64 0, .int .i64 0, .int .i64 0, .int .i64 0, .int .i64 0, .int .i64 0, .int .i64 0, .int .i64 0, .int .i64 0, .int .i64 0, .int .i64 0, .int .i64 0, .int .i64 0, .int .i64 0, .int .i64 0, .int .i64 0, .int .i64 0, .slice none 0 0], .slice none 0 0], []⟩ 8 (by kernel_rfl) (by kernel_rfl) (by kernel_rfl) (by kernel_rfl)) ?_
  intro W base args ds gs before hval0 hW hcnd _
  have hval : ∀ (j : Nat) t v, Try.f7.params[j]? = some t → args[j]? = some v → Value.okWide Try.prog W .any base t v := hval0
  have hW' := hW
  obtain ⟨p, q, hA0, hV, rfl, hfz, hnd⟩ := hW
  have hA : DataW.TrodAll enc Try.prog W 0 (fun _ => true) true Try.f7.params.toList args.toList ds p := hA0
  rw [Try.params7] at hA hval
  obtain ⟨v0, vs0, d0, ds0, p0, q0, hargs, rfl, rfl, h0, r0⟩ := trodAll_cons hA
  obtain ⟨v1, vs1, d1, ds1, p1, q1, rfl, rfl, rfl, h1, r1⟩ := trodAll_cons r0
  obtain ⟨rfl, rfl, rfl⟩ := trodAll_nil r1
  obtain rfl : args = #[v0, v1] := by cases args; simp_all
  obtain ⟨rfl, rfl⟩ := trodVars_none hV
  have lt0 : ∀ x ∈ p0, x.block < W.heap.size := by obtain ⟨m, hm⟩ := h0; exact DataW.trod_lt m _ _ _ hm
  have k0 := h0
  have lt1 : ∀ x ∈ p1, x.block < W.heap.size := by obtain ⟨m, hm⟩ := h1; exact DataW.trod_lt m _ _ _ hm
  have k1 := h1
  obtain ⟨b0, A0, n0, c0, rfl, hs0, hw0, hr0, hn0⟩ := open_board (hval 0 76 v0 rfl rfl) h0
  obtain ⟨a1, n1, c1, b1, rfl, w1, l1⟩ := open_bytes (hval 1 77 v1 rfl rfl) h1
  clear hA0 hval0
  refine (walk b0 A0 n0 c0 a1 n1 c1 b1 W hs0 hw0 hr0 hn0 w1 l1).mono fun e W' ⟨he, bel⟩ => ?_
  subst he
  exact ⟨_, rfl, _, _, _, [], _, [], hW', trodAll_mk1 (shut_bool Try.underlying4 _), (trodAll_cons_mk (Below.trod laidOut (by kernel_rfl) (of_decide_eq_true (by kernel_rfl)) k0 bel lt0) (trodAll_cons_mk (Below.trod laidOut (by kernel_rfl) (of_decide_eq_true (by kernel_rfl)) k1 bel lt1) trodAll_mk0)), rfl, bel.frame _, fun h => by cases h⟩

theorem proved : Rows.BoardBytesSaid :=
  OpenClaim.holds_of_wide 7 Try.f7 rfl rfl rfl rfl rfl rfl rfl ⟨rfl, rfl, rfl, rfl, rfl⟩ rfl rfl rfl rfl rfl (by kernel_rfl) Try.func7 (by kernel_rfl)
    (of_decide_eq_true (by kernel_rfl)) (by unfold Func.isWrapper; first | (rw [if_pos (by decide +kernel)]; kernel_rfl) | (rw [if_neg (by decide +kernel)]; exact ⟨rfl, rfl⟩))
    (fun os started H enc _ => lifted os started H enc)
#print axioms proved
end Go.Proofs.Ytocoohpekpkmkaa.BoardBytes
