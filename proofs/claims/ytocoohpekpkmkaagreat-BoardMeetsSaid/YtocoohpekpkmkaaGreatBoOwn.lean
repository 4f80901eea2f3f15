/- The walks of board's Right and own. -/
import Derived.Test.YtocoohpekpkmkaaGreatBoRight
import Derived.Lib.SliceRun
namespace Go.Proofs.YtocoohpekpkmkaaGreat
set_option linter.unusedVariables false
set_option linter.unusedSimpArgs false
open Go.RowKit
open Reg (La Vl)
set_option maxRecDepth 100000 in
set_option maxHeartbeats 2000000 in
theorem boRight_any (b : Bd) (hs : Bo.Shaped b) (q : Value) (w : World) (hq : FrBo b q w) : Calls Tryz.prog 12 #[q] w (GiveBo w (Bo.rightB b)) := by
  obtain ⟨A, m, c, rfl, hr, hm⟩ := hq
  obtain ⟨R, hR⟩ : ∃ R, R = Bo.rightB b := ⟨_, rfl⟩
  obtain ⟨r1, hr1⟩ : ∃ r1, r1 = b.p.all Bo.planB := ⟨_, rfl⟩
  obtain ⟨r2, hr2⟩ : ∃ r2, r2 = b.l.all fun v => decide (0 ≤ v.2.2) := ⟨_, rfl⟩
  obtain ⟨r3, hr3⟩ : ∃ r3, r3 = Tally.rightB b.t := ⟨_, rfl⟩
  obtain ⟨r4, hr4⟩ : ∃ r4, r4 = Reg.rightM b.u b.l := ⟨_, rfl⟩
  have hRR : R = (r1 && r2 && r3 && r4) := by rw [hR, hr1, hr2, hr3, hr4]; rfl
  unfold GiveBo
  rw [← hR]
  have HRR := Lib.hid hRR
  have HS := Lib.hid hs
  have h49 := Lib.hid (bc_size (s := .slice A m c) hs)
  have HC1 := Lib.hid fun (g : Nat) (w' : World) (hw : w'.rangeAt g 16 (plansC b.p)) (hg : g < w'.heap.size) => (hr1 ▸ anyPlan_any g b.p hs.p w' hw hg : Calls Tryz.prog _ _ w' fun e w'' => e = .returned (.bool (!r1)) ∧ Below w'.heap.size w' w'')
  have HC2 := Lib.hid fun (w' : World) (hb : Below w.heap.size w w') => (hr2 ▸ anyVal_any A m c w.heap.size b.l w' (hr.below hb) hb.size hm : Calls Tryz.prog _ _ w' fun e w'' => e = .returned (.bool (!r2)) ∧ Below w'.heap.size w' w'')
  have HC3 := Lib.hid fun (w' : World) => (hr3 ▸ right_any b.t w' hs.t : Calls Tryz.prog _ _ w' fun e w'' => e = .returned (.bool r3) ∧ Below w'.heap.size w' w'')
  have HC4 := Lib.hid fun (w' : World) (hb : Below w.heap.size w w') => (hr4 ▸ right29_any b.u hs.u A m c b.l w' ((hr.below hb).size) hm : Calls Tryz.prog _ _ w' fun e w'' => e = .returned (.bool r4) ∧ Below w'.heap.size w' w'')
  have HT := Lib.hid (show (tc b.t).size = 16 by rw [tc_size, hs.t])
  have HU := Lib.hid (uc_size hs.u (.slice A m c))
  clear hR hr1 hr2 hr3 hr4 hRR hr hm hs
  go_enter Tryz.func12, Tryz.ntmps12
  go_upto_region 1 with fail
  refine nameW ?_
  intro wv hwv
  obtain ⟨g, hg⟩ : ∃ g, g = w.heap.size := ⟨_, rfl⟩
  have k0 : Blk wv g 41 (bc b (.slice A m c)) := by rw [hwv, hg]; exact Blk.new w _ _
  have gb : Below w.heap.size w wv := by rw [hwv]; exact (Below.refl _ _).alloc (Nat.le_refl _) _
  rw [← hg]
  clear hwv hg
  go_wp2_with fail
  refine (HC1.out g wv (k0.plans HS.out) k0.lt).mono ?_
  rintro e w1 ⟨rfl, b1⟩
  have k0 := k0.below b1 k0.lt
  have gb := gb.trans (b1.mono gb.size)
  clear b1
  cases r1
  case false =>
    have hr2 : R = false := by rw [HRR.out]; rfl
    subst hr2
    go_wp2_with fail
    go_ret
    exact ⟨rfl, gb⟩
  case true =>
  have t48 : w1.cell? ⟨g, 48, none⟩ = some (.slice A m c) := (k0.cell 48).trans (bc_last HS.out)
  go_wp2_with fail
  have HW1 := gb.size
  refine (HC2.out w1 gb).mono ?_
  rintro e w2 ⟨rfl, b1⟩
  have k0 := k0.below b1 k0.lt
  have gb := gb.trans (b1.mono gb.size)
  clear b1 t48
  cases r2
  case false =>
    have hr2 : R = false := by rw [HRR.out]; rfl
    subst hr2
    go_wp2_with fail
    go_ret
    exact ⟨rfl, gb⟩
  case true =>
  go_wp2_with ((with_reducible refine wpList_ldr rowT (k0.tal HS.out) HT.out ?_ ?_); rotate_left; (rfl))
  refine (HC3.out w2).mono ?_
  rintro e w3 ⟨rfl, b1⟩
  have k0 := k0.below b1 k0.lt
  have gb := gb.trans (b1.mono gb.size)
  clear b1
  cases r3
  case false =>
    have hr2 : R = false := by rw [HRR.out]; rfl
    subst hr2
    go_wp2_with fail
    go_ret
    exact ⟨rfl, gb⟩
  case true =>
  go_wp2_with ((with_reducible refine wpList_ldrg rowM (k0.notes HS.out) HU.out ?_ ?_ ?_); rotate_left; (rfl); (rfl))
  refine (HC4.out w3 gb).mono ?_
  rintro e w4 ⟨rfl, b1⟩
  have gb := gb.trans (b1.mono gb.size)
  clear b1 k0
  have hr2 : R = r4 := by rw [HRR.out]; simp
  clear HC4
  subst hr2
  go_wp2_with fail
  go_ret
  exact ⟨rfl, gb⟩
theorem own_empV {w : World} {g base : Nat} (h : Blk w g 84 #[]) (hb : base ≤ g) : OwnV 84 w base (some ⟨g, 0, none⟩) 0 0 [] :=
  ⟨rfl, rfl, .inr ⟨g, 0, #[], rfl, hb, h, Nat.le_refl _, Nat.zero_le _, rfl, rfl⟩⟩
set_option maxRecDepth 100000 in
theorem cloneV_any (A : Option Addr) (n c : Nat) (l : List Vl) (w : World) (hr : RdV w w.heap.size A n l) (hn : n ≤ 100000) :
    Calls Tryz.prog 58 #[.slice A n c] w fun e w' => ∃ A' c', e = .returned (.slice A' n c') ∧ OwnV 84 w' w.heap.size A' n c' l ∧ Below w.heap.size w w' := by
  have qn := fun (w : World) (a : Option Addr) (n c n' c' : Nat) => Lib.run_eql_slice_nil (P := Tryz.prog) w 37 _ a n c n' c' Tryz.underlying37
  rcases A with _ | a
  · have h0 : l = [] := by
      rcases l with _ | ⟨x, r⟩
      · rfl
      · obtain ⟨_, h, _⟩ := hr.2 0 _ rfl
        cases h
    subst h0
    obtain rfl := hr.1
    go_enter Tryz.func58, Tryz.ntmps58
    go_wp2_with fail
    go_ret
    exact ⟨_, _, rfl, OwnV.nil _ _ _, Below.refl _ _⟩
  · have hle : 0 + n ≤ 1000000000000 := by omega
    have hlen : n = l.length := hr.1
    have HR := Lib.hid (hr.rd.alloc (Nat.le_refl _) (.cells #[] 84))
    have HLN := Lib.hid hlen
    clear hr hlen
    go_enter Tryz.func58, Tryz.ntmps58
    go_wp2_with (at_builtin; refine wpList_appV rfl (.tmp 5) (.tmp 6) rfl rfl (own_empV (base := w.heap.size) (Blk.new w _ _) (Nat.le_refl _)) (news := l) rfl HR.out HLN.out hle (le_alloc (Nat.le_refl _) _) ?_)
    intro A' c' w2 o2 g2 m2 b2
    have bw := ((Below.refl w.heap.size w).alloc (Nat.le_refl _) (.cells #[] 84)).trans b2
    clear g2 m2 b2
    go_wp2_with fail
    go_ret
    exact ⟨A', c', rfl, by simpa using o2, bw⟩
set_option maxRecDepth 100000 in
set_option maxHeartbeats 2000000 in
theorem boOwn_anyB (b : Bd) (hs : Bo.Shaped b) (q : Value) (w : World) (hq : FrBo b q w) : Calls Tryz.prog 19 #[q] w (GiveBdB 84 w (Bo.own b)) := by
  obtain ⟨A, m, c, rfl, hr, hm⟩ := hq
  obtain ⟨R, hR⟩ : ∃ R, R = Bo.rightB b := ⟨_, rfl⟩
  unfold GiveBdB
  have hown : Bo.own b = if R then b else Bo.zero := by rw [hR]; rfl
  rw [hown]
  clear hown
  have HC1 := Lib.hid fun (w' : World) (hb : Below w.heap.size w w') => (hR ▸ boRight_any b hs (.agg (bc b (.slice A m c))) w' ⟨A, m, c, rfl, (hr.below hb).size, hm⟩ : Calls Tryz.prog _ _ w' (GiveBo w' R))
  have HC2 := Lib.hid fun (w' : World) (hb : Below w.heap.size w w') => cloneV_any A m c b.l w' (hr.below hb).size hm
  have HS := Lib.hid hs
  have h49 := Lib.hid (bc_size (s := .slice A m c) hs)
  have HM := Lib.hid hm
  have HL := Lib.hid hr.1
  have z49 := Lib.hid (bc_size (s := .slice none 0 0) Bo.zero_shaped)
  have o49 := Lib.hid (bc_one (b := Bo.zero) (s := .slice none 0 0) rfl)
  have HBD := Lib.hid fun (w : World) => (show (Instr.build 41 #[]).run Tryz.prog w = .ok (.agg (bc Bo.zero (.slice none 0 0))) w by kernel_rfl)
  clear hR hr hm hs
  go_enter Tryz.func19, Tryz.ntmps19
  go_upto_region 1 with fail
  refine nameW ?_
  intro wv hwv
  obtain ⟨g, hg⟩ : ∃ g, g = w.heap.size := ⟨_, rfl⟩
  rw [← hg]
  have k0 : Blk wv g 41 (bc b (.slice A m c)) := by rw [hwv, hg]; exact (Blk.new w _ _).alloc _
  have kz : Blk wv (g + 1) 41 (bc Bo.zero (.slice none 0 0)) := by
    have h := Blk.new (w.alloc (.cells (bc b (.slice A m c)) 41)) 41 (bc Bo.zero (.slice none 0 0))
    rw [zbo] at h ⊢
    rw [hwv, hg]
    simpa using h
  have gb : Below w.heap.size w wv := by rw [hwv]; exact ((Below.refl _ _).alloc (Nat.le_refl _) _).alloc (by simp) _
  have hgw : w.heap.size ≤ g := by omega
  clear hwv hg
  go_wp2_with ((with_reducible refine wpList_ld rowBo k0 h49.out ?_ ?_); rotate_left; (rfl))
  refine (HC1.out wv gb).mono ?_
  rintro e w1 ⟨rfl, b1⟩
  have k0 := k0.below b1 k0.lt
  have kz := kz.below b1 kz.lt
  have gb := gb.trans (b1.mono gb.size)
  clear b1
  cases R
  case false =>
    go_wp2_with first
      | ((refine wpList_bdV (v := .agg (bc Bo.zero (.slice none 0 0))) (w' := _) rfl 41 #[] rfl ?_ ?_); (simp only [List.map_toArray, List.map_nil]; exact HBD.out _))
      | ((with_reducible refine wpList_st rowBo kz z49.out z49.out o49.out ?_ ?_ ?_); rotate_left; (rfl); (rfl); intro w5 k5 g5 z5)
    exact bodyPost_ret (v := .agg (bc Bo.zero (.slice none 0 0))) (results_blk rfl rowBo k5 z49.out rfl) rfl ⟨_, rfl, ⟨none, 0, 0, rfl, OwnV.nil _ _ _, by omega⟩, gb.grown g5 gb.size (fun q hq => by injection hq; omega)⟩
  case true =>
  have t48 : w1.cell? ⟨g, 48, none⟩ = some (.slice A m c) := (k0.cell 48).trans (bc_last HS.out)
  go_wp2_with fail
  have HW1 := gb.size
  refine (HC2.out w1 gb).mono ?_
  rintro e w2 ⟨A', c', rfl, o, b1⟩
  have k0 := k0.below b1 k0.lt
  have kz := kz.below b1 kz.lt
  have gb := gb.trans (b1.mono gb.size)
  have hne : A'.map (·.block) ≠ some g := own_ne o.2 k0 (by decide)
  clear b1 t48
  have t48 : w2.cell? ⟨g, 48, none⟩ = some (.slice A m c) := (k0.cell 48).trans (bc_last HS.out)
  have f48 := k0.free 48
  have k1 := k0.set_ 48 (.slice A' m c')
  rw [bc_set48 HS.out] at k1
  have kz1 := kz.far (p := ⟨g, 48, none⟩) (by show g + 1 ≠ g; omega) (.slice A' m c')
  have o1 := o.setFar (p := ⟨g, 48, none⟩) hne (.slice A' m c')
  have gb1 := gb.setCell (p := ⟨g, 48, none⟩) hgw (.slice A' m c')
  have n49 := bc_size (s := .slice A' m c') HS.out
  have n1 := bc_one (b := b) (s := .slice A' m c') rfl
  have HN := Lib.hid n49
  have HN1 := Lib.hid n1
  clear k0 kz gb o hne n49 n1
  generalize hW : w2.setCell ⟨g, 48, none⟩ (.slice A' m c') = w3 at k1 kz1 o1 gb1
  have HW := Lib.hid hW
  clear hW
  go_upto_region 4 with fail
  rw [HW.out]
  clear t48 f48 HW
  go_wp2_with first
    | ((with_reducible refine wpList_ld rowBo k1 HN.out ?_ ?_); rotate_left; (rfl))
    | ((with_reducible refine wpList_st rowBo kz1 HN.out z49.out HN1.out ?_ ?_ ?_); rotate_left; (rfl); (rfl); intro w5 k5 g5 z5)
  have hne : A'.map (·.block) ≠ some (g + 1) := own_ne o1.2 kz1 (by decide)
  exact bodyPost_ret (v := .agg (bc b (.slice A' m c'))) (results_blk rfl rowBo k5 HN.out rfl) rfl ⟨_, rfl, ⟨A', m, c', rfl, (o1.grown g5 (.inr hne)).mono HW1, HM.out⟩, gb1.grown g5 gb1.size (fun q hq => by injection hq; omega)⟩
theorem boOwn_any (b : Bd) (hs : Bo.Shaped b) (q : Value) (w : World) (hq : FrBo b q w) : Calls Tryz.prog 19 #[q] w (GiveBd 84 w (Bo.own b)) := (boOwn_anyB b hs q w hq).mono fun _ _ h => h.give
end Go.Proofs.YtocoohpekpkmkaaGreat
