/- The walks of tally: Add. -/
import Derived.Test.YtocoohpekpkmkaaGreatTallyWalks
import Derived.Test.YtocoohpekpkmkaaGreatWf
/- '==' between two tallies. -/
namespace Go.Proofs.YtocoohpekpkmkaaGreat
set_option linter.unusedVariables false
set_option linter.unusedSimpArgs false
open Go.RowKit
open Tally
theorem right_wf {l : List Int} (h : rightB l = true) : Wf l := fun x hx => by
  obtain ⟨i, hi, rfl⟩ := List.getElem_of_mem hx
  have := right_at h i
  rw [List.getD_eq_getElem?_getD, List.getElem?_eq_getElem hi] at this
  unfold top at this
  simp only [Option.getD_some] at this
  exact wf_of (by omega) (by omega)
theorem split8 (l : List Int) (hl : l.length = 16) : l.map (Lit.int .i64) = (l.take 8).map (Lit.int .i64) ++ (l.drop 8).map (Lit.int .i64) := by rw [← List.map_append, List.take_append_drop]
/-- A type of two arrays of eight ints. -/
def TwoT (T : TypeId) : Prop := (∃ f0 f1 : Field, (Tryz.prog).underlying T = some (.struct #[f0, f1]) ∧ f0.type = 22 ∧ f0.offset = 0 ∧ f1.type = 22 ∧ f1.offset = 8 ∧ f0.name ≠ "_" ∧ f1.name ≠ "_") ∧ (Tryz.prog).cellsOf T = 16 ∧ (Tryz.prog).keyTypeAt 4 T = true ∧ (Tryz.prog).eqGuardType (Tryz.prog).depth T = false
theorem twoT : TwoT 34 := ⟨⟨_, _, Tryz.underlying34, rfl, rfl, rfl, rfl, by decide, by decide⟩, by kernel_rfl, by kernel_rfl, by kernel_rfl⟩
theorem twoR : TwoT 24 := ⟨⟨_, _, Tryz.underlying24, rfl, rfl, rfl, rfl, by decide, by decide⟩, by kernel_rfl, by kernel_rfl, by kernel_rfl⟩
theorem keyLits_tc {T : TypeId} (hT : TwoT T) (l : List Int) (hl : l.length = 16) (hw : Wf l) : (Tryz.prog).keyLits 3 T (tc l).toList = some (l.map (Lit.int .i64)) := by
  obtain ⟨⟨f0, f1, hu, t0, o0, t1, o1, n0, n1⟩, hc, _, _⟩ := hT
  have h0 := keyLits_arr 0 (l.take 8) (by simp; omega) (fun x hx => hw x (List.mem_of_mem_take hx))
  have h1 := keyLits_arr 0 (l.drop 8) (by simp; omega) (fun x hx => hw x (List.mem_of_mem_drop hx))
  have e0 : (((tc l).toList.drop 0).take 8) = (l.take 8).map (Value.int .i64) := by simp [tc]
  have e1 : (((tc l).toList.drop 8).take 8) = (l.drop 8).map (Value.int .i64) := by
    simp only [tc]
    rw [← List.map_drop, List.take_of_length_le (by simp; omega)]
  unfold Program.keyLits
  have hcs : (tc l).toList.length = 16 := by rw [Array.length_toList, tc_size, hl]
  simp only [hu, hcs, hc]
  rw [if_pos ⟨trivial, by simp [n0, n1]⟩]
  simp only [List.mapM_cons, List.mapM_nil, t0, t1, o0, o1, cellsA, e0, e1, h0, h1]
  rw [split8 l hl]
  simp
theorem eq_run {T : TypeId} (hT : TwoT T) (w : World) (a b : List Int) (ha : a.length = 16) (hb : b.length = 16) (wa : Wf a) (wb : Wf b) :
    (binOp .eql T (.agg (tc a)) (.agg (tc b))).run Tryz.prog w = .ok (.bool (decide (a = b))) w := by
  have hk := hT.2.2.1
  have hfm : ∀ l : List Int, l.length = 16 → (Value.agg (tc l)).formed Tryz.prog T = true := fun l hl => by
    obtain ⟨⟨f0, f1, hu, _⟩, hc, _⟩ := hT
    simp [Value.formed, hu, hc, tc_size, hl]
  obtain ⟨r, h1, h2⟩ := run_equalIn_deep (P := Tryz.prog) 9996 4 T hk w 3 3 (.agg (tc a)) (.agg (tc b)) _ _ (hfm a ha) (hfm b hb) (keyLits_tc hT a ha wa) (keyLits_tc hT b hb wb)
  rw [run_eql_struct, h1]
  have : r = decide (a = b) := by
    rw [Bool.eq_iff_iff, h2, decide_eq_true_eq]
    constructor
    · intro h
      exact (List.map_inj_right (fun x y h => by injection h)).1 h
    · intro h; rw [h]
  rw [this]
  rfl
section
variable {ops : Array Oper} {rest : List Oper} {d : Option Tmp} {ty : TypeId} {pos : String} {aft : Array Edge} {gd : Option (Nat × Bool)} {x y : Operand} {T z : TypeId} {A B : List Int}
theorem exec_eq {a : Act} (hT : TwoT T) (ha : A.length = 16) (hb : B.length = 16) (wa : Wf A) (wb : Wf B) (hx : a.eval x = .agg (tc A)) (hy : a.eval y = .agg (tc B)) (w : World) : (execOp a.eval ⟨d, .binOp .eql T x y z, ty, pos, aft, gd⟩).run Tryz.prog w = .ok (.value (.bool (decide (A = B)))) w := by
  unfold execOp
  simp only [hx, hy, Sem.run_bind, run_eqGuard_agg w .eql T x y (tc A) (tc B) hT.2.2.2, Result.andThen_ok, eq_run hT w A B ha hb wa wb, Sem.run_pure]
theorem quiet_eq {a : Act} {Q : Act → Prop} {C : World → Prop} (hT : TwoT T) (ha : A.length = 16) (hb : B.length = 16) (wa : Wf A) (wb : Wf B)
    (h : wpQuiet Tryz.prog ops C Q rest (a.put d (.bool (decide (A = B))))) (hx : a.eval x = .agg (tc A)) (hy : a.eval y = .agg (tc B)) (hw : Region.wanted ⟨d, .binOp .eql T x y z, ty, pos, aft, gd⟩ (yielded ops a.tmps) = true) : wpQuiet Tryz.prog ops C Q (⟨d, .binOp .eql T x y z, ty, pos, aft, gd⟩ :: rest) a := by
  unfold wpQuiet
  rw [if_pos hw]
  refine ⟨.bool (decide (A = B)), fun w hC => ?_, h⟩
  unfold Oper.quietAt
  rw [exec_eq hT ha hb wa wb hx hy w]
  exact ⟨rfl, rfl⟩
theorem wpList_eq {a : Act} {w : World} {Q : Exit → Act → World → Prop} (hT : TwoT T) (ha : A.length = 16) (hb : B.length = 16) (wa : Wf A) (wb : Wf B)
    (h : wpList Tryz.prog ops Q rest (a.put d (.bool (decide (A = B)))) w) (hx : a.eval x = .agg (tc A)) (hy : a.eval y = .agg (tc B)) (hw : Region.wanted ⟨d, .binOp .eql T x y z, ty, pos, aft, gd⟩ (yielded ops a.tmps) = true) : wpList Tryz.prog ops Q (⟨d, .binOp .eql T x y z, ty, pos, aft, gd⟩ :: rest) a w := by
  refine wpList_step fun K hK => ?_
  rw [if_pos hw]
  unfold Oper.wp
  rw [exec_eq hT ha hb wa wb hx hy w]
  exact hK _ _ h
theorem ne_run {T : TypeId} (hT : TwoT T) (w : World) (a b : List Int) (ha : a.length = 16) (hb : b.length = 16) (wa : Wf a) (wb : Wf b) :
    (binOp .neq T (.agg (tc a)) (.agg (tc b))).run Tryz.prog w = .ok (.bool (!decide (a = b))) w := by
  have h := eq_run hT w a b ha hb wa wb
  rw [run_eql_struct] at h
  rw [run_neq_struct]
  revert h
  generalize (Op.equalIn 10000 T (.agg (tc a)) (.agg (tc b))).run Tryz.prog w = r
  intro h
  cases r with
  | halt x w' => simp [Result.andThen] at h
  | ok b' w' =>
    simp only [Result.andThen_ok] at h ⊢
    injection h with h1 h2
    injection h1 with h1
    rw [h1, h2]
theorem quiet_ne {a : Act} {Q : Act → Prop} {C : World → Prop} (hT : TwoT T) (ha : A.length = 16) (hb : B.length = 16) (wa : Wf A) (wb : Wf B)
    (h : wpQuiet Tryz.prog ops C Q rest (a.put d (.bool (!decide (A = B))))) (hx : a.eval x = .agg (tc A)) (hy : a.eval y = .agg (tc B)) (hw : Region.wanted ⟨d, .binOp .neq T x y z, ty, pos, aft, gd⟩ (yielded ops a.tmps) = true) : wpQuiet Tryz.prog ops C Q (⟨d, .binOp .neq T x y z, ty, pos, aft, gd⟩ :: rest) a := by
  unfold wpQuiet
  rw [if_pos hw]
  refine ⟨.bool (!decide (A = B)), fun w hC => ?_, h⟩
  unfold Oper.quietAt execOp
  simp only [hx, hy, Sem.run_bind, run_eqGuard_agg w .neq T x y (tc A) (tc B) hT.2.2.2, Result.andThen_ok, ne_run hT w A B ha hb wa wb, Sem.run_pure]
  exact ⟨rfl, rfl⟩
end
end Go.Proofs.YtocoohpekpkmkaaGreat

namespace Go.Proofs.YtocoohpekpkmkaaGreat
set_option linter.unusedVariables false
set_option linter.unusedSimpArgs false
open Go.RowKit
open Tally
def AddEnd (w : World) (l : List Int) (node n : Int) (e : Ending) (w' : World) : Prop := e = .returned (.tuple #[.agg (tc (addL l node n).1), .int .i64 (addL l node n).2]) ∧ Below w.heap.size w w'
set_option maxHeartbeats 2000000 in
theorem add_any (l : List Int) (node n : Int) (w : World) (hl : l.length = 16) :
    Calls Tryz.prog 42 #[.agg (tc l), .int .i64 node, .int .i64 n] w (AddEnd w l node n) := by
  have hs : (tc l).size = 16 := by rw [tc_size, hl]
  have HS := Lib.hid hs
  have HL := Lib.hid hl
  clear hl hs
  by_cases hr : rightB l = true
  case neg =>
    have hr2 : rightB l = false := by simpa using hr
    have HA := Lib.hid (add_bad (l := l) (node := node) (n := n) (.inl hr2))
    have HR := Lib.hid hr2
    clear hr hr2
    go_enter Tryz.func42, Tryz.ntmps42
    go_upto_region 1 with fail
    refine nameW ?_
    intro wv hwv
    obtain ⟨g, hg⟩ : ∃ g, g = w.heap.size := ⟨_, rfl⟩
    rw [← hg]
    have k0 : Blk wv g 34 (tc l) := by rw [hwv, hg]; exact (Blk.new w _ _).alloc _
    have k1 : Blk wv (g + 1) 34 (tc zero) := by
      have h := Blk.new (w.alloc (.cells (tc l) 34)) 34 (tc zero)
      rw [zero_tc] at h
      rw [zero_tc, hwv, hg]
      simpa using h
    have hb : Below w.heap.size w wv := by rw [hwv]; exact ((Below.refl _ _).alloc (Nat.le_refl _) _).alloc (by simp) _
    have hgw : w.heap.size ≤ g := by omega
    clear hwv hg
    go_wp2_with ((with_reducible refine wpList_ld rowT k0 HS.out ?_ ?_); rotate_left; (rfl))
    refine (right_any l wv HL.out).mono ?_
    rintro e w1 ⟨rfl, h1⟩
    have k0a := k0.below h1 k0.lt
    have k1a := k1.below h1 k1.lt
    have b1 := hb.trans (h1.mono hb.size)
    clear k0 k1 hb h1
    rw [HR.out]
    go_wp2_with ((with_reducible refine wpList_st rowT k1a zero_size zero_size (tc_one zero) ?_ ?_ ?_); rotate_left; (rfl); (rfl); intro w2 k2 g2 z2)
    have b2 := b1.grown g2 b1.size (fun q hq => by injection hq; omega)
    exact bodyPost_ret (v := .tuple #[.agg (tc zero), .int .i64 2]) (results_blk2 rfl rowT k2 zero_size rfl rfl) rfl ⟨by rw [HA.out], b2⟩
  have HR := Lib.hid hr
  clear hr
  by_cases hn : inB node 0 7 = true
  case neg =>
    have hn2 : inB node 0 7 = false := by simpa using hn
    have HA := Lib.hid (add_bad (l := l) (node := node) (n := n) (.inr (.inl hn2)))
    have hw := within_any node 0 7
    rw [hn2] at hw
    have HW := Lib.hid hw
    clear hn hn2 hw
    go_enter Tryz.func42, Tryz.ntmps42
    go_upto_region 1 with fail
    refine nameW ?_
    intro wv hwv
    obtain ⟨g, hg⟩ : ∃ g, g = w.heap.size := ⟨_, rfl⟩
    rw [← hg]
    have k0 : Blk wv g 34 (tc l) := by rw [hwv, hg]; exact (Blk.new w _ _).alloc _
    have k1 : Blk wv (g + 1) 34 (tc zero) := by
      have h := Blk.new (w.alloc (.cells (tc l) 34)) 34 (tc zero)
      rw [zero_tc] at h
      rw [zero_tc, hwv, hg]
      simpa using h
    have hb : Below w.heap.size w wv := by rw [hwv]; exact ((Below.refl _ _).alloc (Nat.le_refl _) _).alloc (by simp) _
    have hgw : w.heap.size ≤ g := by omega
    clear hwv hg
    go_wp2_with ((with_reducible refine wpList_ld rowT k0 HS.out ?_ ?_); rotate_left; (rfl))
    refine (right_any l wv HL.out).mono ?_
    rintro e w1 ⟨rfl, h1⟩
    have k0a := k0.below h1 k0.lt
    have k1a := k1.below h1 k1.lt
    have b1 := hb.trans (h1.mono hb.size)
    clear k0 k1 hb h1
    rw [HR.out]
    go_wp2_with fail
    refine (HW.out w1 (by omega)).mono ?_
    rintro e w' ⟨rfl, rfl⟩
    go_wp2_with ((with_reducible refine wpList_st rowT k1a zero_size zero_size (tc_one zero) ?_ ?_ ?_); rotate_left; (rfl); (rfl); intro w2 k2 g2 z2)
    have b2 := b1.grown g2 b1.size (fun q hq => by injection hq; omega)
    exact bodyPost_ret (v := .tuple #[.agg (tc zero), .int .i64 2]) (results_blk2 rfl rowT k2 zero_size rfl rfl) rfl ⟨by rw [HA.out], b2⟩
  have hnb := (inB_iff _ _ _).1 hn
  have HN := Lib.hid hn
  have hw := within_any node 0 7
  rw [hn] at hw
  have HW := Lib.hid hw
  clear hn hw
  by_cases hm : inB n (-top) top = true
  case neg =>
    have hm2 : inB n (-top) top = false := by simpa using hm
    have HA := Lib.hid (add_bad (l := l) (node := node) (n := n) (.inr (.inr hm2)))
    have hw2 := within_any n (-top) top
    rw [hm2] at hw2
    have HW2 := Lib.hid hw2
    clear hm hm2 hw2
    go_enter Tryz.func42, Tryz.ntmps42
    go_upto_region 1 with fail
    refine nameW ?_
    intro wv hwv
    obtain ⟨g, hg⟩ : ∃ g, g = w.heap.size := ⟨_, rfl⟩
    rw [← hg]
    have k0 : Blk wv g 34 (tc l) := by rw [hwv, hg]; exact (Blk.new w _ _).alloc _
    have k1 : Blk wv (g + 1) 34 (tc zero) := by
      have h := Blk.new (w.alloc (.cells (tc l) 34)) 34 (tc zero)
      rw [zero_tc] at h
      rw [zero_tc, hwv, hg]
      simpa using h
    have hb : Below w.heap.size w wv := by rw [hwv]; exact ((Below.refl _ _).alloc (Nat.le_refl _) _).alloc (by simp) _
    have hgw : w.heap.size ≤ g := by omega
    clear hwv hg
    go_wp2_with ((with_reducible refine wpList_ld rowT k0 HS.out ?_ ?_); rotate_left; (rfl))
    refine (right_any l wv HL.out).mono ?_
    rintro e w1 ⟨rfl, h1⟩
    have k0a := k0.below h1 k0.lt
    have k1a := k1.below h1 k1.lt
    have b1 := hb.trans (h1.mono hb.size)
    clear k0 k1 hb h1
    rw [HR.out]
    go_wp2_with fail
    refine (HW.out w1 (by omega)).mono ?_
    rintro e w' ⟨rfl, rfl⟩
    go_wp2_with fail
    refine (HW2.out w1 (by decide)).mono ?_
    rintro e w' ⟨rfl, rfl⟩
    go_wp2_with ((with_reducible refine wpList_st rowT k1a zero_size zero_size (tc_one zero) ?_ ?_ ?_); rotate_left; (rfl); (rfl); intro w2 k2 g2 z2)
    have b2 := b1.grown g2 b1.size (fun q hq => by injection hq; omega)
    exact bodyPost_ret (v := .tuple #[.agg (tc zero), .int .i64 2]) (results_blk2 rfl rowT k2 zero_size rfl rfl) rfl ⟨by rw [HA.out], b2⟩
  have hmb := (inB_iff _ _ _).1 hm
  have HM := Lib.hid hm
  have hw2 := within_any n (-top) top
  rw [hm] at hw2
  have HW2 := Lib.hid hw2
  clear hm hw2
  obtain ⟨k, rfl⟩ := Int.eq_ofNat_of_zero_le hnb.1
  have hk7 : k < 8 := by omega
  by_cases hneg : n < 0
  · obtain ⟨p, rfl⟩ : ∃ p : Int, n = -p := ⟨-n, by omega⟩
    have hp : 1 ≤ p ∧ p ≤ 1099511627776 := by unfold top at hmb; omega
    have hsl : slot (k : Int) (-p) = 8 + k := by unfold slot; split <;> omega
    have ham : amt (-p) = p := by unfold amt; split <;> omega
    have hok := add_ok (l := l) HR.out HN.out HM.out
    have hfu := add_full (l := l) HR.out HN.out HM.out
    rw [hsl, ham] at hok hfu
    unfold top at hok hfu
    clear hsl ham
    by_cases hov : 1099511627776 - p < l.getD (8 + k) 0
    · have HA := Lib.hid (hfu hov)
      clear hok hfu hmb hnb hneg
      go_enter Tryz.func42, Tryz.ntmps42
      go_upto_region 1 with fail
      refine nameW ?_
      intro wv hwv
      obtain ⟨g, hg⟩ : ∃ g, g = w.heap.size := ⟨_, rfl⟩
      rw [← hg]
      have k0 : Blk wv g 34 (tc l) := by rw [hwv, hg]; exact (Blk.new w _ _).alloc _
      have k1 : Blk wv (g + 1) 34 (tc zero) := by
        have h := Blk.new (w.alloc (.cells (tc l) 34)) 34 (tc zero)
        rw [zero_tc] at h
        rw [zero_tc, hwv, hg]
        simpa using h
      have hb : Below w.heap.size w wv := by rw [hwv]; exact ((Below.refl _ _).alloc (Nat.le_refl _) _).alloc (by simp) _
      have hgw : w.heap.size ≤ g := by omega
      clear hwv hg
      go_wp2_with ((with_reducible refine wpList_ld rowT k0 HS.out ?_ ?_); rotate_left; (rfl))
      refine (right_any l wv HL.out).mono ?_
      rintro e w1 ⟨rfl, h1⟩
      have k0a := k0.below h1 k0.lt
      have k1a := k1.below h1 k1.lt
      have b1 := hb.trans (h1.mono hb.size)
      clear k0 k1 hb h1
      rw [HR.out]
      go_wp2_with fail
      refine (HW.out w1 (by omega)).mono ?_
      rintro e w' ⟨rfl, rfl⟩
      go_wp2_with fail
      refine (HW2.out w1 (by decide)).mono ?_
      rintro e w' ⟨rfl, rfl⟩
      have c1 := k0a.tcell (i := 8 + k) (by rw [HL.out]; omega)
      have c2 := k0a.free (8 + k)
      have hov2 : decide (1099511627776 - p < l.getD (8 + k) 0) = true := decide_eq_true (by omega)
      generalize l.getD (8 + k) 0 = x at *
      go_wp2_with ((with_reducible refine wpList_st rowT k1a zero_size zero_size (tc_one zero) ?_ ?_ ?_); rotate_left; (rfl); (rfl); intro w2 k2 g2 z2)
      have b2 := b1.grown g2 b1.size (fun q hq => by injection hq; omega)
      exact bodyPost_ret (v := .tuple #[.agg (tc zero), .int .i64 7]) (results_blk2 rfl rowT k2 zero_size rfl rfl) rfl ⟨by rw [HA.out], b2⟩
    · have HA := Lib.hid (hok hov)
      clear hok hfu hmb hnb hneg
      go_enter Tryz.func42, Tryz.ntmps42
      go_upto_region 1 with fail
      refine nameW ?_
      intro wv hwv
      obtain ⟨g, hg⟩ : ∃ g, g = w.heap.size := ⟨_, rfl⟩
      rw [← hg]
      have k0 : Blk wv g 34 (tc l) := by rw [hwv, hg]; exact (Blk.new w _ _).alloc _
      have k1 : Blk wv (g + 1) 34 (tc zero) := by
        have h := Blk.new (w.alloc (.cells (tc l) 34)) 34 (tc zero)
        rw [zero_tc] at h
        rw [zero_tc, hwv, hg]
        simpa using h
      have hb : Below w.heap.size w wv := by rw [hwv]; exact ((Below.refl _ _).alloc (Nat.le_refl _) _).alloc (by simp) _
      have hgw : w.heap.size ≤ g := by omega
      clear hwv hg
      go_wp2_with ((with_reducible refine wpList_ld rowT k0 HS.out ?_ ?_); rotate_left; (rfl))
      refine (right_any l wv HL.out).mono ?_
      rintro e w1 ⟨rfl, h1⟩
      have k0a := k0.below h1 k0.lt
      have k1a := k1.below h1 k1.lt
      have b1 := hb.trans (h1.mono hb.size)
      clear k0 k1 hb h1
      rw [HR.out]
      go_wp2_with fail
      refine (HW.out w1 (by omega)).mono ?_
      rintro e w' ⟨rfl, rfl⟩
      go_wp2_with fail
      refine (HW2.out w1 (by decide)).mono ?_
      rintro e w' ⟨rfl, rfl⟩
      have c1 := k0a.tcell (i := 8 + k) (by rw [HL.out]; omega)
      have c2 := k0a.free (8 + k)
      have hov2 : decide (1099511627776 - p < l.getD (8 + k) 0) = false := decide_eq_false (by omega)
      have hxb := right_at HR.out (8 + k)
      unfold top at hxb
      obtain ⟨x, hx⟩ : ∃ x, l.getD (8 + k) 0 = x := ⟨_, rfl⟩
      rw [hx] at c1 hov2 hov hxb HA
      clear hx
      have k0b : Blk (w1.setCell ⟨g, 8 + k, none⟩ (.int .i64 (x + p))) g 34 (tc (l.set (8 + k) (x + p))) := by
        have h := k0a.set_ (8 + k) (.int .i64 (x + p))
        rwa [tc_set] at h
      have k1b : Blk (w1.setCell ⟨g, 8 + k, none⟩ (.int .i64 (x + p))) (g + 1) 34 (tc zero) := k1a.far (p := ⟨g, 8 + k, none⟩) (by simp) _
      have HS2 : Hid ((tc (l.set (8 + k) (x + p))).size = 16) := by
        have : (tc (l.set (8 + k) (x + p))).size = 16 := by rw [tc_size, List.length_set, HL.out]
        exact Lib.hid this
      have b1b : Below w.heap.size w (w1.setCell ⟨g, 8 + k, none⟩ (.int .i64 (x + p))) := b1.setCell hgw _
      have hone := tc_one (l.set (8 + k) (x + p))
      have HONE := Lib.hid hone
      clear hone k0a k1a b1
      generalize l.set (8 + k) (x + p) = m at *
      go_wp2_with (first
        | ((with_reducible refine wpList_ld rowT k0b HS2.out ?_ ?_); rotate_left; (rfl))
        | ((with_reducible refine wpList_st rowT k1b HS2.out zero_size HONE.out ?_ ?_ ?_); rotate_left; (rfl); (rfl); intro w2 k2 g2 z2))
      have b2 := b1b.grown g2 b1b.size (fun q hq => by injection hq; omega)
      exact bodyPost_ret (v := .tuple #[.agg (tc m), .int .i64 0]) (results_blk2 rfl rowT k2 HS2.out rfl rfl) rfl ⟨by rw [HA.out], b2⟩
  · have hp : 0 ≤ n ∧ n ≤ 1099511627776 := by unfold top at hmb; omega
    have hsl : slot (k : Int) (n) = k := by unfold slot; split <;> omega
    have ham : amt (n) = n := by unfold amt; split <;> omega
    have hok := add_ok (l := l) HR.out HN.out HM.out
    have hfu := add_full (l := l) HR.out HN.out HM.out
    rw [hsl, ham] at hok hfu
    unfold top at hok hfu
    clear hsl ham
    by_cases hov : 1099511627776 - n < l.getD (k) 0
    · have HA := Lib.hid (hfu hov)
      clear hok hfu hmb hnb hneg
      go_enter Tryz.func42, Tryz.ntmps42
      go_upto_region 1 with fail
      refine nameW ?_
      intro wv hwv
      obtain ⟨g, hg⟩ : ∃ g, g = w.heap.size := ⟨_, rfl⟩
      rw [← hg]
      have k0 : Blk wv g 34 (tc l) := by rw [hwv, hg]; exact (Blk.new w _ _).alloc _
      have k1 : Blk wv (g + 1) 34 (tc zero) := by
        have h := Blk.new (w.alloc (.cells (tc l) 34)) 34 (tc zero)
        rw [zero_tc] at h
        rw [zero_tc, hwv, hg]
        simpa using h
      have hb : Below w.heap.size w wv := by rw [hwv]; exact ((Below.refl _ _).alloc (Nat.le_refl _) _).alloc (by simp) _
      have hgw : w.heap.size ≤ g := by omega
      clear hwv hg
      go_wp2_with ((with_reducible refine wpList_ld rowT k0 HS.out ?_ ?_); rotate_left; (rfl))
      refine (right_any l wv HL.out).mono ?_
      rintro e w1 ⟨rfl, h1⟩
      have k0a := k0.below h1 k0.lt
      have k1a := k1.below h1 k1.lt
      have b1 := hb.trans (h1.mono hb.size)
      clear k0 k1 hb h1
      rw [HR.out]
      go_wp2_with fail
      refine (HW.out w1 (by omega)).mono ?_
      rintro e w' ⟨rfl, rfl⟩
      go_wp2_with fail
      refine (HW2.out w1 (by decide)).mono ?_
      rintro e w' ⟨rfl, rfl⟩
      have c1 := k0a.tcell (i := k) (by rw [HL.out]; omega)
      have c2 := k0a.free (k)
      have hov2 : decide (1099511627776 - n < l.getD (k) 0) = true := decide_eq_true (by omega)
      generalize l.getD (k) 0 = x at *
      go_wp2_with ((with_reducible refine wpList_st rowT k1a zero_size zero_size (tc_one zero) ?_ ?_ ?_); rotate_left; (rfl); (rfl); intro w2 k2 g2 z2)
      have b2 := b1.grown g2 b1.size (fun q hq => by injection hq; omega)
      exact bodyPost_ret (v := .tuple #[.agg (tc zero), .int .i64 7]) (results_blk2 rfl rowT k2 zero_size rfl rfl) rfl ⟨by rw [HA.out], b2⟩
    · have HA := Lib.hid (hok hov)
      clear hok hfu hmb hnb hneg
      go_enter Tryz.func42, Tryz.ntmps42
      go_upto_region 1 with fail
      refine nameW ?_
      intro wv hwv
      obtain ⟨g, hg⟩ : ∃ g, g = w.heap.size := ⟨_, rfl⟩
      rw [← hg]
      have k0 : Blk wv g 34 (tc l) := by rw [hwv, hg]; exact (Blk.new w _ _).alloc _
      have k1 : Blk wv (g + 1) 34 (tc zero) := by
        have h := Blk.new (w.alloc (.cells (tc l) 34)) 34 (tc zero)
        rw [zero_tc] at h
        rw [zero_tc, hwv, hg]
        simpa using h
      have hb : Below w.heap.size w wv := by rw [hwv]; exact ((Below.refl _ _).alloc (Nat.le_refl _) _).alloc (by simp) _
      have hgw : w.heap.size ≤ g := by omega
      clear hwv hg
      go_wp2_with ((with_reducible refine wpList_ld rowT k0 HS.out ?_ ?_); rotate_left; (rfl))
      refine (right_any l wv HL.out).mono ?_
      rintro e w1 ⟨rfl, h1⟩
      have k0a := k0.below h1 k0.lt
      have k1a := k1.below h1 k1.lt
      have b1 := hb.trans (h1.mono hb.size)
      clear k0 k1 hb h1
      rw [HR.out]
      go_wp2_with fail
      refine (HW.out w1 (by omega)).mono ?_
      rintro e w' ⟨rfl, rfl⟩
      go_wp2_with fail
      refine (HW2.out w1 (by decide)).mono ?_
      rintro e w' ⟨rfl, rfl⟩
      have c1 := k0a.tcell (i := k) (by rw [HL.out]; omega)
      have c2 := k0a.free (k)
      have hov2 : decide (1099511627776 - n < l.getD (k) 0) = false := decide_eq_false (by omega)
      have hxb := right_at HR.out (k)
      unfold top at hxb
      obtain ⟨x, hx⟩ : ∃ x, l.getD (k) 0 = x := ⟨_, rfl⟩
      rw [hx] at c1 hov2 hov hxb HA
      clear hx
      have k0b : Blk (w1.setCell ⟨g, k, none⟩ (.int .i64 (x + n))) g 34 (tc (l.set (k) (x + n))) := by
        have h := k0a.set_ (k) (.int .i64 (x + n))
        rwa [tc_set] at h
      have k1b : Blk (w1.setCell ⟨g, k, none⟩ (.int .i64 (x + n))) (g + 1) 34 (tc zero) := k1a.far (p := ⟨g, k, none⟩) (by simp) _
      have HS2 : Hid ((tc (l.set (k) (x + n))).size = 16) := by
        have : (tc (l.set (k) (x + n))).size = 16 := by rw [tc_size, List.length_set, HL.out]
        exact Lib.hid this
      have b1b : Below w.heap.size w (w1.setCell ⟨g, k, none⟩ (.int .i64 (x + n))) := b1.setCell hgw _
      have hone := tc_one (l.set (k) (x + n))
      have HONE := Lib.hid hone
      clear hone k0a k1a b1
      generalize l.set (k) (x + n) = m at *
      go_wp2_with (first
        | ((with_reducible refine wpList_ld rowT k0b HS2.out ?_ ?_); rotate_left; (rfl))
        | ((with_reducible refine wpList_st rowT k1b HS2.out zero_size HONE.out ?_ ?_ ?_); rotate_left; (rfl); (rfl); intro w2 k2 g2 z2))
      have b2 := b1b.grown g2 b1b.size (fun q hq => by injection hq; omega)
      exact bodyPost_ret (v := .tuple #[.agg (tc m), .int .i64 0]) (results_blk2 rfl rowT k2 HS2.out rfl rfl) rfl ⟨by rw [HA.out], b2⟩
end Go.Proofs.YtocoohpekpkmkaaGreat
