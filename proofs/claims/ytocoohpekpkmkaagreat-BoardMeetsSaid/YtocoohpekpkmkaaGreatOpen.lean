/- How ints, structs and slices that came in read: on cells. -/
import Derived.Test.YtocoohpekpkmkaaGreatFrameRead
import Derived.Test.YtocoohpekpkmkaaGreatTallyWalks
import Derived.Test.YtocoohpekpkmkaaGreatWf
import Derived.Test.YtocoohpekpkmkaaGreatMem
import Derived.Test.YtocoohpekpkmkaaGreatRows
import Derived.ProofKit
import Derived.OpenShut
import Derived.ShutString
import Derived.ChangeOld
import Derived.Below
import Derived.Deep.Slices
import Derived.Deep.Fields
import Derived.Deep.Strs
/- The walk of package frame's Get. -/
namespace Go.Proofs.YtocoohpekpkmkaaGreat
set_option linter.unusedVariables false
set_option linter.unusedSimpArgs false
open Go.RowKit
/-- A region that must not panic: what holds behind a panic is no matter. -/
def NoPanic (Q : Exit → Act → World → Prop) : Exit → Act → World → Prop
  | .panic _, _, _ => False
  | e, a, w => Q e a w
theorem NoPanic.ok {Q : Exit → Act → World → Prop} {a : Act} {w : World} (h : Q .normal a w) : NoPanic Q .normal a w := h
theorem wp_nopanic {P : Program} {c : Code} {Q : Exit → Act → World → Prop} {a : Act} {w : World} (h : c.wp P (NoPanic Q) a w) : c.wp P Q a w :=
  Code.wp_mono (fun e a w h => by cases e <;> first | exact h | exact False.elim h) h
namespace Frame
/-- What Get leaves. -/
def GetF (w : World) (bs : List UInt8) (e : Ending) (w' : World) : Prop :=
  Below w.heap.size w w' ∧ match dec bs with
    | .ok (x, r) => ∃ A1 c1 A2 c2, e = .returned (.tuple #[.slice A1 x.length c1, .slice A2 r.length c2, .int .i64 0]) ∧ OwnB w' w.heap.size A1 x.length c1 x ∧ OwnB w' w.heap.size A2 r.length c2 r ∧ ∀ g, A1.map (·.block) = some g → A2.map (·.block) ≠ some g
    | .error y => e = .returned (.tuple #[.slice none 0 0, .slice none 0 0, .int .i64 (y : Nat)])
set_option maxRecDepth 100000 in
set_option maxHeartbeats 400000 in
theorem get_any (A : Option Addr) (n c : Nat) (bs : List UInt8) (B : Nat) (w : World) (hb : RdB w B A n bs) (hB : B ≤ w.heap.size) (hl : n ≤ 140737488355000) (hc : n ≤ c) (hm : c ≤ maxLen) :
    Calls Tryz.prog 50 #[.slice A n c] w (GetF w bs) := by
  obtain rfl := hb.1
  have hb0 := hb.alloc hB (.cells #[.int .i64 0] 50)
  have k0 := Blk.new w 50 #[.int .i64 0]
  have hbw : Below w.heap.size w (w.alloc (.cells #[.int .i64 0] 50)) := (Below.refl _ _).alloc (Nat.le_refl _) _
  have hBw : B ≤ (w.alloc (.cells #[.int .i64 0] 50)).heap.size := by simp; omega
  rcases hd : dec bs with y | ⟨x, r⟩
  · have HD := Lib.hid hd
    clear hd
    go_enter_defers Tryz.func50, Tryz.ntmps50
    go_wp2_with fail
    refine (read_any _ _ _ bs B _ hb0 hBw hl hc hm).mono ?_
    rintro e w1 ⟨hb1, he⟩
    rw [HD.out] at he
    simp only at he
    subst he
    have k1 := k0.below hb1 k0.lt
    have hb2 := hbw.trans (hb1.mono hbw.size)
    go_wp2_with fail
    refine leaves_cons (f := 77) (args := #[.pointer (some ⟨w.heap.size, 0, none⟩)]) (by simp) (by simp [go_sem]) ?_
    refine (caught_panic _ _ _ _ _ (k1.cell 0) (k1.free 0)).mono ?_
    rintro e u' w'' ⟨rfl, rfl, rfl⟩
    have k2 := (k1.alloc (.cells #[.int .i64 (y : Nat)] 159)).set_ 0 (.int .i64 (y : Nat))
    have c2 := k2.cell 0
    have hb3 : Below w.heap.size w ((w1.alloc (.cells #[.int .i64 (y : Nat)] 159)).setCell ⟨w.heap.size, 0, none⟩ (.int .i64 (y : Nat))) := (hb2.alloc hb2.size _).setCell (Nat.le_refl _) _
    refine ⟨.tuple #[.slice none 0 0, .slice none 0 0, .int .i64 (y : Nat)], by simp [results, Tryz.results50, go_sem, c2], hb3, ?_⟩
    rw [HD.out]
  · have HD := Lib.hid hd
    obtain ⟨hfx, hxl⟩ := dec_ok hd
    have hfl : (frm x).length + r.length = bs.length := by rw [hfx, List.length_append]
    have hpos : 0 < (frm x).length := by rw [frm_length]; omega
    have hdr : bs.drop (frm x).length = r := by rw [hfx, List.drop_left]
    obtain ⟨a, rfl, hab, _⟩ := hb.at_ (k := 0) (by omega)
    obtain ⟨m, hmm⟩ : ∃ m, m = (frm x).length := ⟨_, rfl⟩
    rw [← hmm] at hfl hpos hdr
    have HM := Lib.hid hmm
    have HR := Lib.hid hdr
    clear hd hfx hmm hdr
    go_enter_defers Tryz.func50, Tryz.ntmps50
    go_wp2_with fail
    refine (read_any _ _ _ bs B _ hb0 hBw hl hc hm).mono ?_
    rintro e w1 ⟨hb1, he⟩
    rw [HD.out] at he
    simp only at he
    obtain ⟨A1, c1, rfl, hx1⟩ := he
    rw [← HM.out]
    have k1 := k0.below hb1 k0.lt
    have hb2 := hbw.trans (hb1.mono hbw.size)
    have hr1 := (hb0.below (hb1.mono hBw)).drop m
    rw [HR.out] at hr1
    have hrn : bs.length - m = r.length := by omega
    rw [hrn] at hr1
    have hr2 : RdB w1.drew B (if c = m then some a else some (a.add m)) r.length r := by
      split
      · rename_i h
        have : r = [] := List.eq_nil_of_length_eq_zero (by omega)
        rw [this]
        exact RdB.nil _ _ _
      · exact hr1
    have hx2 : RdB w1.drew B A1 x.length x := hx1
    obtain ⟨A2, hA2⟩ : ∃ A2, A2 = (if c = m then some a else some (a.add m)) := ⟨_, rfl⟩
    rw [← hA2] at hr2
    have hA3 := hA2.symm
    clear hA2 hr1 hx1
    have le1 : m ≤ bs.length := by omega
    have hB1 : B ≤ w1.drew.heap.size := Nat.le_trans hBw hb1.size
    go_upto_region 3 with fail
    refine wp_nopanic ?_
    go_region_with (first
      | (go_at_call_of 79 (Value.slice A1 x.length c1); refine (clone_any _ _ _ _ _ _ hx2 hB1 (by omega)).mono ?_; rintro e w3 ⟨A3, n3, c3, rfl, o3, b3⟩; have hr3 := hr2.below (b3.mono hB1); have hB3 := Nat.le_trans hB1 b3.size; have k3 := k1.drew.below b3 k1.lt; obtain rfl := o3.1)
      | (go_at_call 79; refine (clone_any _ _ _ _ _ _ hr3 hB3 (by omega)).mono ?_; rintro e w4 ⟨A4, n4, c4, rfl, o4, b4⟩; have k4 := k3.below b4 k3.lt; have f4 := k4.free 0; have q4 := k4.cell 0; have o3b := o3.below b4 (Nat.le_refl _); obtain rfl := o4.1))
    refine NoPanic.ok ?_
    go_wp2_with fail
    refine leaves_cons (f := 77) (args := #[.pointer (some ⟨w.heap.size, 0, none⟩)]) (by simp) (by simp [go_sem]) ?_
    refine (caught_none _ _).mono ?_
    rintro e u' w'' ⟨rfl, rfl, rfl⟩
    have k5 := k4.set_ 0 (.int .i64 0)
    have c5 := k5.cell 0
    have hs1 : w.heap.size < w1.heap.size := k1.lt
    have hs3 : w1.heap.size ≤ w3.heap.size := b3.size
    have ne3 : A3.map (·.block) ≠ some w.heap.size := fun e => by
      have := (o3b.lt _ e).1
      simp at this
      omega
    have ne4 : A4.map (·.block) ≠ some w.heap.size := fun e => by
      have := (o4.lt _ e).1
      omega
    have hb4 : Below w.heap.size w w4 := (hb2.drew.trans (b3.mono hb2.size)).trans (b4.mono (by have := hb2.size; omega))
    refine ⟨.tuple #[.slice A3 x.length c3, .slice A4 r.length c4, .int .i64 0], by simp [results, Tryz.results50, go_sem, c5], hb4.setCell (Nat.le_refl _) _, ?_⟩
    rw [HD.out]
    refine ⟨A3, c3, A4, c4, rfl, (o3b.setFar ne3 _).mono ?_, (o4.setFar ne4 _).mono ?_, fun g hg hg2 => ?_⟩
    · show w.heap.size ≤ w1.heap.size; omega
    · omega
    · have l1 := (o3.lt _ hg).2
      have l2 := (o4.lt _ hg2).1
      omega
end Frame
end Go.Proofs.YtocoohpekpkmkaaGreat

/- '==' between two tallies. -/
namespace Go.Proofs.YtocoohpekpkmkaaGreat
set_option linter.unusedVariables false
set_option linter.unusedSimpArgs false
open Go.RowKit
open Tally
theorem right_wf {l : List Int} (h : rightB l = true) : Wf l := fun x hx => by
  obtain ⟨i, hi, rfl⟩ := List.getElem_of_mem hx
  have := right_at h i
  rw [List.getD_eq_getElem?_getD, List.getElem?_eq_getElem hi] at this
  unfold top at this
  simp only [Option.getD_some] at this
  exact wf_of (by omega) (by omega)
theorem split8 (l : List Int) (hl : l.length = 16) : l.map (Lit.int .i64) = (l.take 8).map (Lit.int .i64) ++ (l.drop 8).map (Lit.int .i64) := by rw [← List.map_append, List.take_append_drop]
/-- A type of two arrays of eight ints. -/
def TwoT (T : TypeId) : Prop := (∃ f0 f1 : Field, (Tryz.prog).underlying T = some (.struct #[f0, f1]) ∧ f0.type = 22 ∧ f0.offset = 0 ∧ f1.type = 22 ∧ f1.offset = 8 ∧ f0.name ≠ "_" ∧ f1.name ≠ "_") ∧ (Tryz.prog).cellsOf T = 16 ∧ (Tryz.prog).keyTypeAt 4 T = true ∧ (Tryz.prog).eqGuardType (Tryz.prog).depth T = false
theorem twoT : TwoT 34 := ⟨⟨_, _, Tryz.underlying34, rfl, rfl, rfl, rfl, by decide, by decide⟩, by kernel_rfl, by kernel_rfl, by kernel_rfl⟩
theorem twoR : TwoT 24 := ⟨⟨_, _, Tryz.underlying24, rfl, rfl, rfl, rfl, by decide, by decide⟩, by kernel_rfl, by kernel_rfl, by kernel_rfl⟩
theorem keyLits_tc {T : TypeId} (hT : TwoT T) (l : List Int) (hl : l.length = 16) (hw : Wf l) : (Tryz.prog).keyLits 3 T (tc l).toList = some (l.map (Lit.int .i64)) := by
  obtain ⟨⟨f0, f1, hu, t0, o0, t1, o1, n0, n1⟩, hc, _, _⟩ := hT
  have h0 := keyLits_arr 0 (l.take 8) (by simp; omega) (fun x hx => hw x (List.mem_of_mem_take hx))
  have h1 := keyLits_arr 0 (l.drop 8) (by simp; omega) (fun x hx => hw x (List.mem_of_mem_drop hx))
  have e0 : (((tc l).toList.drop 0).take 8) = (l.take 8).map (Value.int .i64) := by simp [tc]
  have e1 : (((tc l).toList.drop 8).take 8) = (l.drop 8).map (Value.int .i64) := by
    simp only [tc]
    rw [← List.map_drop, List.take_of_length_le (by simp; omega)]
  unfold Program.keyLits
  have hcs : (tc l).toList.length = 16 := by rw [Array.length_toList, tc_size, hl]
  simp only [hu, hcs, hc]
  rw [if_pos ⟨trivial, by simp [n0, n1]⟩]
  simp only [List.mapM_cons, List.mapM_nil, t0, t1, o0, o1, cellsA, e0, e1, h0, h1]
  rw [split8 l hl]
  simp
theorem eq_run {T : TypeId} (hT : TwoT T) (w : World) (a b : List Int) (ha : a.length = 16) (hb : b.length = 16) (wa : Wf a) (wb : Wf b) :
    (binOp .eql T (.agg (tc a)) (.agg (tc b))).run Tryz.prog w = .ok (.bool (decide (a = b))) w := by
  have hk := hT.2.2.1
  have hfm : ∀ l : List Int, l.length = 16 → (Value.agg (tc l)).formed Tryz.prog T = true := fun l hl => by
    obtain ⟨⟨f0, f1, hu, _⟩, hc, _⟩ := hT
    simp [Value.formed, hu, hc, tc_size, hl]
  obtain ⟨r, h1, h2⟩ := run_equalIn_deep (P := Tryz.prog) 9996 4 T hk w 3 3 (.agg (tc a)) (.agg (tc b)) _ _ (hfm a ha) (hfm b hb) (keyLits_tc hT a ha wa) (keyLits_tc hT b hb wb)
  rw [run_eql_struct, h1]
  have : r = decide (a = b) := by
    rw [Bool.eq_iff_iff, h2, decide_eq_true_eq]
    constructor
    · intro h
      exact (List.map_inj_right (fun x y h => by injection h)).1 h
    · intro h; rw [h]
  rw [this]
  rfl
section
variable {ops : Array Oper} {rest : List Oper} {d : Option Tmp} {ty : TypeId} {pos : String} {aft : Array Edge} {gd : Option (Nat × Bool)} {x y : Operand} {T z : TypeId} {A B : List Int}
theorem exec_eq {a : Act} (hT : TwoT T) (ha : A.length = 16) (hb : B.length = 16) (wa : Wf A) (wb : Wf B) (hx : a.eval x = .agg (tc A)) (hy : a.eval y = .agg (tc B)) (w : World) : (execOp a.eval ⟨d, .binOp .eql T x y z, ty, pos, aft, gd⟩).run Tryz.prog w = .ok (.value (.bool (decide (A = B)))) w := by
  unfold execOp
  simp only [hx, hy, Sem.run_bind, run_eqGuard_agg w .eql T x y (tc A) (tc B) hT.2.2.2, Result.andThen_ok, eq_run hT w A B ha hb wa wb, Sem.run_pure]
theorem quiet_eq {a : Act} {Q : Act → Prop} {C : World → Prop} (hT : TwoT T) (ha : A.length = 16) (hb : B.length = 16) (wa : Wf A) (wb : Wf B)
    (h : wpQuiet Tryz.prog ops C Q rest (a.put d (.bool (decide (A = B))))) (hx : a.eval x = .agg (tc A)) (hy : a.eval y = .agg (tc B)) (hw : Region.wanted ⟨d, .binOp .eql T x y z, ty, pos, aft, gd⟩ (yielded ops a.tmps) = true) : wpQuiet Tryz.prog ops C Q (⟨d, .binOp .eql T x y z, ty, pos, aft, gd⟩ :: rest) a := by
  unfold wpQuiet
  rw [if_pos hw]
  refine ⟨.bool (decide (A = B)), fun w hC => ?_, h⟩
  unfold Oper.quietAt
  rw [exec_eq hT ha hb wa wb hx hy w]
  exact ⟨rfl, rfl⟩
theorem wpList_eq {a : Act} {w : World} {Q : Exit → Act → World → Prop} (hT : TwoT T) (ha : A.length = 16) (hb : B.length = 16) (wa : Wf A) (wb : Wf B)
    (h : wpList Tryz.prog ops Q rest (a.put d (.bool (decide (A = B)))) w) (hx : a.eval x = .agg (tc A)) (hy : a.eval y = .agg (tc B)) (hw : Region.wanted ⟨d, .binOp .eql T x y z, ty, pos, aft, gd⟩ (yielded ops a.tmps) = true) : wpList Tryz.prog ops Q (⟨d, .binOp .eql T x y z, ty, pos, aft, gd⟩ :: rest) a w := by
  refine wpList_step fun K hK => ?_
  rw [if_pos hw]
  unfold Oper.wp
  rw [exec_eq hT ha hb wa wb hx hy w]
  exact hK _ _ h
theorem ne_run {T : TypeId} (hT : TwoT T) (w : World) (a b : List Int) (ha : a.length = 16) (hb : b.length = 16) (wa : Wf a) (wb : Wf b) :
    (binOp .neq T (.agg (tc a)) (.agg (tc b))).run Tryz.prog w = .ok (.bool (!decide (a = b))) w := by
  have h := eq_run hT w a b ha hb wa wb
  rw [run_eql_struct] at h
  rw [run_neq_struct]
  revert h
  generalize (Op.equalIn 10000 T (.agg (tc a)) (.agg (tc b))).run Tryz.prog w = r
  intro h
  cases r with
  | halt x w' => simp [Result.andThen] at h
  | ok b' w' =>
    simp only [Result.andThen_ok] at h ⊢
    injection h with h1 h2
    injection h1 with h1
    rw [h1, h2]
theorem quiet_ne {a : Act} {Q : Act → Prop} {C : World → Prop} (hT : TwoT T) (ha : A.length = 16) (hb : B.length = 16) (wa : Wf A) (wb : Wf B)
    (h : wpQuiet Tryz.prog ops C Q rest (a.put d (.bool (!decide (A = B))))) (hx : a.eval x = .agg (tc A)) (hy : a.eval y = .agg (tc B)) (hw : Region.wanted ⟨d, .binOp .neq T x y z, ty, pos, aft, gd⟩ (yielded ops a.tmps) = true) : wpQuiet Tryz.prog ops C Q (⟨d, .binOp .neq T x y z, ty, pos, aft, gd⟩ :: rest) a := by
  unfold wpQuiet
  rw [if_pos hw]
  refine ⟨.bool (!decide (A = B)), fun w hC => ?_, h⟩
  unfold Oper.quietAt execOp
  simp only [hx, hy, Sem.run_bind, run_eqGuard_agg w .neq T x y (tc A) (tc B) hT.2.2.2, Result.andThen_ok, ne_run hT w A B ha hb wa wb, Sem.run_pure]
  exact ⟨rfl, rfl⟩
end
end Go.Proofs.YtocoohpekpkmkaaGreat

/- The walks of tally: Add. -/
namespace Go.Proofs.YtocoohpekpkmkaaGreat
set_option linter.unusedVariables false
set_option linter.unusedSimpArgs false
open Go.RowKit
open Tally
def AddEnd (w : World) (l : List Int) (node n : Int) (e : Ending) (w' : World) : Prop := e = .returned (.tuple #[.agg (tc (addL l node n).1), .int .i64 (addL l node n).2]) ∧ Below w.heap.size w w'
set_option maxHeartbeats 2000000 in
theorem add_any (l : List Int) (node n : Int) (w : World) (hl : l.length = 16) :
    Calls Tryz.prog 42 #[.agg (tc l), .int .i64 node, .int .i64 n] w (AddEnd w l node n) := by
  have hs : (tc l).size = 16 := by rw [tc_size, hl]
  have HS := Lib.hid hs
  have HL := Lib.hid hl
  clear hl hs
  by_cases hr : rightB l = true
  case neg =>
    have hr2 : rightB l = false := by simpa using hr
    have HA := Lib.hid (add_bad (l := l) (node := node) (n := n) (.inl hr2))
    have HR := Lib.hid hr2
    clear hr hr2
    go_enter Tryz.func42, Tryz.ntmps42
    go_upto_region 1 with fail
    refine nameW ?_
    intro wv hwv
    obtain ⟨g, hg⟩ : ∃ g, g = w.heap.size := ⟨_, rfl⟩
    rw [← hg]
    have k0 : Blk wv g 34 (tc l) := by rw [hwv, hg]; exact (Blk.new w _ _).alloc _
    have k1 : Blk wv (g + 1) 34 (tc zero) := by
      have h := Blk.new (w.alloc (.cells (tc l) 34)) 34 (tc zero)
      rw [zero_tc] at h
      rw [zero_tc, hwv, hg]
      simpa using h
    have hb : Below w.heap.size w wv := by rw [hwv]; exact ((Below.refl _ _).alloc (Nat.le_refl _) _).alloc (by simp) _
    have hgw : w.heap.size ≤ g := by omega
    clear hwv hg
    go_wp2_with ((with_reducible refine wpList_ld rowT k0 HS.out ?_ ?_); rotate_left; (rfl))
    refine (right_any l wv HL.out).mono ?_
    rintro e w1 ⟨rfl, h1⟩
    have k0a := k0.below h1 k0.lt
    have k1a := k1.below h1 k1.lt
    have b1 := hb.trans (h1.mono hb.size)
    clear k0 k1 hb h1
    rw [HR.out]
    go_wp2_with ((with_reducible refine wpList_st rowT k1a zero_size zero_size (tc_one zero) ?_ ?_ ?_); rotate_left; (rfl); (rfl); intro w2 k2 g2 z2)
    have b2 := b1.grown g2 b1.size (fun q hq => by injection hq; omega)
    exact bodyPost_ret (v := .tuple #[.agg (tc zero), .int .i64 2]) (results_blk2 rfl rowT k2 zero_size rfl rfl) rfl ⟨by rw [HA.out], b2⟩
  have HR := Lib.hid hr
  clear hr
  by_cases hn : inB node 0 7 = true
  case neg =>
    have hn2 : inB node 0 7 = false := by simpa using hn
    have HA := Lib.hid (add_bad (l := l) (node := node) (n := n) (.inr (.inl hn2)))
    have hw := within_any node 0 7
    rw [hn2] at hw
    have HW := Lib.hid hw
    clear hn hn2 hw
    go_enter Tryz.func42, Tryz.ntmps42
    go_upto_region 1 with fail
    refine nameW ?_
    intro wv hwv
    obtain ⟨g, hg⟩ : ∃ g, g = w.heap.size := ⟨_, rfl⟩
    rw [← hg]
    have k0 : Blk wv g 34 (tc l) := by rw [hwv, hg]; exact (Blk.new w _ _).alloc _
    have k1 : Blk wv (g + 1) 34 (tc zero) := by
      have h := Blk.new (w.alloc (.cells (tc l) 34)) 34 (tc zero)
      rw [zero_tc] at h
      rw [zero_tc, hwv, hg]
      simpa using h
    have hb : Below w.heap.size w wv := by rw [hwv]; exact ((Below.refl _ _).alloc (Nat.le_refl _) _).alloc (by simp) _
    have hgw : w.heap.size ≤ g := by omega
    clear hwv hg
    go_wp2_with ((with_reducible refine wpList_ld rowT k0 HS.out ?_ ?_); rotate_left; (rfl))
    refine (right_any l wv HL.out).mono ?_
    rintro e w1 ⟨rfl, h1⟩
    have k0a := k0.below h1 k0.lt
    have k1a := k1.below h1 k1.lt
    have b1 := hb.trans (h1.mono hb.size)
    clear k0 k1 hb h1
    rw [HR.out]
    go_wp2_with fail
    refine (HW.out w1 (by omega)).mono ?_
    rintro e w' ⟨rfl, rfl⟩
    go_wp2_with ((with_reducible refine wpList_st rowT k1a zero_size zero_size (tc_one zero) ?_ ?_ ?_); rotate_left; (rfl); (rfl); intro w2 k2 g2 z2)
    have b2 := b1.grown g2 b1.size (fun q hq => by injection hq; omega)
    exact bodyPost_ret (v := .tuple #[.agg (tc zero), .int .i64 2]) (results_blk2 rfl rowT k2 zero_size rfl rfl) rfl ⟨by rw [HA.out], b2⟩
  have hnb := (inB_iff _ _ _).1 hn
  have HN := Lib.hid hn
  have hw := within_any node 0 7
  rw [hn] at hw
  have HW := Lib.hid hw
  clear hn hw
  by_cases hm : inB n (-top) top = true
  case neg =>
    have hm2 : inB n (-top) top = false := by simpa using hm
    have HA := Lib.hid (add_bad (l := l) (node := node) (n := n) (.inr (.inr hm2)))
    have hw2 := within_any n (-top) top
    rw [hm2] at hw2
    have HW2 := Lib.hid hw2
    clear hm hm2 hw2
    go_enter Tryz.func42, Tryz.ntmps42
    go_upto_region 1 with fail
    refine nameW ?_
    intro wv hwv
    obtain ⟨g, hg⟩ : ∃ g, g = w.heap.size := ⟨_, rfl⟩
    rw [← hg]
    have k0 : Blk wv g 34 (tc l) := by rw [hwv, hg]; exact (Blk.new w _ _).alloc _
    have k1 : Blk wv (g + 1) 34 (tc zero) := by
      have h := Blk.new (w.alloc (.cells (tc l) 34)) 34 (tc zero)
      rw [zero_tc] at h
      rw [zero_tc, hwv, hg]
      simpa using h
    have hb : Below w.heap.size w wv := by rw [hwv]; exact ((Below.refl _ _).alloc (Nat.le_refl _) _).alloc (by simp) _
    have hgw : w.heap.size ≤ g := by omega
    clear hwv hg
    go_wp2_with ((with_reducible refine wpList_ld rowT k0 HS.out ?_ ?_); rotate_left; (rfl))
    refine (right_any l wv HL.out).mono ?_
    rintro e w1 ⟨rfl, h1⟩
    have k0a := k0.below h1 k0.lt
    have k1a := k1.below h1 k1.lt
    have b1 := hb.trans (h1.mono hb.size)
    clear k0 k1 hb h1
    rw [HR.out]
    go_wp2_with fail
    refine (HW.out w1 (by omega)).mono ?_
    rintro e w' ⟨rfl, rfl⟩
    go_wp2_with fail
    refine (HW2.out w1 (by decide)).mono ?_
    rintro e w' ⟨rfl, rfl⟩
    go_wp2_with ((with_reducible refine wpList_st rowT k1a zero_size zero_size (tc_one zero) ?_ ?_ ?_); rotate_left; (rfl); (rfl); intro w2 k2 g2 z2)
    have b2 := b1.grown g2 b1.size (fun q hq => by injection hq; omega)
    exact bodyPost_ret (v := .tuple #[.agg (tc zero), .int .i64 2]) (results_blk2 rfl rowT k2 zero_size rfl rfl) rfl ⟨by rw [HA.out], b2⟩
  have hmb := (inB_iff _ _ _).1 hm
  have HM := Lib.hid hm
  have hw2 := within_any n (-top) top
  rw [hm] at hw2
  have HW2 := Lib.hid hw2
  clear hm hw2
  obtain ⟨k, rfl⟩ := Int.eq_ofNat_of_zero_le hnb.1
  have hk7 : k < 8 := by omega
  by_cases hneg : n < 0
  · obtain ⟨p, rfl⟩ : ∃ p : Int, n = -p := ⟨-n, by omega⟩
    have hp : 1 ≤ p ∧ p ≤ 1099511627776 := by unfold top at hmb; omega
    have hsl : slot (k : Int) (-p) = 8 + k := by unfold slot; split <;> omega
    have ham : amt (-p) = p := by unfold amt; split <;> omega
    have hok := add_ok (l := l) HR.out HN.out HM.out
    have hfu := add_full (l := l) HR.out HN.out HM.out
    rw [hsl, ham] at hok hfu
    unfold top at hok hfu
    clear hsl ham
    by_cases hov : 1099511627776 - p < l.getD (8 + k) 0
    · have HA := Lib.hid (hfu hov)
      clear hok hfu hmb hnb hneg
      go_enter Tryz.func42, Tryz.ntmps42
      go_upto_region 1 with fail
      refine nameW ?_
      intro wv hwv
      obtain ⟨g, hg⟩ : ∃ g, g = w.heap.size := ⟨_, rfl⟩
      rw [← hg]
      have k0 : Blk wv g 34 (tc l) := by rw [hwv, hg]; exact (Blk.new w _ _).alloc _
      have k1 : Blk wv (g + 1) 34 (tc zero) := by
        have h := Blk.new (w.alloc (.cells (tc l) 34)) 34 (tc zero)
        rw [zero_tc] at h
        rw [zero_tc, hwv, hg]
        simpa using h
      have hb : Below w.heap.size w wv := by rw [hwv]; exact ((Below.refl _ _).alloc (Nat.le_refl _) _).alloc (by simp) _
      have hgw : w.heap.size ≤ g := by omega
      clear hwv hg
      go_wp2_with ((with_reducible refine wpList_ld rowT k0 HS.out ?_ ?_); rotate_left; (rfl))
      refine (right_any l wv HL.out).mono ?_
      rintro e w1 ⟨rfl, h1⟩
      have k0a := k0.below h1 k0.lt
      have k1a := k1.below h1 k1.lt
      have b1 := hb.trans (h1.mono hb.size)
      clear k0 k1 hb h1
      rw [HR.out]
      go_wp2_with fail
      refine (HW.out w1 (by omega)).mono ?_
      rintro e w' ⟨rfl, rfl⟩
      go_wp2_with fail
      refine (HW2.out w1 (by decide)).mono ?_
      rintro e w' ⟨rfl, rfl⟩
      have c1 := k0a.tcell (i := 8 + k) (by rw [HL.out]; omega)
      have c2 := k0a.free (8 + k)
      have hov2 : decide (1099511627776 - p < l.getD (8 + k) 0) = true := decide_eq_true (by omega)
      generalize l.getD (8 + k) 0 = x at *
      go_wp2_with ((with_reducible refine wpList_st rowT k1a zero_size zero_size (tc_one zero) ?_ ?_ ?_); rotate_left; (rfl); (rfl); intro w2 k2 g2 z2)
      have b2 := b1.grown g2 b1.size (fun q hq => by injection hq; omega)
      exact bodyPost_ret (v := .tuple #[.agg (tc zero), .int .i64 7]) (results_blk2 rfl rowT k2 zero_size rfl rfl) rfl ⟨by rw [HA.out], b2⟩
    · have HA := Lib.hid (hok hov)
      clear hok hfu hmb hnb hneg
      go_enter Tryz.func42, Tryz.ntmps42
      go_upto_region 1 with fail
      refine nameW ?_
      intro wv hwv
      obtain ⟨g, hg⟩ : ∃ g, g = w.heap.size := ⟨_, rfl⟩
      rw [← hg]
      have k0 : Blk wv g 34 (tc l) := by rw [hwv, hg]; exact (Blk.new w _ _).alloc _
      have k1 : Blk wv (g + 1) 34 (tc zero) := by
        have h := Blk.new (w.alloc (.cells (tc l) 34)) 34 (tc zero)
        rw [zero_tc] at h
        rw [zero_tc, hwv, hg]
        simpa using h
      have hb : Below w.heap.size w wv := by rw [hwv]; exact ((Below.refl _ _).alloc (Nat.le_refl _) _).alloc (by simp) _
      have hgw : w.heap.size ≤ g := by omega
      clear hwv hg
      go_wp2_with ((with_reducible refine wpList_ld rowT k0 HS.out ?_ ?_); rotate_left; (rfl))
      refine (right_any l wv HL.out).mono ?_
      rintro e w1 ⟨rfl, h1⟩
      have k0a := k0.below h1 k0.lt
      have k1a := k1.below h1 k1.lt
      have b1 := hb.trans (h1.mono hb.size)
      clear k0 k1 hb h1
      rw [HR.out]
      go_wp2_with fail
      refine (HW.out w1 (by omega)).mono ?_
      rintro e w' ⟨rfl, rfl⟩
      go_wp2_with fail
      refine (HW2.out w1 (by decide)).mono ?_
      rintro e w' ⟨rfl, rfl⟩
      have c1 := k0a.tcell (i := 8 + k) (by rw [HL.out]; omega)
      have c2 := k0a.free (8 + k)
      have hov2 : decide (1099511627776 - p < l.getD (8 + k) 0) = false := decide_eq_false (by omega)
      have hxb := right_at HR.out (8 + k)
      unfold top at hxb
      obtain ⟨x, hx⟩ : ∃ x, l.getD (8 + k) 0 = x := ⟨_, rfl⟩
      rw [hx] at c1 hov2 hov hxb HA
      clear hx
      have k0b : Blk (w1.setCell ⟨g, 8 + k, none⟩ (.int .i64 (x + p))) g 34 (tc (l.set (8 + k) (x + p))) := by
        have h := k0a.set_ (8 + k) (.int .i64 (x + p))
        rwa [tc_set] at h
      have k1b : Blk (w1.setCell ⟨g, 8 + k, none⟩ (.int .i64 (x + p))) (g + 1) 34 (tc zero) := k1a.far (p := ⟨g, 8 + k, none⟩) (by simp) _
      have HS2 : Hid ((tc (l.set (8 + k) (x + p))).size = 16) := by
        have : (tc (l.set (8 + k) (x + p))).size = 16 := by rw [tc_size, List.length_set, HL.out]
        exact Lib.hid this
      have b1b : Below w.heap.size w (w1.setCell ⟨g, 8 + k, none⟩ (.int .i64 (x + p))) := b1.setCell hgw _
      have hone := tc_one (l.set (8 + k) (x + p))
      have HONE := Lib.hid hone
      clear hone k0a k1a b1
      generalize l.set (8 + k) (x + p) = m at *
      go_wp2_with (first
        | ((with_reducible refine wpList_ld rowT k0b HS2.out ?_ ?_); rotate_left; (rfl))
        | ((with_reducible refine wpList_st rowT k1b HS2.out zero_size HONE.out ?_ ?_ ?_); rotate_left; (rfl); (rfl); intro w2 k2 g2 z2))
      have b2 := b1b.grown g2 b1b.size (fun q hq => by injection hq; omega)
      exact bodyPost_ret (v := .tuple #[.agg (tc m), .int .i64 0]) (results_blk2 rfl rowT k2 HS2.out rfl rfl) rfl ⟨by rw [HA.out], b2⟩
  · have hp : 0 ≤ n ∧ n ≤ 1099511627776 := by unfold top at hmb; omega
    have hsl : slot (k : Int) (n) = k := by unfold slot; split <;> omega
    have ham : amt (n) = n := by unfold amt; split <;> omega
    have hok := add_ok (l := l) HR.out HN.out HM.out
    have hfu := add_full (l := l) HR.out HN.out HM.out
    rw [hsl, ham] at hok hfu
    unfold top at hok hfu
    clear hsl ham
    by_cases hov : 1099511627776 - n < l.getD (k) 0
    · have HA := Lib.hid (hfu hov)
      clear hok hfu hmb hnb hneg
      go_enter Tryz.func42, Tryz.ntmps42
      go_upto_region 1 with fail
      refine nameW ?_
      intro wv hwv
      obtain ⟨g, hg⟩ : ∃ g, g = w.heap.size := ⟨_, rfl⟩
      rw [← hg]
      have k0 : Blk wv g 34 (tc l) := by rw [hwv, hg]; exact (Blk.new w _ _).alloc _
      have k1 : Blk wv (g + 1) 34 (tc zero) := by
        have h := Blk.new (w.alloc (.cells (tc l) 34)) 34 (tc zero)
        rw [zero_tc] at h
        rw [zero_tc, hwv, hg]
        simpa using h
      have hb : Below w.heap.size w wv := by rw [hwv]; exact ((Below.refl _ _).alloc (Nat.le_refl _) _).alloc (by simp) _
      have hgw : w.heap.size ≤ g := by omega
      clear hwv hg
      go_wp2_with ((with_reducible refine wpList_ld rowT k0 HS.out ?_ ?_); rotate_left; (rfl))
      refine (right_any l wv HL.out).mono ?_
      rintro e w1 ⟨rfl, h1⟩
      have k0a := k0.below h1 k0.lt
      have k1a := k1.below h1 k1.lt
      have b1 := hb.trans (h1.mono hb.size)
      clear k0 k1 hb h1
      rw [HR.out]
      go_wp2_with fail
      refine (HW.out w1 (by omega)).mono ?_
      rintro e w' ⟨rfl, rfl⟩
      go_wp2_with fail
      refine (HW2.out w1 (by decide)).mono ?_
      rintro e w' ⟨rfl, rfl⟩
      have c1 := k0a.tcell (i := k) (by rw [HL.out]; omega)
      have c2 := k0a.free (k)
      have hov2 : decide (1099511627776 - n < l.getD (k) 0) = true := decide_eq_true (by omega)
      generalize l.getD (k) 0 = x at *
      go_wp2_with ((with_reducible refine wpList_st rowT k1a zero_size zero_size (tc_one zero) ?_ ?_ ?_); rotate_left; (rfl); (rfl); intro w2 k2 g2 z2)
      have b2 := b1.grown g2 b1.size (fun q hq => by injection hq; omega)
      exact bodyPost_ret (v := .tuple #[.agg (tc zero), .int .i64 7]) (results_blk2 rfl rowT k2 zero_size rfl rfl) rfl ⟨by rw [HA.out], b2⟩
    · have HA := Lib.hid (hok hov)
      clear hok hfu hmb hnb hneg
      go_enter Tryz.func42, Tryz.ntmps42
      go_upto_region 1 with fail
      refine nameW ?_
      intro wv hwv
      obtain ⟨g, hg⟩ : ∃ g, g = w.heap.size := ⟨_, rfl⟩
      rw [← hg]
      have k0 : Blk wv g 34 (tc l) := by rw [hwv, hg]; exact (Blk.new w _ _).alloc _
      have k1 : Blk wv (g + 1) 34 (tc zero) := by
        have h := Blk.new (w.alloc (.cells (tc l) 34)) 34 (tc zero)
        rw [zero_tc] at h
        rw [zero_tc, hwv, hg]
        simpa using h
      have hb : Below w.heap.size w wv := by rw [hwv]; exact ((Below.refl _ _).alloc (Nat.le_refl _) _).alloc (by simp) _
      have hgw : w.heap.size ≤ g := by omega
      clear hwv hg
      go_wp2_with ((with_reducible refine wpList_ld rowT k0 HS.out ?_ ?_); rotate_left; (rfl))
      refine (right_any l wv HL.out).mono ?_
      rintro e w1 ⟨rfl, h1⟩
      have k0a := k0.below h1 k0.lt
      have k1a := k1.below h1 k1.lt
      have b1 := hb.trans (h1.mono hb.size)
      clear k0 k1 hb h1
      rw [HR.out]
      go_wp2_with fail
      refine (HW.out w1 (by omega)).mono ?_
      rintro e w' ⟨rfl, rfl⟩
      go_wp2_with fail
      refine (HW2.out w1 (by decide)).mono ?_
      rintro e w' ⟨rfl, rfl⟩
      have c1 := k0a.tcell (i := k) (by rw [HL.out]; omega)
      have c2 := k0a.free (k)
      have hov2 : decide (1099511627776 - n < l.getD (k) 0) = false := decide_eq_false (by omega)
      have hxb := right_at HR.out (k)
      unfold top at hxb
      obtain ⟨x, hx⟩ : ∃ x, l.getD (k) 0 = x := ⟨_, rfl⟩
      rw [hx] at c1 hov2 hov hxb HA
      clear hx
      have k0b : Blk (w1.setCell ⟨g, k, none⟩ (.int .i64 (x + n))) g 34 (tc (l.set (k) (x + n))) := by
        have h := k0a.set_ (k) (.int .i64 (x + n))
        rwa [tc_set] at h
      have k1b : Blk (w1.setCell ⟨g, k, none⟩ (.int .i64 (x + n))) (g + 1) 34 (tc zero) := k1a.far (p := ⟨g, k, none⟩) (by simp) _
      have HS2 : Hid ((tc (l.set (k) (x + n))).size = 16) := by
        have : (tc (l.set (k) (x + n))).size = 16 := by rw [tc_size, List.length_set, HL.out]
        exact Lib.hid this
      have b1b : Below w.heap.size w (w1.setCell ⟨g, k, none⟩ (.int .i64 (x + n))) := b1.setCell hgw _
      have hone := tc_one (l.set (k) (x + n))
      have HONE := Lib.hid hone
      clear hone k0a k1a b1
      generalize l.set (k) (x + n) = m at *
      go_wp2_with (first
        | ((with_reducible refine wpList_ld rowT k0b HS2.out ?_ ?_); rotate_left; (rfl))
        | ((with_reducible refine wpList_st rowT k1b HS2.out zero_size HONE.out ?_ ?_ ?_); rotate_left; (rfl); (rfl); intro w2 k2 g2 z2))
      have b2 := b1b.grown g2 b1b.size (fun q hq => by injection hq; omega)
      exact bodyPost_ret (v := .tuple #[.agg (tc m), .int .i64 0]) (results_blk2 rfl rowT k2 HS2.out rfl rfl) rfl ⟨by rw [HA.out], b2⟩
end Go.Proofs.YtocoohpekpkmkaaGreat

/- The walks of tally: both, Join, More, Within. -/
namespace Go.Proofs.YtocoohpekpkmkaaGreat
set_option linter.unusedVariables false
set_option linter.unusedSimpArgs false
open Go.RowKit
open Tally
/-- A function of two ints, in this program. -/
def Fun2 (f : FuncId) (h : Int → Int → Int) : Prop := ∀ (x y : Int) (w : World), Calls Tryz.prog f #[.int .i64 x, .int .i64 y] w fun e w' => e = .returned (.int .i64 (h x y)) ∧ w = w'
theorem join1 : Fun2 84 mx := by
  intro x y w
  unfold mx
  by_cases h : x < y
  · rw [if_pos h]
    go_enter Tryz.func84, Tryz.ntmps84
    go_wp2_with fail
    go_ret
    exact ⟨rfl, rfl⟩
  · rw [if_neg h]
    go_enter Tryz.func84, Tryz.ntmps84
    go_wp2_with fail
    go_ret
    exact ⟨rfl, rfl⟩
/-- the first k of two tallies' numbers, in the order of 'ord', brought together -/
def bothTo (h : Int → Int → Int) (a b : List Int) : Nat → List Int
  | 0 => a
  | k + 1 => (bothTo h a b k).set (ord k) (h (a.getD (ord k) 0) (b.getD (ord k) 0))
theorem bothTo_len (h : Int → Int → Int) (a b : List Int) (k : Nat) : (bothTo h a b k).length = a.length := by
  induction k with
  | zero => rfl
  | succ k ih => simp [bothTo, ih]
theorem bothTo_at (h : Int → Int → Int) (a b : List Int) (ha : a.length = 16) (k : Nat) (hk : k ≤ 16) (j : Nat) (hj : j < 16) : (bothTo h a b k).getD (ord j) 0 = if j < k then h (a.getD (ord j) 0) (b.getD (ord j) 0) else a.getD (ord j) 0 := by
  induction k with
  | zero => simp [bothTo]
  | succ k ih =>
    have hl := bothTo_len h a b k
    have hok := ord_lt (show k < 16 by omega)
    rw [bothTo, List.getD_eq_getElem?_getD]
    by_cases e : j = k
    · subst e
      rw [List.getElem?_set_self (by omega), if_pos (by omega)]; rfl
    · rw [List.getElem?_set_ne (fun h => e (ord_inj hj (by omega) h.symm)), ← List.getD_eq_getElem?_getD, ih (by omega)]
      by_cases h1 : j < k
      · rw [if_pos h1, if_pos (by omega)]
      · rw [if_neg h1, if_neg (by omega)]
theorem bothTo_all (h : Int → Int → Int) (a b : List Int) (ha : a.length = 16) (hb : b.length = 16) : bothTo h a b 16 = List.zipWith h a b := by
  apply List.ext_getElem?
  intro i
  by_cases hi : i < 16
  · obtain ⟨j, hj, rfl⟩ := ord_onto hi
    have h1 := bothTo_at h a b ha 16 (Nat.le_refl _) j hj
    rw [if_pos hj, List.getD_eq_getElem?_getD, List.getElem?_eq_getElem (by rw [bothTo_len]; omega)] at h1
    rw [List.getElem?_eq_getElem (by rw [bothTo_len]; omega), List.getElem?_zipWith, List.getElem?_eq_getElem (by omega), List.getElem?_eq_getElem (by omega)]
    simp only [Option.getD_some] at h1
    rw [h1, List.getD_eq_getElem?_getD, List.getD_eq_getElem?_getD, List.getElem?_eq_getElem (by omega), List.getElem?_eq_getElem (by omega)]
    rfl
  · rw [List.getElem?_eq_none (by rw [bothTo_len]; omega), List.getElem?_eq_none (by simp; omega)]
/-- A call of that function enters it. -/
def Enters (f : FuncId) : Prop := ∀ (args : Array Value) (w : World), (callFunc f args).run Tryz.prog w = .ok (.enter f args) w
set_option maxRecDepth 100000 in
theorem enters_join : Enters 84 := fun _ _ => rfl
set_option maxRecDepth 100000 in
set_option maxHeartbeats 2000000 in
theorem both_any (f : FuncId) (h : Int → Int → Int) (hf : Fun2 f h) (hen : Enters f) (l m : List Int) (w : World) (hl : l.length = 16) (hm : m.length = 16) :
    Calls Tryz.prog 83 #[.agg (tc l), .agg (tc m), .func (.func f) #[] #[]] w fun e w' => e = .returned (.agg (tc (bothL h l m))) ∧ Below w.heap.size w w' := by
  have HF := Lib.hid hf
  have HEN := Lib.hid hen
  clear hen
  have HS := Lib.hid (show (tc l).size = 16 by rw [tc_size, hl])
  have HM := Lib.hid (show (tc m).size = 16 by rw [tc_size, hm])
  have HSo := Lib.hid (show (tc (ownL l)).size = 16 by rw [tc_size, own_len hl])
  have HMo := Lib.hid (show (tc (ownL m)).size = 16 by rw [tc_size, own_len hm])
  have HL := Lib.hid hl
  have HLM := Lib.hid hm
  clear hf hl hm
  go_enter Tryz.func83, Tryz.ntmps83
  go_upto_region 1 with fail
  refine nameW ?_
  intro wv hwv
  obtain ⟨g, hg⟩ : ∃ g, g = w.heap.size := ⟨_, rfl⟩
  rw [← hg]
  have k0 : Blk wv g 34 (tc l) := by rw [hwv, hg]; exact ((Blk.new w _ _).alloc _).alloc _
  have k1 : Blk wv (g + 1) 34 (tc m) := by
    have h := (Blk.new (w.alloc (.cells (tc l) 34)) 34 (tc m)).alloc (.cells (tc zero) 34)
    rw [zero_tc] at h
    rw [hwv, hg]
    simpa using h
  have k2 : Blk wv (g + 2) 34 (tc zero) := by
    have h := Blk.new ((w.alloc (.cells (tc l) 34)).alloc (.cells (tc m) 34)) 34 (tc zero)
    rw [zero_tc] at h
    rw [zero_tc, hwv, hg]
    simpa using h
  have hb : Below w.heap.size w wv := by rw [hwv]; exact (((Below.refl _ _).alloc (Nat.le_refl _) _).alloc (by simp) _).alloc (by simp; omega) _
  have hgw : w.heap.size ≤ g := by omega
  clear hwv hg
  have k0d : Blk wv.drew g 34 (tc l) := k0
  have k1d : Blk wv.drew (g + 1) 34 (tc m) := k1
  have k2d : Blk wv.drew (g + 2) 34 (tc zero) := k2
  have hbd := hb.drew
  clear k0 k1 k2 hb
  go_cut [3] (fun s wx => s = .pointer (some ⟨g, 0, none⟩) ∧ Blk wx g 34 (tc (ownL l)) ∧ Blk wx (g + 1) 34 (tc (ownL m)) ∧ Blk wx (g + 2) 34 (tc zero) ∧ Below w.heap.size w wx)
  case first =>
    refine wp_region_any (by kernel_rfl) ?_
    try (change wpAny _ _ _ _ _ _ _ (World.drew _))
    refine wpAny_ready (rs := [0, 2]) (by kernel_rfl) (by simp) ?_
    refine AllReady.cons rfl (fun K hK => ?_) (AllReady.cons rfl (fun K hK => ?_) AllReady.nil)
    · refine step_ld rfl rowT (.tmp 3) rfl (by rfl) k0d HS.out ?_
      refine hK _ _ ?_
      clear hK K
      refine wpAny_ready (rs := [1, 2]) (by kernel_rfl) (by simp) ?_
      refine AllReady.cons rfl (fun K hK => ?_) (AllReady.cons rfl (fun K hK => ?_) AllReady.nil)
      · go_simp
        refine (own_any l _ HL.out).mono ?_
        rintro e w1 ⟨rfl, h1⟩
        have k0a := k0d.below h1 k0d.lt
        have k1a := k1d.below h1 k1d.lt
        have k2a := k2d.below h1 k2d.lt
        have b1 := hbd.trans (h1.mono hbd.size)
        refine hK _ _ ?_
        clear hK K
        refine wpAny_ready (rs := [2]) (by kernel_rfl) (by simp) ?_
        refine AllReady.cons rfl (fun K hK => ?_) AllReady.nil
        refine step_ld rfl rowT (.tmp 4) rfl (by rfl) k1a HM.out ?_
        refine hK _ _ ?_
        clear hK K
        refine wpAny_ready (rs := [3]) (by kernel_rfl) (by simp) ?_
        refine AllReady.cons rfl (fun K hK => ?_) AllReady.nil
        go_simp
        refine (own_any m _ HLM.out).mono ?_
        rintro e w2 ⟨rfl, h2⟩
        have k0b := k0a.below h2 k0a.lt
        have k1b := k1a.below h2 k1a.lt
        have k2b := k2a.below h2 k2a.lt
        have b2 := b1.trans (h2.mono b1.size)
        refine hK _ _ ?_
        clear hK K
        refine wpAny_ready (rs := [4]) (by kernel_rfl) (by simp) ?_
        refine AllReady.cons rfl (fun K hK => ?_) AllReady.nil
        refine step_st rfl rowT (.tmp 3) (.tmp 11) rfl (by rfl) (by rfl) k0b HSo.out HS.out (tc_one _) ?_
        intro w3 k03 g3 z3
        have k13 := k1b.grown g3 (by simp)
        have k23 := k2b.grown g3 (by simp)
        have b3 := b2.grown g3 b2.size (fun q hq => by injection hq; omega)
        refine hK _ _ ?_
        clear hK K
        refine wpAny_ready (rs := [5]) (by kernel_rfl) (by simp) ?_
        refine AllReady.cons rfl (fun K hK => ?_) AllReady.nil
        refine step_st rfl rowT (.tmp 4) (.tmp 13) rfl (by rfl) (by rfl) k13 HMo.out HM.out (tc_one _) ?_
        intro w4 k14 g4 z4
        have k04 := k03.grown g4 (by simp)
        have k24 := k23.grown g4 (by simp)
        have b4 := b3.grown g4 b3.size (fun q hq => by injection hq; omega)
        refine hK _ _ ?_
        clear hK K
        refine wpAny_done (by kernel_rfl) ?_ _
        go_wp2_with fail
        go_meet
        exact ⟨rfl, k04, k14, k24, b4⟩
      · refine step_ld rfl rowT (.tmp 4) rfl (by rfl) k1d HM.out ?_
        refine hK _ _ ?_
        clear hK K
        refine wpAny_ready (rs := [1]) (by kernel_rfl) (by simp) ?_
        refine AllReady.cons rfl (fun K hK => ?_) AllReady.nil
        go_simp
        refine (own_any l _ HL.out).mono ?_
        rintro e w1 ⟨rfl, h1⟩
        have k0a := k0d.below h1 k0d.lt
        have k1a := k1d.below h1 k1d.lt
        have k2a := k2d.below h1 k2d.lt
        have b1 := hbd.trans (h1.mono hbd.size)
        refine hK _ _ ?_
        clear hK K
        refine wpAny_ready (rs := [3]) (by kernel_rfl) (by simp) ?_
        refine AllReady.cons rfl (fun K hK => ?_) AllReady.nil
        go_simp
        refine (own_any m _ HLM.out).mono ?_
        rintro e w2 ⟨rfl, h2⟩
        have k0b := k0a.below h2 k0a.lt
        have k1b := k1a.below h2 k1a.lt
        have k2b := k2a.below h2 k2a.lt
        have b2 := b1.trans (h2.mono b1.size)
        refine hK _ _ ?_
        clear hK K
        refine wpAny_ready (rs := [4]) (by kernel_rfl) (by simp) ?_
        refine AllReady.cons rfl (fun K hK => ?_) AllReady.nil
        refine step_st rfl rowT (.tmp 3) (.tmp 11) rfl (by rfl) (by rfl) k0b HSo.out HS.out (tc_one _) ?_
        intro w3 k03 g3 z3
        have k13 := k1b.grown g3 (by simp)
        have k23 := k2b.grown g3 (by simp)
        have b3 := b2.grown g3 b2.size (fun q hq => by injection hq; omega)
        refine hK _ _ ?_
        clear hK K
        refine wpAny_ready (rs := [5]) (by kernel_rfl) (by simp) ?_
        refine AllReady.cons rfl (fun K hK => ?_) AllReady.nil
        refine step_st rfl rowT (.tmp 4) (.tmp 13) rfl (by rfl) (by rfl) k13 HMo.out HM.out (tc_one _) ?_
        intro w4 k14 g4 z4
        have k04 := k03.grown g4 (by simp)
        have k24 := k23.grown g4 (by simp)
        have b4 := b3.grown g4 b3.size (fun q hq => by injection hq; omega)
        refine hK _ _ ?_
        clear hK K
        refine wpAny_done (by kernel_rfl) ?_ _
        go_wp2_with fail
        go_meet
        exact ⟨rfl, k04, k14, k24, b4⟩
    · refine step_ld rfl rowT (.tmp 4) rfl (by rfl) k1d HM.out ?_
      refine hK _ _ ?_
      clear hK K
      refine wpAny_ready (rs := [0]) (by kernel_rfl) (by simp) ?_
      refine AllReady.cons rfl (fun K hK => ?_) AllReady.nil
      refine step_ld rfl rowT (.tmp 3) rfl (by rfl) k0d HS.out ?_
      refine hK _ _ ?_
      clear hK K
      refine wpAny_ready (rs := [1]) (by kernel_rfl) (by simp) ?_
      refine AllReady.cons rfl (fun K hK => ?_) AllReady.nil
      go_simp
      refine (own_any l _ HL.out).mono ?_
      rintro e w1 ⟨rfl, h1⟩
      have k0a := k0d.below h1 k0d.lt
      have k1a := k1d.below h1 k1d.lt
      have k2a := k2d.below h1 k2d.lt
      have b1 := hbd.trans (h1.mono hbd.size)
      refine hK _ _ ?_
      clear hK K
      refine wpAny_ready (rs := [3]) (by kernel_rfl) (by simp) ?_
      refine AllReady.cons rfl (fun K hK => ?_) AllReady.nil
      go_simp
      refine (own_any m _ HLM.out).mono ?_
      rintro e w2 ⟨rfl, h2⟩
      have k0b := k0a.below h2 k0a.lt
      have k1b := k1a.below h2 k1a.lt
      have k2b := k2a.below h2 k2a.lt
      have b2 := b1.trans (h2.mono b1.size)
      refine hK _ _ ?_
      clear hK K
      refine wpAny_ready (rs := [4]) (by kernel_rfl) (by simp) ?_
      refine AllReady.cons rfl (fun K hK => ?_) AllReady.nil
      refine step_st rfl rowT (.tmp 3) (.tmp 11) rfl (by rfl) (by rfl) k0b HSo.out HS.out (tc_one _) ?_
      intro w3 k03 g3 z3
      have k13 := k1b.grown g3 (by simp)
      have k23 := k2b.grown g3 (by simp)
      have b3 := b2.grown g3 b2.size (fun q hq => by injection hq; omega)
      refine hK _ _ ?_
      clear hK K
      refine wpAny_ready (rs := [5]) (by kernel_rfl) (by simp) ?_
      refine AllReady.cons rfl (fun K hK => ?_) AllReady.nil
      refine step_st rfl rowT (.tmp 4) (.tmp 13) rfl (by rfl) (by rfl) k13 HMo.out HM.out (tc_one _) ?_
      intro w4 k14 g4 z4
      have k04 := k03.grown g4 (by simp)
      have k24 := k23.grown g4 (by simp)
      have b4 := b3.grown g4 b3.size (fun q hq => by injection hq; omega)
      refine hK _ _ ?_
      clear hK K
      refine wpAny_done (by kernel_rfl) ?_ _
      go_wp2_with fail
      go_meet
      exact ⟨rfl, k04, k14, k24, b4⟩
  case rest =>
    obtain ⟨rfl, k0, k1, k2, b0⟩ := hcut
    clear k0d k1d k2d hbd
    have hbo : bothL h l m = List.zipWith h (ownL l) (ownL m) := rfl
    have HBO := Lib.hid hbo
    have HOL := Lib.hid (own_len HL.out)
    have HOM := Lib.hid (own_len HLM.out)
    clear hbo
    generalize ownL l = x at *
    generalize ownL m = y at *
    go_wp2_with fail
    refine (cells_any (g + 1) _).mono ?_
    rintro e w5 ⟨A1, c1, rfl, o1, h5⟩
    have k05 := k0.below h5 k0.lt
    have k15 := k1.below h5 k1.lt
    have k25 := k2.below h5 k2.lt
    have b5 := b0.trans (h5.mono b0.size)
    clear k0 k1 k2 h5
    go_wp2_with fail
    refine (cells_any g _).mono ?_
    rintro e w6 ⟨A2, c2, rfl, o2, h6⟩
    have o1b := o1.kept (row := none) ⟨h6.os, h6.tape, h6.output, h6.size, fun k hk _ => h6.block k hk⟩ (by
      rcases o1.2 with ⟨e, _⟩ | ⟨q, cap, cur, e, _⟩
      · rw [e]; exact .inl rfl
      · rw [e]; exact .inr (by simp [Value.ownBlock]))
    have k06 := k05.below h6 k05.lt
    have k16 := k15.below h6 k15.lt
    have k26 := k25.below h6 k25.lt
    have b6 := b5.trans (h6.mono b5.size)
    have s5 : w.heap.size ≤ w5.heap.size := b5.size
    clear k05 k15 k25 h6 b5 o1 b0
    have hfun : ∀ (x y : Int) (w : World), Calls Tryz.prog f #[.int .i64 x, .int .i64 y] w fun e w' => e = .returned (.int .i64 (h x y)) ∧ w = w' := HF.out
    have HFUN := Lib.hid hfun
    have hen : ∀ (args : Array Value) (w : World), (callFunc f args).run Tryz.prog w = .ok (.enter f args) w := HEN.out
    clear hfun HF
    go_wp2_with fail
    go_loopw [17] (fun i wr => ∃ k : Nat, k ≤ 16 ∧ i = .int .i64 k ∧ Blk wr g 34 (tc (bothTo h x y k)) ∧ Blk wr (g + 1) 34 (tc y) ∧ Blk wr (g + 2) 34 (tc zero) ∧ wr.ownsRow wc.heap.size 131 1 (.slice A1 16 c1) 16 (ptrs (g + 1) 16) ∧ wr.ownsRow w5.heap.size 131 1 (.slice A2 16 c2) 16 (ptrs g 16) ∧ Below w.heap.size w wr) (fun i _ => 16 - (intOf i).toNat)
    case atStart => exact ⟨0, by omega, rfl, k06, k16, k26, o1b, o2, b6⟩
    case round =>
      clear k06 k16 k26 o1b o2 b6
      obtain ⟨k, hk, rfl, k0, k1, k2, o1, o2, b0⟩ := hrel
      by_cases hlt : k < 16
      · obtain ⟨q1, rfl, hq1, _, p1⟩ := ptr_at o1 hlt
        obtain ⟨q2, rfl, hq2, _, p2⟩ := ptr_at o2 hlt
        have hok := ord_lt hlt
        have hlen := bothTo_len h x y k
        have e1 := k0.tcell (i := ord k) (by rw [hlen, HOL.out]; exact hok)
        have hat := bothTo_at h x y HOL.out k (by omega) k hlt
        rw [if_neg (by omega)] at hat
        rw [hat] at e1
        have e2 := k1.tcell (i := ord k) (by rw [HOM.out]; exact hok)
        have e3 := k0.free (ord k)
        have hst : bothTo h x y (k + 1) = (bothTo h x y k).set (ord k) (h (x.getD (ord k) 0) (y.getD (ord k) 0)) := rfl
        generalize x.getD (ord k) 0 = u at *
        generalize y.getD (ord k) 0 = v at *
        have hk0 : (0 : Int) ≤ (k : Int) := by omega
        have hk1 : (k : Int) < 16 := by omega
        have K0 : Blk (wr.setCell ⟨g, ord k, none⟩ (.int .i64 (h u v))) g 34 (tc (bothTo h x y (k + 1))) := by
          have := k0.set_ (ord k) (.int .i64 (h u v))
          rwa [tc_set, ← hst] at this
        have K1 : Blk (wr.setCell ⟨g, ord k, none⟩ (.int .i64 (h u v))) (g + 1) 34 (tc y) := k1.far (p := ⟨g, ord k, none⟩) (by simp) _
        have K2 : Blk (wr.setCell ⟨g, ord k, none⟩ (.int .i64 (h u v))) (g + 2) 34 (tc zero) := k2.far (p := ⟨g, ord k, none⟩) (by simp) _
        have n1 := own_ne o1 k0 (by decide)
        have n2 := own_ne o2 k0 (by decide)
        have O1 := ownsRow_setCell_other o1 (a := ⟨g, ord k, none⟩) (by simpa [Value.ownBlock] using n1) (.int .i64 (h u v))
        have O2 := ownsRow_setCell_other o2 (a := ⟨g, ord k, none⟩) (by simpa [Value.ownBlock] using n2) (.int .i64 (h u v))
        have B0 : Below w.heap.size w (wr.setCell ⟨g, ord k, none⟩ (.int .i64 (h u v))) := b0.setCell hgw _
        have HK := Lib.hid (And.intro K0 (And.intro K1 (And.intro K2 (And.intro O1 (And.intro O2 B0)))))
        clear K0 K1 K2 O1 O2 B0 n1 n2 hst hat hlen k0 k1 k2 o1 o2 b0
        go_wp2_with fail
        go_region_with ((with_reducible refine (HFUN.out _ _ _).mono ?_); rintro e w' ⟨rfl, rfl⟩)
        all_goals
          go_wp2_with fail
          go_roundw
          case rel => exact ⟨k + 1, by omega, by go_num, HK.out.1, HK.out.2.1, HK.out.2.2.1, HK.out.2.2.2.1, HK.out.2.2.2.2.1, HK.out.2.2.2.2.2.drew⟩
          case measure => simp [intOf]; omega
      · obtain rfl : k = 16 := by omega
        have hbo := bothTo_all h x y HOL.out HOM.out
        rw [hbo] at k0
        have HZ := Lib.hid (show (tc (List.zipWith h x y)).size = 16 by rw [tc_size, List.length_zipWith, HOL.out, HOM.out]; rfl)
        have H1 := Lib.hid (tc_one (List.zipWith h x y))
        clear hbo o1 o2 k1
        generalize List.zipWith h x y = z at *
        go_wp2_with (first
          | ((with_reducible refine wpList_ld rowT k0 HZ.out ?_ ?_); rotate_left; (rfl))
          | ((with_reducible refine wpList_st rowT k2 HZ.out zero_size H1.out ?_ ?_ ?_); rotate_left; (rfl); (rfl); intro w7 k7 g7 z7))
        have b7 := b0.grown g7 b0.size (fun q hq => by injection hq; omega)
        exact bodyPost_ret (v := .agg (tc z)) (results_blk rfl rowT k7 HZ.out rfl) rfl ⟨by rw [HBO.out], b7⟩
end Go.Proofs.YtocoohpekpkmkaaGreat

/- The walks of the document's tally: Right, own, Value. -/
namespace Go.Proofs.YtocoohpekpkmkaaGreat
set_option linter.unusedVariables false
set_option linter.unusedSimpArgs false
open Go.RowKit
open Tally
theorem not_in {x : Int} (h : ¬ inB x 0 top = true) : x < 0 ∨ top < x := by
  rw [inB_iff] at h; omega
set_option maxHeartbeats 1000000 in
theorem rright_any (l : List Int) (w : World) (hl : l.length = 16) :
    Calls Tryz.prog 93 #[.agg (tc l)] w fun e w' => e = .returned (.bool (rightB l)) ∧ Below w.heap.size w w' := by
  have k0 : Blk (w.alloc (.cells (tc l) 24)) w.heap.size 24 (tc l) := Blk.new w _ _
  have hb : Below w.heap.size w (w.alloc (.cells (tc l) 24)) := (Below.refl _ _).alloc (Nat.le_refl _) _
  have HL := Lib.hid hl
  clear hl
  go_enter Tryz.func93, Tryz.ntmps93
  go_upto_region 1 with fail
  refine nameW ?_
  intro wv hwv
  rw [← hwv] at k0 hb
  obtain ⟨g, hg⟩ : ∃ g, g = w.heap.size := ⟨_, rfl⟩
  rw [← hg] at k0 ⊢
  clear hwv hg
  go_wp2_with fail
  go_loop [3] (fun i => ∃ k : Nat, k ≤ 8 ∧ i = .int .i64 k ∧ ∀ j, j < k → inB (l.getD j 0) 0 top = true ∧ inB (l.getD (8 + j) 0) 0 top = true) (fun i => 8 - (intOf i).toNat)
  case atStart => exact ⟨0, by omega, rfl, fun j hj => absurd hj (by omega)⟩
  case round =>
    obtain ⟨k, hk, rfl, hall⟩ := hrel
    have HA := Lib.hid hall
    clear hall
    by_cases hlt : k < 8
    · have c1 := k0.tcell (i := k) (by rw [HL.out]; omega)
      have c2 := k0.tcell (i := 8 + k) (by rw [HL.out]; omega)
      obtain ⟨x, hx⟩ : ∃ x, l.getD k 0 = x := ⟨_, rfl⟩
      obtain ⟨y, hy⟩ : ∃ y, l.getD (8 + k) 0 = y := ⟨_, rfl⟩
      rw [hx] at c1
      rw [hy] at c2
      have HX := Lib.hid hx
      have HY := Lib.hid hy
      have hk0 : (0 : Int) ≤ (k : Int) := by omega
      have hk1 : (k : Int) < 8 := by omega
      clear hx hy
      have bad : inB x 0 top = false ∨ inB y 0 top = false → rightB l = false := fun h => by
        rcases h with h | h
        · exact right_bad (i := k) (by rw [HL.out]; omega) (by rw [HX.out]; exact h)
        · exact right_bad (i := 8 + k) (by rw [HL.out]; omega) (by rw [HY.out]; exact h)
      have BAD := Lib.hid bad
      clear bad
      by_cases hox : inB x 0 top = true
      · have hxb := (inB_iff _ _ _).1 hox
        have HOX := Lib.hid hox
        clear hox
        unfold top at hxb
        have d1 : decide (x < 0) = false := decide_eq_false (by omega)
        have d2 : decide (1099511627776 < x) = false := decide_eq_false (by omega)
        by_cases hoy : inB y 0 top = true
        · have hyb := (inB_iff _ _ _).1 hoy
          have HOY := Lib.hid hoy
          clear hoy
          unfold top at hyb
          have d3 : decide (y < 0) = false := decide_eq_false (by omega)
          have d4 : decide (1099511627776 < y) = false := decide_eq_false (by omega)
          go_wp2_with fail
          go_round
          case rel =>
            refine ⟨k + 1, by omega, by go_num, fun j hj => ?_⟩
            by_cases hjk : j = k
            · subst hjk; rw [HX.out, HY.out]; exact ⟨HOX.out, HOY.out⟩
            · exact HA.out j (by omega)
          case measure => simp [intOf]; omega
        · have hbd := Lib.hid (BAD.out (.inr (by simpa using hoy)))
          have hyb := not_in hoy
          unfold top at hyb
          clear hoy
          rcases hyb with hyb | hyb
          · have d3 : decide (y < 0) = true := decide_eq_true (by omega)
            go_wp2_with fail
            go_ret
            exact ⟨by rw [hbd.out]; rfl, hb⟩
          · have d3 : decide (y < 0) = false := decide_eq_false (by omega)
            have d4 : decide (1099511627776 < y) = true := decide_eq_true (by omega)
            go_wp2_with fail
            go_ret
            exact ⟨by rw [hbd.out]; rfl, hb⟩
      · have hbd := Lib.hid (BAD.out (.inl (by simpa using hox)))
        have hxb := not_in hox
        unfold top at hxb
        clear hox
        rcases hxb with hxb | hxb
        · have d3 : decide (x < 0) = true := decide_eq_true (by omega)
          go_wp2_with fail
          go_ret
          exact ⟨by rw [hbd.out]; rfl, hb⟩
        · have d3 : decide (x < 0) = false := decide_eq_false (by omega)
          have d4 : decide (1099511627776 < x) = true := decide_eq_true (by omega)
          go_wp2_with fail
          go_ret
          exact ⟨by rw [hbd.out]; rfl, hb⟩
    · have hr : rightB l = true := right_halves HL.out fun j hj => HA.out j (by omega)
      have HR := Lib.hid hr
      clear hr
      go_wp2_with fail
      go_ret
      exact ⟨by rw [HR.out]; rfl, hb⟩
theorem rown_any (l : List Int) (w : World) (hl : l.length = 16) :
    Calls Tryz.prog 63 #[.agg (tc l)] w fun e w' => e = .returned (.agg (tc (ownL l))) ∧ Below w.heap.size w w' := by
  have hs : (tc l).size = 16 := by rw [tc_size, hl]
  have HS := Lib.hid hs
  have HL := Lib.hid hl
  clear hl hs
  go_enter Tryz.func63, Tryz.ntmps63
  go_upto_region 1 with fail
  refine nameW ?_
  intro wv hwv
  obtain ⟨g, hg⟩ : ∃ g, g = w.heap.size := ⟨_, rfl⟩
  rw [← hg]
  have hk0 : Blk wv g 24 (tc l) := by rw [hwv, hg]; exact (Blk.new w _ _).alloc _
  have hk1 : Blk wv (g + 1) 24 (tc zero) := by
    have h := Blk.new (w.alloc (.cells (tc l) 24)) 24 (tc zero)
    rw [zero_tc] at h
    rw [zero_tc, hwv, hg]
    simpa using h
  have hb : Below w.heap.size w wv := by rw [hwv]; exact ((Below.refl _ _).alloc (Nat.le_refl _) _).alloc (by simp) _
  have hgw : w.heap.size ≤ g := by omega
  clear hwv hg
  go_wp2_with ((with_reducible refine wpList_ld rowR hk0 HS.out ?_ ?_); rotate_left; (rfl))
  refine (rright_any l wv HL.out).mono ?_
  rintro e w1 ⟨rfl, h1⟩
  have k0 := hk0.below h1 hk0.lt
  have k1 := hk1.below h1 hk1.lt
  have b1 := hb.trans (h1.mono hb.size)
  clear hk0 hk1 hb h1
  by_cases hr : rightB l = true
  · have ho := own_own l hr
    rw [hr]
    have HO := Lib.hid ho
    clear hr ho
    go_wp2_with (first
      | ((with_reducible refine wpList_ld rowR k0 HS.out ?_ ?_); rotate_left; (rfl))
      | ((with_reducible refine wpList_st rowR k1 HS.out zero_size (tc_one l) ?_ ?_ ?_); rotate_left; (rfl); (rfl); intro w2 k2 g2 z2))
    have b2 := b1.grown g2 b1.size (fun q hq => by injection hq; omega)
    exact bodyPost_ret (v := .agg (tc l)) (results_blk rfl rowR k2 HS.out rfl) rfl ⟨by rw [HO.out], b2⟩
  · have ho : ownL l = zero := by unfold ownL; rw [if_neg hr]
    have hr2 : rightB l = false := by simpa using hr
    rw [hr2]
    have HO := Lib.hid ho
    clear hr ho hr2
    go_wp2_with ((with_reducible refine wpList_st rowR k1 zero_size zero_size (tc_one zero) ?_ ?_ ?_); rotate_left; (rfl); (rfl); intro w2 k2 g2 z2)
    have b2 := b1.grown g2 b1.size (fun q hq => by injection hq; omega)
    exact bodyPost_ret (v := .agg (tc zero)) (results_blk rfl rowR k2 zero_size rfl) rfl ⟨by rw [HO.out], b2⟩

end Go.Proofs.YtocoohpekpkmkaaGreat

/- The walks of tally: Join, More; the document's Join, More. -/
namespace Go.Proofs.YtocoohpekpkmkaaGreat
set_option linter.unusedVariables false
set_option linter.unusedSimpArgs false
open Go.RowKit
open Tally
theorem bothL_len {h : Int → Int → Int} {l m : List Int} (hl : l.length = 16) (hm : m.length = 16) : (bothL h l m).length = 16 := by
  unfold bothL
  rw [List.length_zipWith, own_len hl, own_len hm]; rfl
set_option maxRecDepth 100000 in
theorem join_any (l m : List Int) (w : World) (hl : l.length = 16) (hm : m.length = 16) :
    Calls Tryz.prog 59 #[.agg (tc l), .agg (tc m)] w fun e w' => e = .returned (.agg (tc (joinL l m))) ∧ Below w.heap.size w w' := by
  have HS := Lib.hid (show (tc l).size = 16 by rw [tc_size, hl])
  have HM := Lib.hid (show (tc m).size = 16 by rw [tc_size, hm])
  have HZ := Lib.hid (show (tc (joinL l m)).size = 16 by rw [tc_size]; exact bothL_len hl hm)
  have H1 := Lib.hid (tc_one (joinL l m))
  have hc := fun w => both_any 84 mx join1 enters_join l m w hl hm
  have HC := Lib.hid hc
  have hmf : ∀ (fn : Fn) (first cap : Array Value) (w : World), (Instr.makeFunc fn first cap).run Tryz.prog w = .ok (.func fn first cap) w := fun _ _ _ _ => rfl
  clear hl hm hc
  go_enter Tryz.func59, Tryz.ntmps59
  go_upto_region 1 with fail
  refine nameW ?_
  intro wv hwv
  obtain ⟨g, hg⟩ : ∃ g, g = w.heap.size := ⟨_, rfl⟩
  rw [← hg]
  have k0 : Blk wv g 34 (tc l) := by rw [hwv, hg]; exact ((Blk.new w _ _).alloc _).alloc _
  have k1 : Blk wv (g + 1) 34 (tc m) := by
    have h := (Blk.new (w.alloc (.cells (tc l) 34)) 34 (tc m)).alloc (.cells (tc zero) 34)
    rw [zero_tc] at h
    rw [hwv, hg]
    simpa using h
  have k2 : Blk wv (g + 2) 34 (tc zero) := by
    have h := Blk.new ((w.alloc (.cells (tc l) 34)).alloc (.cells (tc m) 34)) 34 (tc zero)
    rw [zero_tc] at h
    rw [zero_tc, hwv, hg]
    simpa using h
  have hb : Below w.heap.size w wv := by rw [hwv]; exact (((Below.refl _ _).alloc (Nat.le_refl _) _).alloc (by simp) _).alloc (by simp; omega) _
  have hgw : w.heap.size ≤ g := by omega
  clear hwv hg
  go_wp2_with (first
    | ((with_reducible refine wpList_ld rowT k0 HS.out ?_ ?_); rotate_left; (rfl))
    | ((with_reducible refine wpList_ld rowT k1 HM.out ?_ ?_); rotate_left; (rfl)))
  refine (HC.out wv).mono ?_
  rintro e w1 ⟨rfl, h1⟩
  have k2a := k2.below h1 k2.lt
  have b1 := hb.trans (h1.mono hb.size)
  clear k0 k1 k2 hb h1
  rw [show bothL mx l m = joinL l m from rfl]
  obtain ⟨z, hz⟩ : ∃ z, joinL l m = z := ⟨_, rfl⟩
  have HZZ := Lib.hid hz
  rw [hz] at HZ H1 ⊢
  clear hz
  go_wp2_with ((with_reducible refine wpList_st rowT k2a HZ.out zero_size H1.out ?_ ?_ ?_); rotate_left; (rfl); (rfl); intro w7 k7 g7 z7)
  have b7 := b1.grown g7 b1.size (fun q hq => by injection hq; omega)
  exact bodyPost_ret (v := .agg (tc z)) (results_blk rfl rowT k7 HZ.out rfl) rfl ⟨by rw [HZZ.out], b7⟩
/-- the first k nodes' numbers brought together -/
def halfTo (h : Int → Int → Int) (a b : List Int) : Nat → List Int
  | 0 => a
  | k + 1 => ((halfTo h a b k).set k (h (a.getD k 0) (b.getD k 0))).set (8 + k) (h (a.getD (8 + k) 0) (b.getD (8 + k) 0))
theorem halfTo_len (h : Int → Int → Int) (a b : List Int) (k : Nat) : (halfTo h a b k).length = a.length := by
  induction k with
  | zero => rfl
  | succ k ih => simp [halfTo, ih]
theorem getD_set_ne {l : List Int} {i j : Nat} {x : Int} (h : i ≠ j) : (l.set i x).getD j 0 = l.getD j 0 := by
  rw [List.getD_eq_getElem?_getD, List.getElem?_set_ne h, ← List.getD_eq_getElem?_getD]
theorem getD_set_eq {l : List Int} {i : Nat} {x : Int} (h : i < l.length) : (l.set i x).getD i 0 = x := by
  rw [List.getD_eq_getElem?_getD, List.getElem?_set_self h]; rfl
theorem halfTo_ge (h : Int → Int → Int) (a b : List Int) (k i : Nat) (hk : k ≤ 8) (hi : (i < 8 ∧ k ≤ i) ∨ 8 + k ≤ i) : (halfTo h a b k).getD i 0 = a.getD i 0 := by
  induction k with
  | zero => rfl
  | succ k ih => rw [halfTo, getD_set_ne (by omega), getD_set_ne (by omega), ih (by omega) (by omega)]
theorem halfTo_at (h : Int → Int → Int) (a b : List Int) (k i : Nat) (hk : k < 8) (hi : i = k ∨ i = 8 + k) : (halfTo h a b k).getD i 0 = a.getD i 0 := halfTo_ge h a b k i (by omega) (by omega)
theorem halfTo_lt (h : Int → Int → Int) (a b : List Int) (ha : a.length = 16) (k : Nat) (hk : k ≤ 8) (i : Nat) (hi : i < k ∨ (8 ≤ i ∧ i < 8 + k)) : (halfTo h a b k).getD i 0 = h (a.getD i 0) (b.getD i 0) := by
  induction k with
  | zero => omega
  | succ k ih =>
    have hl := halfTo_len h a b k
    rw [halfTo]
    by_cases e1 : i = 8 + k
    · subst e1
      rw [getD_set_eq (by rw [List.length_set]; omega)]
    · rw [getD_set_ne (by omega)]
      by_cases e2 : i = k
      · subst e2
        rw [getD_set_eq (by omega)]
      · rw [getD_set_ne (by omega), ih (by omega) (by omega)]
theorem halfTo_all (h : Int → Int → Int) (a b : List Int) (ha : a.length = 16) (hb : b.length = 16) : halfTo h a b 8 = List.zipWith h a b := by
  apply List.ext_getElem?
  intro i
  by_cases hi : i < 16
  · have h1 := halfTo_lt h a b ha 8 (by omega) i (by omega)
    rw [List.getD_eq_getElem?_getD, List.getElem?_eq_getElem (by rw [halfTo_len]; omega)] at h1
    rw [List.getElem?_eq_getElem (by rw [halfTo_len]; omega), List.getElem?_zipWith, List.getElem?_eq_getElem (by omega), List.getElem?_eq_getElem (by omega)]
    simp only [Option.getD_some] at h1
    rw [h1, List.getD_eq_getElem?_getD, List.getD_eq_getElem?_getD, List.getElem?_eq_getElem (by omega), List.getElem?_eq_getElem (by omega)]
    rfl
  · rw [List.getElem?_eq_none (by rw [halfTo_len]; omega), List.getElem?_eq_none (by simp; omega)]
theorem set_same {l : List Int} {i : Nat} {x : Int} (h : l.getD i 0 = x) : l.set i x = l := by
  apply List.ext_getElem?
  intro j
  by_cases e : i = j
  · subst e
    by_cases hi : i < l.length
    · rw [List.getElem?_set_self hi, List.getElem?_eq_getElem hi]
      rw [List.getD_eq_getElem?_getD, List.getElem?_eq_getElem hi] at h
      rw [← h]; rfl
    · rw [List.getElem?_eq_none (by simp; omega), List.getElem?_eq_none (by omega)]
  · rw [List.getElem?_set_ne e]
set_option maxRecDepth 100000 in
set_option maxHeartbeats 2000000 in
theorem rjoin_any (l m : List Int) (w : World) (hl : l.length = 16) (hm : m.length = 16) :
    Calls Tryz.prog 27 #[.agg (tc l), .agg (tc m)] w fun e w' => e = .returned (.agg (tc (joinL l m))) ∧ Below w.heap.size w w' := by
  have HS := Lib.hid (show (tc l).size = 16 by rw [tc_size, hl])
  have HM := Lib.hid (show (tc m).size = 16 by rw [tc_size, hm])
  have HSo := Lib.hid (show (tc (ownL l)).size = 16 by rw [tc_size, own_len hl])
  have HMo := Lib.hid (show (tc (ownL m)).size = 16 by rw [tc_size, own_len hm])
  have HL := Lib.hid hl
  have HLM := Lib.hid hm
  clear hl hm
  go_enter Tryz.func27, Tryz.ntmps27
  go_upto_region 1 with fail
  refine nameW ?_
  intro wv hwv
  obtain ⟨g, hg⟩ : ∃ g, g = w.heap.size := ⟨_, rfl⟩
  rw [← hg]
  have k0 : Blk wv g 24 (tc l) := by rw [hwv, hg]; exact ((Blk.new w _ _).alloc _).alloc _
  have k1 : Blk wv (g + 1) 24 (tc m) := by
    have h := (Blk.new (w.alloc (.cells (tc l) 24)) 24 (tc m)).alloc (.cells (tc zero) 24)
    rw [zero_tc] at h
    rw [hwv, hg]
    simpa using h
  have k2 : Blk wv (g + 2) 24 (tc zero) := by
    have h := Blk.new ((w.alloc (.cells (tc l) 24)).alloc (.cells (tc m) 24)) 24 (tc zero)
    rw [zero_tc] at h
    rw [zero_tc, hwv, hg]
    simpa using h
  have hb : Below w.heap.size w wv := by rw [hwv]; exact (((Below.refl _ _).alloc (Nat.le_refl _) _).alloc (by simp) _).alloc (by simp; omega) _
  have hgw : w.heap.size ≤ g := by omega
  clear hwv hg
  have k0d : Blk wv.drew g 24 (tc l) := k0
  have k1d : Blk wv.drew (g + 1) 24 (tc m) := k1
  have k2d : Blk wv.drew (g + 2) 24 (tc zero) := k2
  have hbd := hb.drew
  clear k0 k1 k2 hb
  go_cut [2] (fun s wx => s = .pointer (some ⟨g, 0, none⟩) ∧ Blk wx g 24 (tc (ownL l)) ∧ Blk wx (g + 1) 24 (tc (ownL m)) ∧ Blk wx (g + 2) 24 (tc zero) ∧ Below w.heap.size w wx)
  case first =>
    refine wp_region_any (by kernel_rfl) ?_
    try (change wpAny _ _ _ _ _ _ _ (World.drew _))
    refine wpAny_ready (rs := [0, 2]) (by kernel_rfl) (by simp) ?_
    refine AllReady.cons rfl (fun K hK => ?_) (AllReady.cons rfl (fun K hK => ?_) AllReady.nil)
    · refine step_ld rfl rowR (.tmp 2) rfl (by rfl) k0d HS.out ?_
      refine hK _ _ ?_
      clear hK K
      refine wpAny_ready (rs := [1, 2]) (by kernel_rfl) (by simp) ?_
      refine AllReady.cons rfl (fun K hK => ?_) (AllReady.cons rfl (fun K hK => ?_) AllReady.nil)
      · go_simp
        refine (rown_any l _ HL.out).mono ?_
        rintro e w1 ⟨rfl, h1⟩
        have k0a := k0d.below h1 k0d.lt
        have k1a := k1d.below h1 k1d.lt
        have k2a := k2d.below h1 k2d.lt
        have b1 := hbd.trans (h1.mono hbd.size)
        refine hK _ _ ?_
        clear hK K
        refine wpAny_ready (rs := [2]) (by kernel_rfl) (by simp) ?_
        refine AllReady.cons rfl (fun K hK => ?_) AllReady.nil
        refine step_ld rfl rowR (.tmp 3) rfl (by rfl) k1a HM.out ?_
        refine hK _ _ ?_
        clear hK K
        refine wpAny_ready (rs := [3]) (by kernel_rfl) (by simp) ?_
        refine AllReady.cons rfl (fun K hK => ?_) AllReady.nil
        go_simp
        refine (rown_any m _ HLM.out).mono ?_
        rintro e w2 ⟨rfl, h2⟩
        have k0b := k0a.below h2 k0a.lt
        have k1b := k1a.below h2 k1a.lt
        have k2b := k2a.below h2 k2a.lt
        have b2 := b1.trans (h2.mono b1.size)
        refine hK _ _ ?_
        clear hK K
        refine wpAny_ready (rs := [4]) (by kernel_rfl) (by simp) ?_
        refine AllReady.cons rfl (fun K hK => ?_) AllReady.nil
        refine step_st rfl rowR (.tmp 2) (.tmp 7) rfl (by rfl) (by rfl) k0b HSo.out HS.out (tc_one _) ?_
        intro w3 k03 g3 z3
        have k13 := k1b.grown g3 (by simp)
        have k23 := k2b.grown g3 (by simp)
        have b3 := b2.grown g3 b2.size (fun q hq => by injection hq; omega)
        refine hK _ _ ?_
        clear hK K
        refine wpAny_ready (rs := [5]) (by kernel_rfl) (by simp) ?_
        refine AllReady.cons rfl (fun K hK => ?_) AllReady.nil
        refine step_st rfl rowR (.tmp 3) (.tmp 9) rfl (by rfl) (by rfl) k13 HMo.out HM.out (tc_one _) ?_
        intro w4 k14 g4 z4
        have k04 := k03.grown g4 (by simp)
        have k24 := k23.grown g4 (by simp)
        have b4 := b3.grown g4 b3.size (fun q hq => by injection hq; omega)
        refine hK _ _ ?_
        clear hK K
        refine wpAny_done (by kernel_rfl) ?_ _
        go_wp2_with fail
        go_meet
        exact ⟨rfl, k04, k14, k24, b4⟩
      · refine step_ld rfl rowR (.tmp 3) rfl (by rfl) k1d HM.out ?_
        refine hK _ _ ?_
        clear hK K
        refine wpAny_ready (rs := [1]) (by kernel_rfl) (by simp) ?_
        refine AllReady.cons rfl (fun K hK => ?_) AllReady.nil
        go_simp
        refine (rown_any l _ HL.out).mono ?_
        rintro e w1 ⟨rfl, h1⟩
        have k0a := k0d.below h1 k0d.lt
        have k1a := k1d.below h1 k1d.lt
        have k2a := k2d.below h1 k2d.lt
        have b1 := hbd.trans (h1.mono hbd.size)
        refine hK _ _ ?_
        clear hK K
        refine wpAny_ready (rs := [3]) (by kernel_rfl) (by simp) ?_
        refine AllReady.cons rfl (fun K hK => ?_) AllReady.nil
        go_simp
        refine (rown_any m _ HLM.out).mono ?_
        rintro e w2 ⟨rfl, h2⟩
        have k0b := k0a.below h2 k0a.lt
        have k1b := k1a.below h2 k1a.lt
        have k2b := k2a.below h2 k2a.lt
        have b2 := b1.trans (h2.mono b1.size)
        refine hK _ _ ?_
        clear hK K
        refine wpAny_ready (rs := [4]) (by kernel_rfl) (by simp) ?_
        refine AllReady.cons rfl (fun K hK => ?_) AllReady.nil
        refine step_st rfl rowR (.tmp 2) (.tmp 7) rfl (by rfl) (by rfl) k0b HSo.out HS.out (tc_one _) ?_
        intro w3 k03 g3 z3
        have k13 := k1b.grown g3 (by simp)
        have k23 := k2b.grown g3 (by simp)
        have b3 := b2.grown g3 b2.size (fun q hq => by injection hq; omega)
        refine hK _ _ ?_
        clear hK K
        refine wpAny_ready (rs := [5]) (by kernel_rfl) (by simp) ?_
        refine AllReady.cons rfl (fun K hK => ?_) AllReady.nil
        refine step_st rfl rowR (.tmp 3) (.tmp 9) rfl (by rfl) (by rfl) k13 HMo.out HM.out (tc_one _) ?_
        intro w4 k14 g4 z4
        have k04 := k03.grown g4 (by simp)
        have k24 := k23.grown g4 (by simp)
        have b4 := b3.grown g4 b3.size (fun q hq => by injection hq; omega)
        refine hK _ _ ?_
        clear hK K
        refine wpAny_done (by kernel_rfl) ?_ _
        go_wp2_with fail
        go_meet
        exact ⟨rfl, k04, k14, k24, b4⟩
    · refine step_ld rfl rowR (.tmp 3) rfl (by rfl) k1d HM.out ?_
      refine hK _ _ ?_
      clear hK K
      refine wpAny_ready (rs := [0]) (by kernel_rfl) (by simp) ?_
      refine AllReady.cons rfl (fun K hK => ?_) AllReady.nil
      refine step_ld rfl rowR (.tmp 2) rfl (by rfl) k0d HS.out ?_
      refine hK _ _ ?_
      clear hK K
      refine wpAny_ready (rs := [1]) (by kernel_rfl) (by simp) ?_
      refine AllReady.cons rfl (fun K hK => ?_) AllReady.nil
      go_simp
      refine (rown_any l _ HL.out).mono ?_
      rintro e w1 ⟨rfl, h1⟩
      have k0a := k0d.below h1 k0d.lt
      have k1a := k1d.below h1 k1d.lt
      have k2a := k2d.below h1 k2d.lt
      have b1 := hbd.trans (h1.mono hbd.size)
      refine hK _ _ ?_
      clear hK K
      refine wpAny_ready (rs := [3]) (by kernel_rfl) (by simp) ?_
      refine AllReady.cons rfl (fun K hK => ?_) AllReady.nil
      go_simp
      refine (rown_any m _ HLM.out).mono ?_
      rintro e w2 ⟨rfl, h2⟩
      have k0b := k0a.below h2 k0a.lt
      have k1b := k1a.below h2 k1a.lt
      have k2b := k2a.below h2 k2a.lt
      have b2 := b1.trans (h2.mono b1.size)
      refine hK _ _ ?_
      clear hK K
      refine wpAny_ready (rs := [4]) (by kernel_rfl) (by simp) ?_
      refine AllReady.cons rfl (fun K hK => ?_) AllReady.nil
      refine step_st rfl rowR (.tmp 2) (.tmp 7) rfl (by rfl) (by rfl) k0b HSo.out HS.out (tc_one _) ?_
      intro w3 k03 g3 z3
      have k13 := k1b.grown g3 (by simp)
      have k23 := k2b.grown g3 (by simp)
      have b3 := b2.grown g3 b2.size (fun q hq => by injection hq; omega)
      refine hK _ _ ?_
      clear hK K
      refine wpAny_ready (rs := [5]) (by kernel_rfl) (by simp) ?_
      refine AllReady.cons rfl (fun K hK => ?_) AllReady.nil
      refine step_st rfl rowR (.tmp 3) (.tmp 9) rfl (by rfl) (by rfl) k13 HMo.out HM.out (tc_one _) ?_
      intro w4 k14 g4 z4
      have k04 := k03.grown g4 (by simp)
      have k24 := k23.grown g4 (by simp)
      have b4 := b3.grown g4 b3.size (fun q hq => by injection hq; omega)
      refine hK _ _ ?_
      clear hK K
      refine wpAny_done (by kernel_rfl) ?_ _
      go_wp2_with fail
      go_meet
      exact ⟨rfl, k04, k14, k24, b4⟩
  case rest =>
    obtain ⟨rfl, k0, k1, k2, b0⟩ := hcut
    clear k0d k1d k2d hbd
    have hbo : joinL l m = List.zipWith mx (ownL l) (ownL m) := rfl
    have HBO := Lib.hid hbo
    have HOL := Lib.hid (own_len HL.out)
    have HOM := Lib.hid (own_len HLM.out)
    clear hbo
    generalize ownL l = x at *
    generalize ownL m = y at *
    go_wp2_with fail
    go_loopw [5] (fun i wr => ∃ k : Nat, k ≤ 8 ∧ i = .int .i64 k ∧ Blk wr g 24 (tc (halfTo mx x y k)) ∧ Blk wr (g + 1) 24 (tc y) ∧ Blk wr (g + 2) 24 (tc zero) ∧ Below w.heap.size w wr) (fun i _ => 8 - (intOf i).toNat)
    case atStart => exact ⟨0, by omega, rfl, k0, k1, k2, b0⟩
    case round =>
      clear k0 k1 k2 b0
      obtain ⟨k, hk, rfl, k0, k1, k2, b0⟩ := hrel
      by_cases hlt : k < 8
      · have hlen := halfTo_len mx x y k
        have e1 := k0.tcell (i := k) (by rw [hlen, HOL.out]; omega)
        have e1' := k0.tcell (i := 8 + k) (by rw [hlen, HOL.out]; omega)
        rw [halfTo_at mx x y k k hlt (.inl rfl)] at e1
        rw [halfTo_at mx x y k (8 + k) hlt (.inr rfl)] at e1'
        have e2 := k1.tcell (i := k) (by rw [HOM.out]; omega)
        have e2' := k1.tcell (i := 8 + k) (by rw [HOM.out]; omega)
        have e3 := k0.free k
        have e3' := k0.free (8 + k)
        have hst : halfTo mx x y (k + 1) = ((halfTo mx x y k).set k (mx (x.getD k 0) (y.getD k 0))).set (8 + k) (mx (x.getD (8 + k) 0) (y.getD (8 + k) 0)) := rfl
        unfold mx at hst
        generalize x.getD k 0 = u at *
        generalize y.getD k 0 = v at *
        generalize x.getD (8 + k) 0 = u' at *
        generalize y.getD (8 + k) 0 = v' at *
        have hk0 : (0 : Int) ≤ (k : Int) := by omega
        have hk1 : (k : Int) < 8 := by omega
        have hgl := k0.lt
        clear hlen
        obtain ⟨z, hz⟩ : ∃ z, (if u < v then v else u) = z := ⟨_, rfl⟩
        obtain ⟨z', hz'⟩ : ∃ z', (if u' < v' then v' else u') = z' := ⟨_, rfl⟩
        rw [hz, hz'] at hst
        have k01 := k0.set_ k (.int .i64 z)
        rw [tc_set] at k01
        have e3b := k01.free (8 + k)
        have K0 : Blk ((wr.setCell ⟨g, k, none⟩ (.int .i64 z)).setCell ⟨g, 8 + k, none⟩ (.int .i64 z')) g 24 (tc (halfTo mx x y (k + 1))) := by
          have := k01.set_ (8 + k) (.int .i64 z')
          rw [tc_set] at this
          rw [show halfTo mx x y (k + 1) = _ from hst]; exact this
        have K1 : Blk ((wr.setCell ⟨g, k, none⟩ (.int .i64 z)).setCell ⟨g, 8 + k, none⟩ (.int .i64 z')) (g + 1) 24 (tc y) := (k1.far (p := ⟨g, k, none⟩) (by simp) _).far (p := ⟨g, 8 + k, none⟩) (by simp) _
        have K2 : Blk ((wr.setCell ⟨g, k, none⟩ (.int .i64 z)).setCell ⟨g, 8 + k, none⟩ (.int .i64 z')) (g + 2) 24 (tc zero) := (k2.far (p := ⟨g, k, none⟩) (by simp) _).far (p := ⟨g, 8 + k, none⟩) (by simp) _
        have B0 : Below w.heap.size w ((wr.setCell ⟨g, k, none⟩ (.int .i64 z)).setCell ⟨g, 8 + k, none⟩ (.int .i64 z')) := (b0.setCell hgw _).setCell hgw _
        have hne : (⟨g, k, none⟩ : Addr) ≠ ⟨g, 8 + k, none⟩ := by intro h; injection h; omega
        have e1b : (wr.setCell ⟨g, k, none⟩ (.int .i64 z)).cell? ⟨g, 8 + k, none⟩ = some (.int .i64 u') := (World.cell?_setCell_other _ _ _ _ hne).trans e1'
        have e2b : (wr.setCell ⟨g, k, none⟩ (.int .i64 z)).cell? ⟨g + 1, 8 + k, none⟩ = some (.int .i64 v') := (World.cell?_setCell_other _ _ _ _ (by intro h; injection h; omega)).trans e2'
        have HK := Lib.hid (And.intro K0 (And.intro K1 (And.intro K2 B0)))
        clear K0 K1 K2 B0 hst k0 k1 k2 b0 k01 e1' e2' e3' hne
        go_wp2_with fail
        go_region
        go_wp2_with fail
        go_region
        go_wp2_with fail
        go_roundw
        case rel => exact ⟨k + 1, by omega, by go_num, HK.out.1, HK.out.2.1, HK.out.2.2.1, HK.out.2.2.2.drew.drew⟩
        case measure => simp [intOf]; omega
      · obtain rfl : k = 8 := by omega
        have hbo := halfTo_all mx x y HOL.out HOM.out
        rw [hbo] at k0
        have HZ := Lib.hid (show (tc (List.zipWith mx x y)).size = 16 by rw [tc_size, List.length_zipWith, HOL.out, HOM.out]; rfl)
        have H1 := Lib.hid (tc_one (List.zipWith mx x y))
        clear hbo k1
        generalize List.zipWith mx x y = z at *
        go_wp2_with (first
          | ((with_reducible refine wpList_ld rowR k0 HZ.out ?_ ?_); rotate_left; (rfl))
          | ((with_reducible refine wpList_st rowR k2 HZ.out zero_size H1.out ?_ ?_ ?_); rotate_left; (rfl); (rfl); intro w7 k7 g7 z7))
        have b7 := b0.grown g7 b0.size (fun q hq => by injection hq; omega)
        exact bodyPost_ret (v := .agg (tc z)) (results_blk rfl rowR k7 HZ.out rfl) rfl ⟨by rw [HBO.out], b7⟩
end Go.Proofs.YtocoohpekpkmkaaGreat

/- Within: one knows no more than the other. -/
namespace Go.Proofs.YtocoohpekpkmkaaGreat
set_option linter.unusedVariables false
set_option linter.unusedSimpArgs false
open Go.RowKit
open Tally
theorem mr_zero {x y : Int} (hx : 0 ≤ x) (hy : 0 ≤ y) : mr x y = 0 ↔ mx x y = y := by
  unfold mr mx
  split
  · split <;> constructor <;> intro h <;> omega
  · split <;> constructor <;> intro h <;> omega
theorem both_at {h : Int → Int → Int} {l m : List Int} (hl : l.length = 16) (hm : m.length = 16) {i : Nat} (hi : i < 16) : (bothL h l m).getD i 0 = h ((ownL l).getD i 0) ((ownL m).getD i 0) := by
  have h1 := own_len hl
  have h2 := own_len hm
  unfold bothL
  rw [List.getD_eq_getElem?_getD, List.getElem?_zipWith, List.getD_eq_getElem?_getD, List.getD_eq_getElem?_getD, List.getElem?_eq_getElem (by omega), List.getElem?_eq_getElem (by omega)]
  rfl
theorem ext16 {a b : List Int} (ha : a.length = 16) (hb : b.length = 16) (h : ∀ i, i < 16 → a.getD i 0 = b.getD i 0) : a = b := by
  apply List.ext_getElem?
  intro i
  by_cases hi : i < 16
  · have := h i hi
    rw [List.getD_eq_getElem?_getD, List.getD_eq_getElem?_getD, List.getElem?_eq_getElem (by omega), List.getElem?_eq_getElem (by omega)] at this
    rw [List.getElem?_eq_getElem (by omega), List.getElem?_eq_getElem (by omega)]
    simpa using this
  · rw [List.getElem?_eq_none (by omega), List.getElem?_eq_none (by omega)]
theorem zero_at (i : Nat) (hi : i < 16) : zero.getD i 0 = 0 := by
  unfold zero
  rw [List.getD_eq_getElem?_getD, List.getElem?_replicate, if_pos hi]; rfl
theorem within_iff {l m : List Int} (hl : l.length = 16) (hm : m.length = 16) : moreL l m = zero ↔ joinL l m = ownL m := by
  have key : ∀ i, i < 16 → ((moreL l m).getD i 0 = zero.getD i 0 ↔ (joinL l m).getD i 0 = (ownL m).getD i 0) := fun i hi => by
    unfold moreL joinL
    rw [both_at hl hm hi, both_at hl hm hi, zero_at i hi]
    exact mr_zero (right_at (own_right l) i).1 (right_at (own_right m) i).1
  constructor
  · intro h
    exact ext16 (bothL_len hl hm) (own_len hm) fun i hi => (key i hi).1 (by rw [h])
  · intro h
    exact ext16 (bothL_len hl hm) rfl fun i hi => (key i hi).2 (by rw [h])
theorem both_right {h : Int → Int → Int} (hh : ∀ x y, 0 ≤ x → x ≤ top → 0 ≤ y → y ≤ top → 0 ≤ h x y ∧ h x y ≤ top) {l m : List Int} (hl : l.length = 16) (hm : m.length = 16) : rightB (bothL h l m) = true :=
  right_of fun i hi => by
    have hi' : i < 16 := by rw [bothL_len hl hm] at hi; exact hi
    rw [both_at hl hm hi', inB_iff]
    have h1 := right_at (own_right l) i
    have h2 := right_at (own_right m) i
    exact hh _ _ h1.1 h1.2 h2.1 h2.2
theorem join_right {l m : List Int} (hl : l.length = 16) (hm : m.length = 16) : rightB (joinL l m) = true :=
  both_right (fun x y h1 h2 h3 h4 => by unfold mx; split <;> omega) hl hm
theorem more_right {l m : List Int} (hl : l.length = 16) (hm : m.length = 16) : rightB (moreL l m) = true :=
  both_right (fun x y h1 h2 h3 h4 => by unfold mr; split <;> omega) hl hm
/-- One knows no more than the other. -/
def withB (l m : List Int) : Bool := decide (moreL l m = zero)
end Go.Proofs.YtocoohpekpkmkaaGreat

/- Plain laws of joins and counts. -/
namespace Go.Proofs.YtocoohpekpkmkaaGreat
set_option linter.unusedVariables false
set_option linter.unusedSimpArgs false
open Tally
theorem join_at {l m : List Int} (hl : l.length = 16) (hm : m.length = 16) {i : Nat} (hi : i < 16) : (joinL l m).getD i 0 = mx ((ownL l).getD i 0) ((ownL m).getD i 0) := both_at hl hm hi
theorem more_at {l m : List Int} (hl : l.length = 16) (hm : m.length = 16) {i : Nat} (hi : i < 16) : (moreL l m).getD i 0 = mr ((ownL l).getD i 0) ((ownL m).getD i 0) := both_at hl hm hi
theorem join_len {l m : List Int} (hl : l.length = 16) (hm : m.length = 16) : (joinL l m).length = 16 := bothL_len hl hm
theorem more_len {l m : List Int} (hl : l.length = 16) (hm : m.length = 16) : (moreL l m).length = 16 := bothL_len hl hm
theorem own_join {l m : List Int} (hl : l.length = 16) (hm : m.length = 16) : ownL (joinL l m) = joinL l m := own_own _ (join_right hl hm)
theorem own_more {l m : List Int} (hl : l.length = 16) (hm : m.length = 16) : ownL (moreL l m) = moreL l m := own_own _ (more_right hl hm)
theorem mx_or (x y : Int) : (x < y ∧ mx x y = y) ∨ (y ≤ x ∧ mx x y = x) := by unfold mx; split <;> omega
theorem mr_or (x y : Int) : (y < x ∧ mr x y = x) ∨ (x ≤ y ∧ mr x y = 0) := by unfold mr; split <;> omega
theorem join_comm {x y : List Int} (hx : x.length = 16) (hy : y.length = 16) : joinL y x = joinL x y := ext16 (join_len hy hx) (join_len hx hy) fun i hi => by
  rw [join_at hy hx hi, join_at hx hy hi]
  have a := mx_or ((ownL x).getD i 0) ((ownL y).getD i 0)
  have b := mx_or ((ownL y).getD i 0) ((ownL x).getD i 0)
  omega
theorem join_self {x y : List Int} (hx : x.length = 16) (hy : y.length = 16) : joinL (joinL x y) (joinL x y) = joinL x y := ext16 (join_len (join_len hx hy) (join_len hx hy)) (join_len hx hy) fun i hi => by
  rw [join_at (join_len hx hy) (join_len hx hy) hi, own_join hx hy]
  have a := mx_or ((joinL x y).getD i 0) ((joinL x y).getD i 0)
  omega
theorem join_more {x y : List Int} (hx : x.length = 16) (hy : y.length = 16) : joinL (joinL x y) y = joinL x y := ext16 (join_len (join_len hx hy) hy) (join_len hx hy) fun i hi => by
  rw [join_at (join_len hx hy) hy hi, own_join hx hy, join_at hx hy hi]
  have a := mx_or ((ownL x).getD i 0) ((ownL y).getD i 0)
  have b := mx_or (mx ((ownL x).getD i 0) ((ownL y).getD i 0)) ((ownL y).getD i 0)
  omega
theorem more_join {x y : List Int} (hx : x.length = 16) (hy : y.length = 16) : joinL y (moreL x y) = joinL x y := ext16 (join_len hy (more_len hx hy)) (join_len hx hy) fun i hi => by
  have h1 := right_at (own_right x) i
  have h2 := right_at (own_right y) i
  rw [join_at hy (more_len hx hy) hi, own_more hx hy, more_at hx hy hi, join_at hx hy hi]
  have a := mx_or ((ownL x).getD i 0) ((ownL y).getD i 0)
  have b := mr_or ((ownL x).getD i 0) ((ownL y).getD i 0)
  have c := mx_or ((ownL y).getD i 0) (mr ((ownL x).getD i 0) ((ownL y).getD i 0))
  omega
theorem with_fst {x y : List Int} (hx : x.length = 16) (hy : y.length = 16) : withB x (joinL x y) = true := decide_eq_true (ext16 (more_len hx (join_len hx hy)) rfl fun i hi => by
  rw [more_at hx (join_len hx hy) hi, own_join hx hy, join_at hx hy hi, zero_at i hi]
  have a := mx_or ((ownL x).getD i 0) ((ownL y).getD i 0)
  have b := mr_or ((ownL x).getD i 0) (mx ((ownL x).getD i 0) ((ownL y).getD i 0))
  omega)
theorem with_snd {x y : List Int} (hx : x.length = 16) (hy : y.length = 16) : withB y (joinL x y) = true := decide_eq_true (ext16 (more_len hy (join_len hx hy)) rfl fun i hi => by
  rw [more_at hy (join_len hx hy) hi, own_join hx hy, join_at hx hy hi, zero_at i hi]
  have a := mx_or ((ownL x).getD i 0) ((ownL y).getD i 0)
  have b := mr_or ((ownL y).getD i 0) (mx ((ownL x).getD i 0) ((ownL y).getD i 0))
  omega)
theorem join_assoc {x y z : List Int} (hx : x.length = 16) (hy : y.length = 16) (hz : z.length = 16) : joinL (joinL x y) z = joinL x (joinL y z) := ext16 (join_len (join_len hx hy) hz) (join_len hx (join_len hy hz)) fun i hi => by
  rw [join_at (join_len hx hy) hz hi, join_at hx (join_len hy hz) hi, own_join hx hy, own_join hy hz, join_at hx hy hi, join_at hy hz hi]
  have a := mx_or ((ownL x).getD i 0) ((ownL y).getD i 0)
  have b := mx_or ((ownL y).getD i 0) ((ownL z).getD i 0)
  have c := mx_or (mx ((ownL x).getD i 0) ((ownL y).getD i 0)) ((ownL z).getD i 0)
  have d := mx_or ((ownL x).getD i 0) (mx ((ownL y).getD i 0) ((ownL z).getD i 0))
  omega
theorem add_at {l : List Int} {s : Nat} {a : Int} (hl : l.length = 16) (hs : s < 16) (i : Nat) : (s = i ∧ (l.set s (l.getD s 0 + a)).getD i 0 = l.getD i 0 + a) ∨ (s ≠ i ∧ (l.set s (l.getD s 0 + a)).getD i 0 = l.getD i 0) := by
  rw [List.getD_eq_getElem?_getD]
  by_cases e : s = i
  · subst e; left; rw [List.getElem?_set_self (by omega)]; exact ⟨rfl, rfl⟩
  · right; rw [List.getElem?_set_ne e, ← List.getD_eq_getElem?_getD]; exact ⟨e, rfl⟩
theorem add_value {l : List Int} {s : Nat} {a : Int} (hl : l.length = 16) (hr : rightB l = true) (hs : s < 16) (hm : rightB (l.set s (l.getD s 0 + a)) = true) {n : Int} (hn : n = if s < 8 then a else -a) : valueL (l.set s (l.getD s 0 + a)) = valueL l + n := by
  unfold valueL
  rw [own_own _ hr, own_own _ hm, sumTo_set (by omega) 8 (Nat.le_refl _), hn]
  by_cases h : s < 8
  · rw [if_pos h, if_pos h, if_neg (by omega)]; omega
  · rw [if_neg h, if_neg h, if_pos (by omega)]; omega
theorem add_with {l : List Int} {s : Nat} {a : Int} (hl : l.length = 16) (hr : rightB l = true) (hs : s < 16) (hm : rightB (l.set s (l.getD s 0 + a)) = true) (ha : 0 ≤ a) : withB l (l.set s (l.getD s 0 + a)) = true := decide_eq_true (ext16 (more_len hl (by simp [hl])) rfl fun i hi => by
  rw [more_at hl (by simp [hl]) hi, own_own _ hr, own_own _ hm, zero_at i hi]
  have h1 := add_at (a := a) hl hs i
  have h2 := mr_or (l.getD i 0) ((l.set s (l.getD s 0 + a)).getD i 0)
  omega)
theorem add_join {l : List Int} {s : Nat} {a : Int} (hl : l.length = 16) (hr : rightB l = true) (hs : s < 16) (hm : rightB (l.set s (l.getD s 0 + a)) = true) (ha : 0 ≤ a) : joinL l (l.set s (l.getD s 0 + a)) = l.set s (l.getD s 0 + a) := ext16 (join_len hl (by simp [hl])) (by simp [hl]) fun i hi => by
  rw [join_at hl (by simp [hl]) hi, own_own _ hr, own_own _ hm]
  have h1 := add_at (a := a) hl hs i
  have h2 := mx_or (l.getD i 0) ((l.set s (l.getD s 0 + a)).getD i 0)
  omega
theorem add_back {l : List Int} {s : Nat} {a : Int} (hl : l.length = 16) (hr : rightB l = true) (hs : s < 16) (hm : rightB (l.set s (l.getD s 0 + a)) = true) (ha : 0 ≤ a) : withB (l.set s (l.getD s 0 + a)) l = decide (a = 0) := by
  unfold withB
  refine decide_eq_decide.2 ⟨fun h => ?_, fun h => ?_⟩
  · have h1 := more_at (l := l.set s (l.getD s 0 + a)) (m := l) (by simp [hl]) hl hs
    rw [h, zero_at s hs, own_own _ hr, own_own _ hm] at h1
    have h3 := add_at (a := a) hl hs s
    have h2 := right_at hr s
    have h4 := mr_or ((l.set s (l.getD s 0 + a)).getD s 0) (l.getD s 0)
    omega
  · refine ext16 (more_len (by simp [hl]) hl) rfl fun i hi => ?_
    rw [more_at (by simp [hl]) hl hi, own_own _ hr, own_own _ hm, zero_at i hi]
    have h3 := add_at (a := a) hl hs i
    have h4 := mr_or ((l.set s (l.getD s 0 + a)).getD i 0) (l.getD i 0)
    omega
end Go.Proofs.YtocoohpekpkmkaaGreat

/- Plain laws of copies that are counted in and joined: all together they are what was counted. -/
namespace Go.Proofs.YtocoohpekpkmkaaGreat
set_option linter.unusedVariables false
set_option linter.unusedSimpArgs false
open Tally
theorem gd_set {α : Type} {l : List α} {a : Nat} (ha : a < l.length) (j : Nat) (x d : α) : (l.set a x).getD j d = if a = j then x else l.getD j d := by
  rw [List.getD_eq_getElem?_getD]
  split
  · rename_i e; subst e; rw [List.getElem?_set_self ha]; rfl
  · rename_i e; rw [List.getElem?_set_ne e, ← List.getD_eq_getElem?_getD]
/-- Copies os of eight nodes; T is what was counted. -/
structure Cop (os : List (List Int)) (T : List Int) : Prop where
  n : os.length = 8
  t : T.length = 16
  len : ∀ j, j < 8 → (os.getD j []).length = 16
  right : ∀ j, j < 8 → rightB (os.getD j []) = true
  le : ∀ j, j < 8 → ∀ i, i < 16 → (os.getD j []).getD i 0 ≤ T.getD i 0
  own : ∀ j, j < 8 → ∀ i, i < 16 → i % 8 = j → (os.getD j []).getD i 0 = T.getD i 0
section
variable {os : List (List Int)} {T : List Int} {a b : Nat}
theorem Cop.start : Cop (List.replicate 8 zero) zero := by
  have h : ∀ j, j < 8 → (List.replicate 8 zero).getD j [] = zero := fun j hj => by rw [List.getD_eq_getElem?_getD, List.getElem?_replicate, if_pos hj]; rfl
  exact ⟨rfl, rfl, fun j hj => by rw [h j hj]; rfl, fun j hj => by rw [h j hj]; exact zero_right, fun j hj i hi => by rw [h j hj]; exact Int.le_refl _, fun j hj i hi _ => by rw [h j hj]⟩
theorem Cop.join (h : Cop os T) (ha : a < 8) (hb : b < 8) : Cop (os.set a (joinL (os.getD a []) (os.getD b []))) T := by
  have hla := h.len a ha
  have hlb := h.len b hb
  have hat : ∀ i, i < 16 → (joinL (os.getD a []) (os.getD b [])).getD i 0 = mx ((os.getD a []).getD i 0) ((os.getD b []).getD i 0) := fun i hi => by
    rw [join_at hla hlb hi, own_own _ (h.right a ha), own_own _ (h.right b hb)]
  have hg : ∀ j, (os.set a (joinL (os.getD a []) (os.getD b []))).getD j [] = if a = j then joinL (os.getD a []) (os.getD b []) else os.getD j [] := fun j => gd_set (by rw [h.n]; exact ha) j _ _
  refine ⟨by rw [List.length_set, h.n], h.t, fun j hj => ?_, fun j hj => ?_, fun j hj i hi => ?_, fun j hj i hi e => ?_⟩ <;> rw [hg j] <;> split
  · exact join_len hla hlb
  · exact h.len j hj
  · exact join_right hla hlb
  · exact h.right j hj
  · rw [hat i hi]
    have h1 := h.le a ha i hi
    have h2 := h.le b hb i hi
    have h3 := mx_or ((os.getD a []).getD i 0) ((os.getD b []).getD i 0)
    omega
  · exact h.le j hj i hi
  · rename_i e2
    subst e2
    rw [hat i hi]
    have h1 := h.own a ha i hi e
    have h2 := h.le b hb i hi
    have h3 := mx_or ((os.getD a []).getD i 0) ((os.getD b []).getD i 0)
    omega
  · exact h.own j hj i hi e
theorem slot_lt {a : Nat} {n : Int} (ha : a < 8) : slot a n < 16 ∧ slot a n % 8 = a := by
  unfold slot
  split <;> simp <;> omega
theorem amt_nn (n : Int) : 0 ≤ amt n := by unfold amt; split <;> omega
theorem Cop.add (h : Cop os T) (ha : a < 8) {n : Int} (hr : rightB ((os.getD a []).set (slot a n) ((os.getD a []).getD (slot a n) 0 + amt n)) = true) :
    Cop (os.set a ((os.getD a []).set (slot a n) ((os.getD a []).getD (slot a n) 0 + amt n))) (T.set (slot a n) (T.getD (slot a n) 0 + amt n)) := by
  obtain ⟨hs, hm⟩ := slot_lt (n := n) ha
  have hla := h.len a ha
  have hn := amt_nn n
  have hg : ∀ (x : List Int) j, (os.set a x).getD j [] = if a = j then x else os.getD j [] := fun x j => gd_set (by rw [h.n]; exact ha) j _ _
  have hT : ∀ i, (T.set (slot a n) (T.getD (slot a n) 0 + amt n)).getD i 0 = if slot a n = i then T.getD (slot a n) 0 + amt n else T.getD i 0 := fun i => gd_set (by rw [h.t]; exact hs) i _ _
  have hL : ∀ i, ((os.getD a []).set (slot a n) ((os.getD a []).getD (slot a n) 0 + amt n)).getD i 0 = if slot a n = i then (os.getD a []).getD (slot a n) 0 + amt n else (os.getD a []).getD i 0 := fun i => gd_set (by rw [hla]; exact hs) i _ _
  refine ⟨by rw [List.length_set, h.n], by rw [List.length_set, h.t], fun j hj => ?_, fun j hj => ?_, fun j hj i hi => ?_, fun j hj i hi e => ?_⟩ <;> rw [hg] <;> split
  · rw [List.length_set, hla]
  · exact h.len j hj
  · exact hr
  · exact h.right j hj
  · rw [hL, hT]
    have h1 := h.le a ha i hi
    have h2 := h.le a ha _ hs
    split <;> omega
  · rw [hT]
    have h1 := h.le j hj i hi
    split
    · rename_i e3; rw [e3]; omega
    · exact h1
  · rename_i e2
    subst e2
    rw [hL, hT]
    split
    · rw [h.own a ha _ hs hm]
    · exact h.own a ha i hi e
  · rename_i e2
    rw [hT, if_neg (by intro e3; rw [e3] at hm; omega)]
    exact h.own j hj i hi e
theorem add_sum {T : List Int} (hT : T.length = 16) {a : Nat} (ha : a < 8) (n : Int) : sumTo (T.set (slot a n) (T.getD (slot a n) 0 + amt n)) 8 = sumTo T 8 + n := by
  obtain ⟨hs, hm⟩ := slot_lt (n := n) ha
  rw [sumTo_set (by omega) 8 (Nat.le_refl _)]
  unfold slot amt at *
  split
  · rw [if_neg (by omega), if_pos (by omega)]; omega
  · rw [if_pos (by omega), if_neg (by omega)]; omega
/-- all is within a bound -/
def Upto (T : List Int) (B : Int) : Prop := ∀ i, i < 16 → T.getD i 0 ≤ B
theorem Upto.add {T : List Int} {B : Int} (h : Upto T B) (hT : T.length = 16) (ha : a < 8) {n : Int} (hn : -999999 ≤ n ∧ n ≤ 999999) : Upto (T.set (slot a n) (T.getD (slot a n) 0 + amt n)) (B + 999999) := by
  intro i hi
  obtain ⟨hs, hm⟩ := slot_lt (n := n) ha
  rw [gd_set (by rw [hT]; exact hs)]
  have h1 := h i hi
  have h2 := h _ hs
  have h3 : amt n ≤ 999999 := by unfold amt; split <;> omega
  split <;> omega
theorem Cop.take_ok (h : Cop os T) {B : Int} (hB : Upto T B) (hb : B ≤ 300000000) (ha : a < 8) {n : Int} (hn : -999999 ≤ n ∧ n ≤ 999999) : addL (os.getD a []) a n = ((os.getD a []).set (slot a n) ((os.getD a []).getD (slot a n) 0 + amt n), 0) ∧ rightB ((os.getD a []).set (slot a n) ((os.getD a []).getD (slot a n) 0 + amt n)) = true := by
  obtain ⟨hs, hm⟩ := slot_lt (n := n) ha
  have h1 := h.le a ha _ hs
  have h2 := hB _ hs
  have h3 : amt n ≤ 999999 := by unfold amt; split <;> omega
  have ht : top = 1099511627776 := rfl
  have e := add_ok (l := os.getD a []) (node := a) (n := n) (h.right a ha) ((inB_iff _ _ _).2 (by omega)) ((inB_iff _ _ _).2 (by omega)) (by omega)
  refine ⟨e, ?_⟩
  have := (add_len (h.len a ha) a n).2
  rw [e] at this
  exact this
/-- the first k, joined -/
def joinTo (os : List (List Int)) : Nat → List Int
  | 0 => zero
  | k + 1 => joinL (joinTo os k) (os.getD k [])
theorem joinTo_spec (h : Cop os T) : ∀ k, k ≤ 8 → (joinTo os k).length = 16 ∧ rightB (joinTo os k) = true ∧ ∀ i, i < 16 → (joinTo os k).getD i 0 ≤ T.getD i 0 ∧ (i % 8 < k → (joinTo os k).getD i 0 = T.getD i 0) := by
  intro k
  induction k with
  | zero =>
    intro _
    refine ⟨rfl, zero_right, fun i hi => ⟨?_, fun h => absurd h (by omega)⟩⟩
    rw [show joinTo os 0 = zero from rfl, zero_at i hi]
    have h1 := h.own (i % 8) (by omega) i hi rfl
    have h2 := right_at (h.right (i % 8) (by omega)) i
    omega
  | succ k ih =>
    intro hk
    obtain ⟨h1, h2, h3⟩ := ih (by omega)
    have hl := h.len k (by omega)
    refine ⟨join_len h1 hl, join_right h1 hl, fun i hi => ?_⟩
    rw [show joinTo os (k + 1) = joinL (joinTo os k) (os.getD k []) from rfl, join_at h1 hl hi, own_own _ h2, own_own _ (h.right k (by omega))]
    have h4 := h.le k (by omega) i hi
    have h5 := h.own k (by omega) i hi
    have h6 := h3 i hi
    have h7 := mx_or ((joinTo os k).getD i 0) ((os.getD k []).getD i 0)
    refine ⟨by omega, fun h8 => ?_⟩
    by_cases e : i % 8 = k
    · have := h5 e; omega
    · have := h6.2 (by omega); omega
theorem joinTo_all (h : Cop os T) : joinTo os 8 = T := by
  obtain ⟨h1, h2, h3⟩ := joinTo_spec h 8 (Nat.le_refl _)
  exact ext16 h1 h.t fun i hi => (h3 i hi).2 (by omega)
theorem joinTo_value (h : Cop os T) : valueL (joinTo os 8) = sumTo T 8 := by
  obtain ⟨h1, h2, h3⟩ := joinTo_spec h 8 (Nat.le_refl _)
  unfold valueL
  rw [own_own _ h2, joinTo_all h]
end
end Go.Proofs.YtocoohpekpkmkaaGreat

/- What the rows' proofs share: how an argument that came in reads. -/
namespace Go.Proofs.YtocoohpekpkmkaaGreat
set_option linter.unusedVariables false
set_option linter.unusedSimpArgs false
open Go.ChangeShapes Go.WideShapes Go.ChangeAt Go.RowKit

theorem own : ownKnob Tryz.prog.godebug = none := by kernel_rfl
theorem laidOut : laidOutB Tryz.prog = true := by kernel_rfl
/-- What a byte slice's cell reads as. -/
theorem rd_bytes {H : Type} {enc : TypeId × Value → H} {W : World} {base : Nat} {sp : Nat → Bool} {held : Bool} {fuel : Nat} {cs : List Value} {x : DataW H × List MemPlace}
    (hf : DataW.trod enc Tryz.prog W base sp held fuel 63 cs = some x) :
    ∃ (a : Option Addr) (n cap : Nat) (bs : List UInt8), cs = [.slice a n cap] ∧ RdB W W.heap.size a n bs ∧ n ≤ cap ∧ cap ≤ maxLen := by
  rcases open_ints Tryz.underlying63 Tryz.underlying5 (by kernel_rfl) hf with ⟨hcs, _⟩ | ⟨x, len0, cap0, zs, hcs, _, hl, hm, hz, _, hcell, hwz⟩
  · exact ⟨_, _, _, [], hcs, RdB.nil _ _ _, Nat.le_refl _, Nat.zero_le _⟩
  · have hz' : len0 ≤ zs.length := by rw [hz]; split <;> omega
    have hlen : ((zs.take len0).map fun z => UInt8.ofNat z.toNat).length = len0 := by simp; omega
    refine ⟨_, len0, cap0, (zs.take len0).map fun z => UInt8.ofNat z.toNat, hcs, ⟨hlen.symm, ?_⟩, hl, hm⟩
    intro j u hu
    simp only [List.getElem?_map, List.getElem?_take] at hu
    by_cases hj : j < len0
    · rw [if_pos hj] at hu
      have hjz : j < zs.length := by omega
      have hw := hwz zs[j] (List.getElem_mem hjz)
      have hw2 : 0 ≤ zs[j] ∧ zs[j] < 256 := by
        have hmin : IntKind.u8.min = 0 := rfl
        have hmax : IntKind.u8.max = 255 := rfl
        simp only [Lit.wf, Bool.and_eq_true, decide_eq_true_eq] at hw
        omega
      have hcj := hcell j hjz
      rw [List.getD_eq_getElem?_getD, List.getElem?_eq_getElem hjz] at hcj
      rw [List.getElem?_eq_getElem hjz] at hu
      simp only [Option.map_some, Option.some.injEq] at hu
      refine ⟨x, rfl, ?_, ?_⟩
      · have := World.block_lt_of_cell? W _ hcj
        rwa [block_add] at this
      · rw [hcj, ← hu]
        show some (Value.int .u8 zs[j]) = some (Value.int .u8 _)
        have : ((UInt8.ofNat zs[j].toNat).toNat : Int) = zs[j] := by
          rw [UInt8.toNat_ofNat']
          omega
        rw [this]
    · rw [if_neg hj] at hu; simp at hu
set_option maxRecDepth 100000
/-- A slice of bytes that came in. -/
theorem open_bytesC {H : Type} {enc : TypeId × Value → H} {W : World} {base : Nat} {sp : Nat → Bool} {held : Bool} {r : Reach} {b0 : Nat} {v : Value} {d : DataW H} {p : List MemPlace}
    (hv : Value.okWide Tryz.prog W r b0 63 v) (h : DataW.Trod enc Tryz.prog W base sp held 63 v d p) :
    ∃ (a : Option Addr) (n cap : Nat) (bs : List UInt8), v = .slice a n cap ∧ RdB W W.heap.size a n bs ∧ n ≤ cap ∧ cap ≤ maxLen := by
  obtain ⟨a0, len0, cap0, rfl⟩ := okWide_slice Tryz.underlying63 hv
  obtain ⟨fuel, hf⟩ := h
  obtain ⟨a, n, c, bs, h1, h2⟩ := rd_bytes hf
  simp [Value.cells] at h1
  obtain ⟨rfl, rfl, rfl⟩ := h1
  exact ⟨_, _, _, bs, rfl, h2⟩
theorem open_bytes {H : Type} {enc : TypeId × Value → H} {W : World} {base : Nat} {sp : Nat → Bool} {held : Bool} {r : Reach} {b0 : Nat} {v : Value} {d : DataW H} {p : List MemPlace}
    (hv : Value.okWide Tryz.prog W r b0 63 v) (h : DataW.Trod enc Tryz.prog W base sp held 63 v d p) :
    ∃ (a : Option Addr) (n cap : Nat) (bs : List UInt8), v = .slice a n cap ∧ RdB W W.heap.size a n bs ∧ n ≤ maxLen := by
  obtain ⟨a, n, c, bs, h1, h2, h3, h4⟩ := open_bytesC hv h
  exact ⟨a, n, c, bs, h1, h2, Nat.le_trans h3 h4⟩
end Go.Proofs.YtocoohpekpkmkaaGreat

namespace Go.Proofs.YtocoohpekpkmkaaGreat
set_option linter.unusedVariables false
set_option linter.unusedSimpArgs false
open Go.ChangeShapes Go.WideShapes Go.ChangeAt Go.RowKit Go.Deep

section
variable {H : Type} {enc : TypeId × Value → H} {W : World} {base : Nat} {sp : Nat → Bool} {held : Bool} {fuel : Nat} {cs : List Value} {x : DataW H × List MemPlace}
/-- an int's cell -/
theorem rd_int (hf : DataW.trod enc Tryz.prog W base sp held fuel 3 cs = some x) : ∃ z : Int, cs = [.int .i64 z] ∧ -9223372036854775808 ≤ z ∧ z ≤ 9223372036854775807 := by
  obtain ⟨z, h1, _, hw⟩ := DataW.trod_int Tryz.underlying3 hf
  refine ⟨z, h1, ?_⟩
  have hmin : IntKind.i64.min = -9223372036854775808 := rfl
  have hmax : IntKind.i64.max = 9223372036854775807 := rfl
  simp only [Lit.wf, Bool.and_eq_true, decide_eq_true_eq] at hw
  omega
/-- a struct's field, as its cells -/
theorem rd_field {t : TypeId} {fs : Array Field} (ht : (Tryz.prog).underlying t = some (.struct fs)) (hf : DataW.trod enc Tryz.prog W base sp held fuel t cs = some x) (j T o m : Nat)
    (hj : (fs[j]?).map (fun f => (f.type, f.offset)) = some (T, o)) (hm : (Tryz.prog).cellsOf T = m) : ∃ n y, DataW.trod enc Tryz.prog W base sp held n T ((cs.drop o).take m) = some y := by
  obtain ⟨xs, n, _, _, _, hxl, hg⟩ := DataW.trod_struct ht hf
  obtain ⟨f, hf1, hf2⟩ := Option.map_eq_some_iff.1 hj
  injection hf2 with h1 h2
  have hjl : j < xs.length := by
    rw [hxl]
    exact (Array.getElem?_eq_some_iff.1 hf1).1
  have h := hg j f hf1
  rw [h1, h2, hm, List.getElem?_eq_getElem hjl] at h
  exact ⟨n, _, h⟩
theorem rd_len {t : TypeId} {fs : Array Field} {m : Nat} (ht : (Tryz.prog).underlying t = some (.struct fs)) (hm : (Tryz.prog).cellsOf t = m) (hf : DataW.trod enc Tryz.prog W base sp held fuel t cs = some x) : cs.length = m := by
  obtain ⟨xs, n, _, _, hl, _⟩ := DataW.trod_struct ht hf
  rw [hl, hm]
/-- a slice's elements, each as its cells -/
theorem rd_slice {t e : TypeId} {m : Nat} (ht : (Tryz.prog).underlying t = some (.slice e)) (hm : (Tryz.prog).cellsOf e = m) (hf : DataW.trod enc Tryz.prog W base sp held fuel t cs = some x) :
    ∃ (a : Option Addr) (n cap : Nat), cs = [.slice a n cap] ∧ n ≤ cap ∧ cap ≤ maxLen ∧ ∀ i, i < n → ∃ (ad : Addr) (cs' : List Value) (fuel' : Nat) (x' : DataW H × List MemPlace), a = some ad ∧ cs'.length = m ∧ (∀ j, j < m → W.cell? ((ad.add (i * m)).add j) = cs'[j]?) ∧ DataW.trod enc Tryz.prog W base sp held fuel' e cs' = some x' := by
  rcases open_slice ht hf with ⟨h0, _⟩ | ⟨a, len, cap, k, n, D, Pl, hcs, hb, hl, hc, hk, hx, hi⟩
  · exact ⟨none, 0, 0, h0, Nat.le_refl _, Nat.zero_le _, fun i h => absurd h (Nat.not_lt_zero _)⟩
  · refine ⟨some a, len, cap, hcs, hl, hc, fun i h => ?_⟩
    have hik : i < k := by rw [hk]; split <;> omega
    obtain ⟨cs', hc', ht'⟩ := hi i hik
    rw [hm] at hc'
    obtain ⟨_, hcl, hat⟩ := World.cells?_some hc'
    exact ⟨a, cs', n, _, rfl, hcl, fun j hj => hat j hj, ht'⟩
end
end Go.Proofs.YtocoohpekpkmkaaGreat
